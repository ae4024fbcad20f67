/-
  Column.
-/
import Derived.Test.YticpjaooegpipaaDoorParIdx
import Derived.Laws.OwnMore
import Derived.OwnWalk
namespace Go.Proofs.YticpjaooegpipaaDoor
open Go.RowKit Go.Maps

theorem info_elem : (Tryd.prog.info? 46).map (fun i => (i.zero, i.size, i.bytes)) = some (some (.agg #[.int .u64 0, .int .u64 0, .int .u64 0, .int .u64 0]), 4, 32) := by kernel_rfl
/-- A share's number at a chunk. -/
def colv (s : Shr) (c : Int) : Nat := if 0 ≤ c ∧ c < (s.ps.length : Int) then s.ps.getD c.toNat 0 else 0
/-- The cells of a column, of which the first k are written. -/
def ColRow (ss : List Shr) (c : Int) (k m : Nat) (xs : List Value) : Prop := xs.length = m * 4 ∧ ∀ j s, ss[j]? = some s → ∀ i, i < 4 → xs[j * 4 + i]? = some (.int .u64 (limb (if j < k then colv s c else 0) i : Int))
theorem ColRow.skip {ss : List Shr} {c : Int} {k m : Nat} {xs : List Value} {s : Shr} (h : ColRow ss c k m xs) (hs : ss[k]? = some s) (h0 : colv s c = 0) : ColRow ss c (k + 1) m xs := by
  refine ⟨h.1, fun j s' hj i hi => ?_⟩
  rw [h.2 j s' hj i hi]
  by_cases hjk : j = k
  · subst hjk
    obtain rfl : s = s' := Option.some.inj (hs.symm.trans hj)
    rw [h0]; simp
  · by_cases h1 : j < k
    · rw [if_pos h1, if_pos (by omega)]
    · rw [if_neg h1, if_neg (by omega)]
set_option maxHeartbeats 400000 in
theorem ColRow.store {ss : List Shr} {c : Int} {k m : Nat} {xs : List Value} {s : Shr} (h : ColRow ss c k m xs) (hs : ss[k]? = some s) (hk : k < m) (x : Nat) (hx : colv s c = x) :
    ColRow ss c (k + 1) m ((((xs.set (k * 4) (.int .u64 (limb x 0 : Int))).set (k * 4 + 1) (.int .u64 (limb x 1 : Int))).set (k * 4 + 2) (.int .u64 (limb x 2 : Int))).set (k * 4 + 3) (.int .u64 (limb x 3 : Int))) := by
  obtain ⟨hl, h⟩ := h
  refine ⟨by simp [hl], fun j s' hj i hi => ?_⟩
  by_cases hjk : j = k
  · subst hjk
    obtain rfl : s = s' := Option.some.inj (hs.symm.trans hj)
    rw [if_pos (by omega), hx]
    match i, hi with
    | 0, _ => simp [List.getElem?_set, hl]; omega
    | 1, _ => simp [List.getElem?_set, hl]; omega
    | 2, _ => simp [List.getElem?_set, hl]; omega
    | 3, _ => simp [List.getElem?_set, hl]; omega
  · have e := h j s' hj i hi
    rw [List.getElem?_set_ne (by omega), List.getElem?_set_ne (by omega), List.getElem?_set_ne (by omega), List.getElem?_set_ne (by omega), e]
    by_cases h1 : j < k
    · rw [if_pos h1, if_pos (by omega)]
    · rw [if_neg h1, if_neg (by omega)]
theorem made_zero (m j i : Nat) (hj : j < m) (hi : i < 4) : (madeCells (Value.agg #[.int .u64 0, .int .u64 0, .int .u64 0, .int .u64 0]).cells (m * 4)).toList[j * 4 + i]? = some (.int .u64 ((0 : Nat) : Int)) := by
  have h1 : j * 4 + i < m * 4 := by omega
  have h2 : (j * 4 + i) % 4 = i := by omega
  show (madeCells #[.int .u64 0, .int .u64 0, .int .u64 0, .int .u64 0] (m * 4)).toList[j * 4 + i]? = _
  rw [Array.getElem?_toList, madeCells]
  simp only [Array.getElem?_map, Array.getElem?_range, h1, if_pos, Option.map_some]
  match i, hi with
  | 0, _ => simp
  | 1, _ => simp [h2]
  | 2, _ => simp [h2]
  | 3, _ => simp [h2]
theorem limb_zero (i : Nat) : limb 0 i = 0 := by rw [limb_eq]; simp
/-- It returns a new slice with the column. -/
def RetCol (t : TypeId) (ss : List Shr) (c : Int) (m : Nat) (w : World) : Ending → World → Prop := fun e w' => ∃ v xs, e = .returned v ∧ w'.ownsRow w.heap.size t 4 v m xs ∧ ColRow ss c m m xs ∧ Below w.heap.size w w'
set_option maxRecDepth 100000 in
set_option maxHeartbeats 400000 in
theorem column_any (v : Value) (ss : List Shr) (c : Int) (w : World) (hS : ShSl w v ss) (hl : ss.length < 1000000) (hp : ∀ s ∈ ss, s.ps.length < 1000000) : Calls Tryd.prog 19 #[v, .int .i64 c] w (RetCol 46 ss c ss.length w) := by
  obtain ⟨i0, hi, hz0, hz1, hz2⟩ := info_parts info_elem
  obtain ⟨a, cap, rfl, _, hrow⟩ := hS
  obtain ⟨m, hm⟩ : ∃ m, ss.length = m := ⟨_, rfl⟩
  have HM := hid hm
  have HR := hid hrow
  have HP := hid hp
  rw [hm] at hl ⊢
  clear hm hrow hp
  go_enter Tryd.func19, Tryd.ntmps19
  go_wp2_with (first | (at_make; refine wpList_make_full _ rfl _ _ 29 rfl w.heap.size 46 i0 _ 4 Tryd.underlying29 hi hz0 hz1 .i64 .i64 _ _ m rfl rfl (by first | rfl | omega) (by first | rfl | omega) (by rw [hz2]; omega) (by unfold maxLen; omega) (by simp) ?_; intro w1 hown1 hgrow1) | go_in)
  have B1 := hid (Below.grown (Below.refl w.heap.size w) hgrow1 (Nat.le_refl _) (fun j hj => by cases hj))
  have hcr : ColRow ss c 0 m (madeCells (Value.agg #[.int .u64 0, .int .u64 0, .int .u64 0, .int .u64 0]).cells (m * 4)).toList := by
    refine ⟨by rw [Array.length_toList]; exact size_madeCells _ _, fun j s hj i hi => ?_⟩
    have hjm : j < m := by rw [← HM.out]; exact (List.getElem?_eq_some_iff.1 hj).1
    rw [if_neg (Nat.not_lt_zero _), limb_zero]
    exact made_zero m j i hjm hi
  have O1 := hid hown1
  have C1 := hid hcr
  clear hcr hown1 hgrow1 hi hz0 hz1 hz2
  go_wp2
  go_loopw [13] (fun x wr => ∃ (k : Nat) (xs : List Value), k ≤ m ∧ x = .int .i64 (k : Int) ∧ wr.ownsRow w.heap.size 46 4 (.slice (some ⟨w.heap.size, 0, none⟩) m m) m xs ∧ ColRow ss c k m xs ∧ Below w.heap.size w wr) (fun x _ => m - (intOf x).toNat)
  case atStart => exact ⟨0, _, Nat.zero_le _, rfl, O1.out, C1.out, B1.out⟩
  case round =>
    obtain ⟨k, xs, hk, rfl, hown, hcr, hB⟩ := hrel
    have zB := hB.size
    have HB := hid hB
    have HO := hid hown
    have HC := hid hcr
    have zO := (hown.lt _ rfl).2
    clear hB hcr
    by_cases hlt : k < m
    · obtain ⟨s, hx⟩ : ∃ s, ss[k]? = some s := ⟨ss[k]'(by rw [HM.out]; exact hlt), List.getElem?_eq_getElem _⟩
      obtain ⟨g, off, hga, he⟩ : ∃ g off, a = some ⟨g, off, none⟩ ∧ ShsAt w g off ss := by
        rcases HR.out with h | h
        · subst h; cases hx
        · exact h
      subst hga
      obtain ⟨lp, e0, e1, e2, e3, e4⟩ := he k s hx
      have hg := World.block_lt_of_cell? w _ e0
      have hgr := Nat.lt_of_lt_of_le hg zB
      have HX := hid hx
      have d0 := (HB.out.cell (p := ⟨g, off + k * 5, none⟩) hg).trans e0
      have d1 := (HB.out.cell (p := ⟨g, off + k * 5 + 1, none⟩) hg).trans e1
      have d2 := (HB.out.cell (p := ⟨g, off + k * 5 + 2, none⟩) hg).trans e2
      have d3 := (HB.out.cell (p := ⟨g, off + k * 5 + 3, none⟩) hg).trans e3
      have d4 := (HB.out.cell (p := ⟨g, off + k * 5 + 4, none⟩) hg).trans e4
      obtain ⟨pa, pc, hv, _, hps⟩ := lp
      obtain ⟨pm, hpm⟩ : ∃ n, s.ps.length = n := ⟨_, rfl⟩
      have hpl : pm < 1000000 := by rw [← hpm]; exact HP.out s (List.mem_of_getElem? hx)
      have hw : wrap64 ((pm : Int) - 1) = (pm : Int) - 1 := by unfold wrap64; omega
      have HPM := hid hpm
      rw [hpm] at hv
      rw [hv] at d4
      clear e0 e1 e2 e3 e4 he hx hv hpm
      by_cases hc : 0 ≤ c ∧ c ≤ (pm : Int) - 1
      · obtain ⟨q, rfl⟩ : ∃ q : Nat, c = (q : Int) := ⟨c.toNat, by omega⟩
        have hq : q < pm := by omega
        obtain ⟨x, hxq⟩ : ∃ x, s.ps[q]? = some x := ⟨s.ps[q]'(by rw [HPM.out]; exact hq), List.getElem?_eq_getElem _⟩
        obtain ⟨pg, po, hpa, hpe⟩ : ∃ g off, pa = some ⟨g, off, none⟩ ∧ VecsAt w g off s.ps := by
          rcases hps with h | h
          · rw [h] at hxq; cases hxq
          · exact h
        subst hpa
        obtain ⟨_, y0, y1, y2, y3⟩ := hpe q x hxq
        have hpg : pg < w.heap.size := World.block_lt_of_cell? w _ y0
        have hpgr := Nat.lt_of_lt_of_le hpg zB
        have hpne : w.heap.size ≠ pg := by omega
        have u0 := (HB.out.cell (p := ⟨pg, po + q * 4, none⟩) hpg).trans y0
        have u1 := (HB.out.cell (p := ⟨pg, po + q * 4 + 1, none⟩) hpg).trans y1
        have u2 := (HB.out.cell (p := ⟨pg, po + q * 4 + 2, none⟩) hpg).trans y2
        have u3 := (HB.out.cell (p := ⟨pg, po + q * 4 + 3, none⟩) hpg).trans y3
        have hcv : colv s (q : Int) = x := by
          unfold colv
          rw [if_pos ⟨by omega, by rw [HPM.out]; omega⟩]
          simp [List.getD, hxq]
        have HCV := hid hcv
        have t0 := (hown.cellAt (k * 4) (by omega)).trans (HC.out.2 k s HX.out 0 (by omega))
        have t1 := (hown.cellAt (k * 4 + 1) (by omega)).trans (HC.out.2 k s HX.out 1 (by omega))
        have t2 := (hown.cellAt (k * 4 + 2) (by omega)).trans (HC.out.2 k s HX.out 2 (by omega))
        have t3 := (hown.cellAt (k * 4 + 3) (by omega)).trans (HC.out.2 k s HX.out 3 (by omega))
        have f0 := hown.frozenAt (k * 4)
        have f1 := hown.frozenAt (k * 4 + 1)
        have f2 := hown.frozenAt (k * 4 + 2)
        have f3 := hown.frozenAt (k * 4 + 3)
        clear y0 y1 y2 y3 hpe hps hxq hcv hown
        go_wp2_with (go_at_call 26; refine (between_t _ _ _ (by omega) _).mono ?_; rintro e wq ⟨rfl, rfl⟩)
        go_roundw
        case rel =>
          refine ⟨k + 1, _, by omega, by go_num, ?_, HC.out.store HX.out hlt x HCV.out, ?_⟩
          · exact ((((HO.out.stored (k * 4) _).1.stored (k * 4 + 1) _).1.stored (k * 4 + 2) _).1.stored (k * 4 + 3) _).1.alloc _
          · exact ((((HB.out.setCell (by exact Nat.le_refl _) _).setCell (by exact Nat.le_refl _) _).setCell (by exact Nat.le_refl _) _).setCell (by exact Nat.le_refl _) _).alloc (by simp; exact zB) _
        case measure => simp [intOf]; omega
      · have HCV := hid (show colv s c = 0 by unfold colv; rw [if_neg (fun h => hc ⟨h.1, by have := h.2; rw [HPM.out] at this; omega⟩)])
        have hc9 := hid hc
        clear hown hps
        go_wp2_with (go_at_call 26; refine (between_f _ _ _ hc9.out _).mono ?_; rintro e wq ⟨rfl, rfl⟩)
        go_roundw
        case rel => exact ⟨k + 1, xs, by omega, by go_num, HO.out.alloc _, HC.out.skip HX.out HCV.out, HB.out.alloc zB _⟩
        case measure => simp [intOf]; omega
    · obtain rfl : k = m := by omega
      clear hown
      go_wp2
      go_ret
      exact ⟨_, _, rfl, HO.out, HC.out, HB.out⟩
end Go.Proofs.YticpjaooegpipaaDoor
