/-
  The reference's Column.
-/
import Derived.Test.YticpjaooegpipaaDoorParCol
import Derived.Laws.AppendOwn
import Derived.OneCell
namespace Go.Proofs.YticpjaooegpipaaDoor
open Go.RowKit Go.Maps

theorem info_t4 : (Tryd.prog.info? 45).map (fun i => (i.zero, i.size, i.bytes)) = some (some (.agg #[.int .u64 0, .int .u64 0, .int .u64 0, .int .u64 0]), 4, 32) := by kernel_rfl
/-- The first k shares' cells of a column. -/
def ColPre (ss : List Shr) (c : Int) (k : Nat) (xs : List Value) : Prop := xs.length = k * 4 ∧ ∀ j s, j < k → ss[j]? = some s → ∀ i, i < 4 → xs[j * 4 + i]? = some (.int .u64 (limb (colv s c) i : Int))
theorem ColPre.step {ss : List Shr} {c : Int} {k : Nat} {xs : List Value} {s : Shr} (h : ColPre ss c k xs) (hs : ss[k]? = some s) (x : Nat) (hx : colv s c = x) :
    ColPre ss c (k + 1) (xs ++ [.int .u64 (limb x 0 : Int), .int .u64 (limb x 1 : Int), .int .u64 (limb x 2 : Int), .int .u64 (limb x 3 : Int)]) := by
  obtain ⟨hl, h⟩ := h
  refine ⟨by simp [hl]; omega, fun j s' hj hs' i hi => ?_⟩
  by_cases hjk : j = k
  · subst hjk
    obtain rfl : s = s' := Option.some.inj (hs.symm.trans hs')
    rw [hx, List.getElem?_append_right (by omega), show j * 4 + i - xs.length = i by omega]
    match i, hi with
    | 0, _ => rfl
    | 1, _ => rfl
    | 2, _ => rfl
    | 3, _ => rfl
  · rw [List.getElem?_append_left (by omega)]
    exact h j s' (by omega) hs' i hi
theorem ColPre.zero {ss : List Shr} {c : Int} {k : Nat} {xs : List Value} {s : Shr} (h : ColPre ss c k xs) (hs : ss[k]? = some s) (hx : colv s c = 0) :
    ColPre ss c (k + 1) (xs ++ [.int .u64 0, .int .u64 0, .int .u64 0, .int .u64 0]) := by
  have e := h.step hs 0 hx
  rw [limb_zero, limb_zero, limb_zero, limb_zero] at e
  exact e
theorem ColPre.row {ss : List Shr} {c : Int} {xs : List Value} {m : Nat} (h : ColPre ss c m xs) (hm : ss.length = m) : ColRow ss c m m xs := by
  refine ⟨h.1, fun j s hj i hi => ?_⟩
  have hlt : j < m := by rw [← hm]; exact (List.getElem?_eq_some_iff.1 hj).1
  rw [if_pos hlt]
  exact h.2 j s hlt hj i hi
set_option maxRecDepth 100000 in
set_option maxHeartbeats 600000 in
theorem rcolumn_any (v : Value) (ss : List Shr) (c : Int) (w : World) (hS : ShSl w v ss) (hl : ss.length < 1000000) : Calls Tryd.prog 20 #[v, .int .i64 c] w (RetCol 45 ss c ss.length w) := by
  obtain ⟨i0, hi, hz0, hz1, hz2⟩ := info_parts info_t4
  obtain ⟨a, cap, rfl, _, hrow⟩ := hS
  obtain ⟨m, hm⟩ : ∃ m, ss.length = m := ⟨_, rfl⟩
  have HM := hid hm
  have HR := hid hrow
  rw [hm] at hl ⊢
  clear hm hrow
  go_enter Tryd.func20, Tryd.ntmps20
  go_wp2
  go_loopw [5, 6] (fun x y wr => ∃ (k : Nat) (xs : List Value), k ≤ m ∧ y = .int .i64 (k : Int) ∧ wr.ownsRow w.heap.size 45 4 x k xs ∧ ColPre ss c k xs ∧ Below w.heap.size w wr) (fun _ y _ => m - (intOf y).toNat)
  case atStart => exact ⟨0, [], Nat.zero_le _, rfl, World.ownsRow_nil _ _ _ _, ⟨rfl, fun j s hj => absurd hj (Nat.not_lt_zero _)⟩, Below.refl _ w⟩
  case round =>
    obtain ⟨k, xs, hk, rfl, hown, hcr, hB⟩ := hrel
    have zB := hB.size
    have HB := hid hB
    have HO := hid hown
    have HC := hid hcr
    clear hB hcr hown
    by_cases hlt : k < m
    · obtain ⟨s, hx⟩ : ∃ s, ss[k]? = some s := ⟨ss[k]'(by rw [HM.out]; exact hlt), List.getElem?_eq_getElem _⟩
      obtain ⟨g, off, hga, he⟩ : ∃ g off, a = some ⟨g, off, none⟩ ∧ ShsAt w g off ss := by
        rcases HR.out with h | h
        · subst h; cases hx
        · exact h
      subst hga
      obtain ⟨lp, e0, e1, e2, e3, e4⟩ := he k s hx
      have hg : g < w.heap.size := World.block_lt_of_cell? w _ e0
      have hgr := Nat.lt_of_lt_of_le hg zB
      have HX := hid hx
      have d4 := (HB.out.cell (p := ⟨g, off + k * 5 + 4, none⟩) hg).trans e4
      obtain ⟨pa, pc, hv, _, hps⟩ := lp
      obtain ⟨pm, hpm⟩ : ∃ n, s.ps.length = n := ⟨_, rfl⟩
      have HPM := hid hpm
      rw [hpm] at hv
      rw [hv] at d4
      clear e0 e1 e2 e3 e4 he hx hv hpm
      by_cases h0 : 0 ≤ c
      · obtain ⟨q, rfl⟩ : ∃ q : Nat, c = (q : Int) := ⟨c.toNat, by omega⟩
        by_cases hq : q < pm
        · obtain ⟨x, hxq⟩ : ∃ x, s.ps[q]? = some x := ⟨s.ps[q]'(by rw [HPM.out]; exact hq), List.getElem?_eq_getElem _⟩
          obtain ⟨pg, po, hpa, hpe⟩ : ∃ g off, pa = some ⟨g, off, none⟩ ∧ VecsAt w g off s.ps := by
            rcases hps with h | h
            · rw [h] at hxq; cases hxq
            · exact h
          subst hpa
          obtain ⟨_, y0, y1, y2, y3⟩ := hpe q x hxq
          have hpg : pg < w.heap.size := World.block_lt_of_cell? w _ y0
          have hpgr := Nat.lt_of_lt_of_le hpg zB
          have u0 := (HB.out.cell (p := ⟨pg, po + q * 4, none⟩) hpg).trans y0
          have u1 := (HB.out.cell (p := ⟨pg, po + q * 4 + 1, none⟩) hpg).trans y1
          have u2 := (HB.out.cell (p := ⟨pg, po + q * 4 + 2, none⟩) hpg).trans y2
          have u3 := (HB.out.cell (p := ⟨pg, po + q * 4 + 3, none⟩) hpg).trans y3
          have HCV := hid (show colv s (q : Int) = x by
            unfold colv
            rw [if_pos ⟨by omega, by rw [HPM.out]; omega⟩]
            simp [List.getD, hxq])
          clear y0 y1 y2 y3 hpe hps hxq
          go_wp2_with (at_builtin; refine wpList_append_own _ rfl _ _ 40 rfl w.heap.size 45 i0 _ 4 32 Tryd.underlying40 hi hz0 hz1 hz2 rfl (by decide) _ k xs rfl ((HO.out.alloc _).alloc _) ⟨wr.heap.size + 1, 0, none⟩ 1 1 [.int .u64 (limb x 0 : Int), .int .u64 (limb x 1 : Int), .int .u64 (limb x 2 : Int), .int .u64 (limb x 3 : Int)] rfl rfl (Blk.news (t := 45) (Blk.new (by simp))) (by simp [Value.oneCell']) (by unfold maxLen; omega) (by omega) (by simp; omega) ?_; intro v1 w1 ho1 hg1 _)
          have B1 := hid (Below.grown ((HB.out.alloc zB _).alloc (by simp; omega) _) hg1 (by simp; omega) (fun j hj => (HO.out.lt j hj).1))
          clear hg1
          have O1 := hid ho1
          clear ho1
          go_roundw
          case rel => exact ⟨k + 1, _, by omega, by go_num, O1.out, HC.out.step HX.out x HCV.out, B1.out⟩
          case measure => simp [intOf]; omega
        · have HCV := hid (show colv s (q : Int) = 0 by unfold colv; rw [if_neg (fun h => hq (by have := h.2; rw [HPM.out] at this; omega))])
          clear hps
          go_wp2_with (at_builtin; refine wpList_append_own _ rfl _ _ 40 rfl w.heap.size 45 i0 _ 4 32 Tryd.underlying40 hi hz0 hz1 hz2 rfl (by decide) _ k xs rfl ((HO.out.alloc _).alloc _) ⟨wr.heap.size + 1, 0, none⟩ 1 1 [.int .u64 0, .int .u64 0, .int .u64 0, .int .u64 0] rfl rfl (Blk.news (t := 45) (Blk.new (by simp))) (by simp [Value.oneCell']) (by unfold maxLen; omega) (by omega) (by simp; omega) ?_; intro v1 w1 ho1 hg1 _)
          have B1 := hid (Below.grown ((HB.out.alloc zB _).alloc (by simp; omega) _) hg1 (by simp; omega) (fun j hj => (HO.out.lt j hj).1))
          clear hg1
          have O1 := hid ho1
          clear ho1
          go_roundw
          case rel => exact ⟨k + 1, _, by omega, by go_num, O1.out, HC.out.zero HX.out HCV.out, B1.out⟩
          case measure => simp [intOf]; omega
      · have HCV := hid (show colv s c = 0 by unfold colv; rw [if_neg (fun h => h0 h.1)])
        clear hps
        go_wp2_with (at_builtin; refine wpList_append_own _ rfl _ _ 40 rfl w.heap.size 45 i0 _ 4 32 Tryd.underlying40 hi hz0 hz1 hz2 rfl (by decide) _ k xs rfl ((HO.out.alloc _).alloc _) ⟨wr.heap.size + 1, 0, none⟩ 1 1 [.int .u64 0, .int .u64 0, .int .u64 0, .int .u64 0] rfl rfl (Blk.news (t := 45) (Blk.new (by simp))) (by simp [Value.oneCell']) (by unfold maxLen; omega) (by omega) (by simp; omega) ?_; intro v1 w1 ho1 hg1 _)
        have B1 := hid (Below.grown ((HB.out.alloc zB _).alloc (by simp; omega) _) hg1 (by simp; omega) (fun j hj => (HO.out.lt j hj).1))
        clear hg1
        have O1 := hid ho1
        clear ho1
        go_roundw
        case rel => exact ⟨k + 1, _, by omega, by go_num, O1.out, HC.out.zero HX.out HCV.out, B1.out⟩
        case measure => simp [intOf]; omega
    · obtain rfl : k = m := by omega
      go_wp2
      go_ret
      exact ⟨_, _, rfl, HO.out, HC.out.row HM.out, HB.out⟩
end Go.Proofs.YticpjaooegpipaaDoor
