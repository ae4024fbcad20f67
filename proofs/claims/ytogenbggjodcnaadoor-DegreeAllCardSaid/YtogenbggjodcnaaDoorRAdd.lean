/-
  The reference's sum of two polynomials.
-/
import Derived.Test.YtogenbggjodcnaaDoorRefV
import Derived.Test.YtogenbggjodcnaaDoorPolys
import Derived.Test.YtogenbggjodcnaaDoorVals08
import Derived.Test.YtogenbggjodcnaaDoorKit
import Derived.OwnWalk
namespace Go.Proofs.YtogenbggjodcnaaDoor
open Go.RowKit

theorem copy_store {c k x : Nat} {xs : List Nat} {zs : List Value} (h : FRow c (fun t => if t < k then xs.getD t 0 else 0) zs) (hc : k < c) (hx : xs.getD k 0 = x) :
    FRow c (fun t => if t < k + 1 then xs.getD t 0 else 0) ((((zs.set (k * 4) (.int .u64 (limb x 0 : Int))).set (k * 4 + 1) (.int .u64 (limb x 1 : Int))).set (k * 4 + 2) (.int .u64 (limb x 2 : Int))).set (k * 4 + 3) (.int .u64 (limb x 3 : Int))) := by
  refine h.store hc x (fun t _ => ?_)
  by_cases e : t = k
  · rw [if_pos e, if_pos (by omega), e, hx]
  · rw [if_neg e]
    by_cases l : t < k
    · rw [if_pos l, if_pos (by omega)]
    · rw [if_neg l, if_neg (by omega)]
theorem add_store {p c k x y z : Nat} {xs ys : List Nat} {zs : List Value} (h : FRow c (fun t => if t < k then addm p (xs.getD t 0) (ys.getD t 0) else xs.getD t 0) zs) (hc : k < c) (hx : xs.getD k 0 = x) (hy : ys.getD k 0 = y) (hz : addm p x y = z) :
    FRow c (fun t => if t < k + 1 then addm p (xs.getD t 0) (ys.getD t 0) else xs.getD t 0) ((((zs.set (k * 4) (.int .u64 (limb z 0 : Int))).set (k * 4 + 1) (.int .u64 (limb z 1 : Int))).set (k * 4 + 2) (.int .u64 (limb z 2 : Int))).set (k * 4 + 3) (.int .u64 (limb z 3 : Int))) := by
  refine h.store hc z (fun t _ => ?_)
  by_cases e : t = k
  · rw [if_pos e, if_pos (by omega), e, hx, hy, hz]
  · rw [if_neg e]
    by_cases l : t < k
    · rw [if_pos l, if_pos (by omega)]
    · rw [if_neg l, if_neg (by omega)]
set_option maxRecDepth 100000 in
set_option maxHeartbeats 2000000 in
theorem rpadd_lt (p : Nat) (v1 v2 : Value) (xs ys : List Nat) (w : World) (hp : p < B256) (h1 : 1 < p) (hS1 : NumSl w v1 xs) (hS2 : NumSl w v2 ys) (hxs : Hid (∀ y ∈ xs, y < p)) (hys : Hid (∀ y ∈ ys, y < p)) (hl1 : xs.length < 100000) (hl2 : ys.length < 100000) (hm : xs.length < ys.length) :
    Calls Tryd.prog 82 #[vec p, v1, v2] w (RetOwn 28 4 (max xs.length ys.length) (nums (paddV p xs ys)) w) := by
  obtain ⟨i0, hi, hz0, hz1, hz2⟩ := info_parts info_v4
  obtain ⟨a1, cap1, rfl, _, hr1⟩ := hS1
  obtain ⟨a2, cap2, rfl, _, hr2⟩ := hS2
  obtain ⟨n1, hn1⟩ : ∃ N, xs.length = N := ⟨_, rfl⟩
  obtain ⟨n2, hn2⟩ : ∃ N, ys.length = N := ⟨_, rfl⟩
  rw [hn1] at hl1 ⊢
  rw [hn2] at hl2 ⊢
  rw [hn1, hn2] at hm
  obtain ⟨c, hc⟩ : ∃ c, max n1 n2 = c := ⟨_, rfl⟩
  have hmax : max (n1 : Int) (n2 : Int) = (c : Int) := by omega
  have hn1c : n1 ≤ c := by omega
  have hn2c : n2 ≤ c := by omega
  have HR1 := hid hr1
  have HR2 := hid hr2
  have HN1 := hid hn1
  have HN2 := hid hn2
  have HP := hid hp
  have H1 := hid h1
  have HPD := hid (show paddV p xs ys = (List.range c).map fun i => addm p (xs.getD i 0) (ys.getD i 0) by unfold paddV; rw [hn1, hn2, hc])
  rw [hc]
  clear hr1 hr2 hn1 hn2 hp h1
  go_enter Tryd.func82, Tryd.ntmps82
  go_wp2_with (at_make; refine wpList_make_full _ rfl _ _ 23 rfl (w.heap.size + 1) 28 i0 _ 4 Tryd.underlying23 hi hz0 hz1 .i64 .i64 _ _ c rfl rfl (by first | rfl | omega) (by first | rfl | omega) (by rw [hz2]; omega) (by unfold maxLen; omega) (by simp) ?_; intro w1 hown1 hgrow1)
  have B1 := hid (Below.grown ((Below.refl w.heap.size w).alloc (Nat.le_refl _) (.cells #[.int .u64 (limb p 0 : Int), .int .u64 (limb p 1 : Int), .int .u64 (limb p 2 : Int), .int .u64 (limb p 3 : Int)] 28)) hgrow1 (by simp) (fun j hj => by cases hj))
  have F1 := hid (show Blk w1 w.heap.size 28 [.int .u64 (limb p 0 : Int), .int .u64 (limb p 1 : Int), .int .u64 (limb p 2 : Int), .int .u64 (limb p 3 : Int)] from Blk.grown (Blk.new rfl) hgrow1 (by simp))
  have hw0 : (w.alloc (.cells #[.int .u64 (limb p 0 : Int), .int .u64 (limb p 1 : Int), .int .u64 (limb p 2 : Int), .int .u64 (limb p 3 : Int)] 28)).heap.size = w.heap.size + 1 := by simp
  rw [hw0] at hown1
  have O1 := hid hown1
  have P1 := hid ((FRow.zero c _ (by rw [Array.length_toList]; exact size_madeCells _ _) (fun t j ht hj => made_zeros c t j ht hj)).congr (g := fun t => if t < 0 then xs.getD t 0 else 0) (fun t _ => by simp))
  clear hown1 hgrow1 hi hz0 hz1 hz2 hmax hc hw0
  go_loopw [8] (fun x wr => ∃ (k : Nat) (zs : List Value), k ≤ n1 ∧ x = .int .i64 (k : Int) ∧ Blk wr w.heap.size 28 [.int .u64 (limb p 0 : Int), .int .u64 (limb p 1 : Int), .int .u64 (limb p 2 : Int), .int .u64 (limb p 3 : Int)] ∧ wr.ownsRow (w.heap.size + 1) 28 4 (.slice (some ⟨w.heap.size + 1, 0, none⟩) c c) c zs ∧ FRow c (fun t => if t < k then xs.getD t 0 else 0) zs ∧ Below w.heap.size w wr) (fun x _ => n1 - (intOf x).toNat)
  case atStart => exact ⟨0, _, Nat.zero_le _, rfl, F1.out, O1.out, P1.out, B1.out⟩
  case round =>
    obtain ⟨k, zs, hk, rfl, hp9, hown, hpr, hB⟩ := hrel
    have zB := hB.size
    have HB := hid hB
    have HPR := hid hpr
    clear hB hpr
    by_cases hlt : k < n1
    · obtain ⟨x1, hx1⟩ : ∃ x, xs[k]? = some x := ⟨xs[k]'(by rw [HN1.out]; exact hlt), List.getElem?_eq_getElem _⟩
      have HXD := hid (show xs.getD k 0 = x1 from getD_some hx1)
      obtain ⟨g1, off1, ha1, hat1⟩ : ∃ g off, a1 = some ⟨g, off, none⟩ ∧ NumsAt w g off xs := by
        rcases HR1.out with h | h
        · rw [h] at hx1; cases hx1
        · exact h
      subst ha1
      obtain ⟨_, e0, e1, e2, e3⟩ := hat1 k x1 hx1
      have hg1 : g1 < w.heap.size := World.block_lt_of_cell? w _ e0
      have hgr1 := Nat.lt_of_lt_of_le hg1 zB
      have d1_0 := (HB.out.cell (p := ⟨g1, off1 + k * 4, none⟩) hg1).trans e0
      have d1_1 := (HB.out.cell (p := ⟨g1, off1 + k * 4 + 1, none⟩) hg1).trans e1
      have d1_2 := (HB.out.cell (p := ⟨g1, off1 + k * 4 + 2, none⟩) hg1).trans e2
      have d1_3 := (HB.out.cell (p := ⟨g1, off1 + k * 4 + 3, none⟩) hg1).trans e3
      clear e0 e1 e2 e3 hat1
      clear hx1
      have zo : w.heap.size + 1 < wr.heap.size := (hown.lt _ rfl).2
      have zkc : (k : Int) < (c : Int) := by omega
      have zkc2 : k < c := by omega
      have t0 : wr.cell? ⟨w.heap.size + 1, k * 4, none⟩ = some (.int .u64 (limb 0 0 : Int)) := (hown.cellAt (k * 4) (by omega)).trans (by have q := HPR.out.2 k 0 (by omega) (by omega); simp only [Nat.lt_irrefl, if_false] at q; exact q)
      have t1 : wr.cell? ⟨w.heap.size + 1, k * 4 + 1, none⟩ = some (.int .u64 (limb 0 1 : Int)) := (hown.cellAt (k * 4 + 1) (by omega)).trans (by have q := HPR.out.2 k 1 (by omega) (by omega); simp only [Nat.lt_irrefl, if_false] at q; exact q)
      have t2 : wr.cell? ⟨w.heap.size + 1, k * 4 + 2, none⟩ = some (.int .u64 (limb 0 2 : Int)) := (hown.cellAt (k * 4 + 2) (by omega)).trans (by have q := HPR.out.2 k 2 (by omega) (by omega); simp only [Nat.lt_irrefl, if_false] at q; exact q)
      have t3 : wr.cell? ⟨w.heap.size + 1, k * 4 + 3, none⟩ = some (.int .u64 (limb 0 3 : Int)) := (hown.cellAt (k * 4 + 3) (by omega)).trans (by have q := HPR.out.2 k 3 (by omega) (by omega); simp only [Nat.lt_irrefl, if_false] at q; exact q)
      have v0 := hown.frozenAt (k * 4)
      have v1 := hown.frozenAt (k * 4 + 1)
      have v2 := hown.frozenAt (k * 4 + 2)
      have v3 := hown.frozenAt (k * 4 + 3)
      go_wp2
      go_roundw
      case rel => exact ⟨k + 1, _, by omega, by go_num, (((hp9.other _ _ (by dsimp only; omega)).other _ _ (by dsimp only; omega)).other _ _ (by dsimp only; omega)).other _ _ (by dsimp only; omega), ((((hown.stored (k * 4) _).1.stored (k * 4 + 1) _).1.stored (k * 4 + 2) _).1.stored (k * 4 + 3) _).1, copy_store HPR.out (by omega) HXD.out, (((HB.out.setCell (by dsimp only; omega) _).setCell (by dsimp only; omega) _).setCell (by dsimp only; omega) _).setCell (by dsimp only; omega) _⟩
      case measure => simp [intOf]; omega
    · obtain rfl : k = n1 := by omega
      have P2 := hid (HPR.out.congr (g := fun t => if t < 0 then addm p (xs.getD t 0) (ys.getD t 0) else xs.getD t 0) (fun t _ => by
        rw [if_neg (by omega)]
        by_cases l : t < k
        · rw [if_pos l]
        · rw [if_neg l, getD_none (by rw [HN1.out]; omega)]))
      clear HPR
      go_wp2
      go_loopw [9] (fun x wr => ∃ (j : Nat) (zs : List Value), j ≤ n2 ∧ x = .int .i64 (j : Int) ∧ Blk wr w.heap.size 28 [.int .u64 (limb p 0 : Int), .int .u64 (limb p 1 : Int), .int .u64 (limb p 2 : Int), .int .u64 (limb p 3 : Int)] ∧ wr.ownsRow (w.heap.size + 1) 28 4 (.slice (some ⟨w.heap.size + 1, 0, none⟩) c c) c zs ∧ FRow c (fun t => if t < j then addm p (xs.getD t 0) (ys.getD t 0) else xs.getD t 0) zs ∧ Below w.heap.size w wr) (fun x _ => n2 - (intOf x).toNat)
      case atStart => exact ⟨0, _, Nat.zero_le _, rfl, hp9, hown, P2.out, HB.out⟩
      case round =>
        clear hp9 hown zB HB P2 zs hlt
        rename_i kk _ _
        obtain ⟨k, zs, hk2, rfl, hp9, hown, hpr, hB⟩ := hrel
        have zB := hB.size
        have HB := hid hB
        have HPR := hid hpr
        clear hB hpr
        by_cases hlt : k < n2
        · obtain ⟨x2, hx2⟩ : ∃ x, ys[k]? = some x := ⟨ys[k]'(by rw [HN2.out]; exact hlt), List.getElem?_eq_getElem _⟩
          have HYD := hid (show ys.getD k 0 = x2 from getD_some hx2)
          have hym := hys.out x2 (List.mem_of_getElem? hx2)
          obtain ⟨r, hr⟩ : ∃ r, xs.getD k 0 = r := ⟨_, rfl⟩
          have HRV := hid hr
          have hrm : r < p := by rw [← hr]; exact getD_lt (by have := H1.out; omega) hxs.out k
          have M2 := hid (radd_any p r x2 HP.out hrm hym)
          clear hr
          obtain ⟨g2, off2, ha2, hat2⟩ : ∃ g off, a2 = some ⟨g, off, none⟩ ∧ NumsAt w g off ys := by
            rcases HR2.out with h | h
            · rw [h] at hx2; cases hx2
            · exact h
          subst ha2
          obtain ⟨_, e0, e1, e2, e3⟩ := hat2 k x2 hx2
          have hg2 : g2 < w.heap.size := World.block_lt_of_cell? w _ e0
          have hgr2 := Nat.lt_of_lt_of_le hg2 zB
          have d2_0 := (HB.out.cell (p := ⟨g2, off2 + k * 4, none⟩) hg2).trans e0
          have d2_1 := (HB.out.cell (p := ⟨g2, off2 + k * 4 + 1, none⟩) hg2).trans e1
          have d2_2 := (HB.out.cell (p := ⟨g2, off2 + k * 4 + 2, none⟩) hg2).trans e2
          have d2_3 := (HB.out.cell (p := ⟨g2, off2 + k * 4 + 3, none⟩) hg2).trans e3
          clear e0 e1 e2 e3 hat2
          clear hx2
          have zo : w.heap.size + 1 < wr.heap.size := (hown.lt _ rfl).2
          have zp := hp9.lt
          have p0 := hp9.cell (i := 0) rfl
          have p1 := hp9.cell (i := 1) rfl
          have p2 := hp9.cell (i := 2) rfl
          have p3 := hp9.cell (i := 3) rfl
          have zkc : (k : Int) < (c : Int) := by omega
          have zkc2 : k < c := by omega
          have hrow : ∀ j, j < 4 → zs[k * 4 + j]? = some (.int .u64 (limb r j : Int)) := fun j hj => by have q := HPR.out.2 k j (by omega) hj; simp only [Nat.lt_irrefl, if_false] at q; rw [← HRV.out]; exact q
          have r0 : wr.cell? ⟨w.heap.size + 1, k * 4, none⟩ = some (.int .u64 (limb r 0 : Int)) := (hown.cellAt (k * 4) (by omega)).trans (hrow 0 (by omega))
          have r1 : wr.cell? ⟨w.heap.size + 1, k * 4 + 1, none⟩ = some (.int .u64 (limb r 1 : Int)) := (hown.cellAt (k * 4 + 1) (by omega)).trans (hrow 1 (by omega))
          have r2 : wr.cell? ⟨w.heap.size + 1, k * 4 + 2, none⟩ = some (.int .u64 (limb r 2 : Int)) := (hown.cellAt (k * 4 + 2) (by omega)).trans (hrow 2 (by omega))
          have r3 : wr.cell? ⟨w.heap.size + 1, k * 4 + 3, none⟩ = some (.int .u64 (limb r 3 : Int)) := (hown.cellAt (k * 4 + 3) (by omega)).trans (hrow 3 (by omega))
          have HROW := hid hrow
          clear hrow
          go_wp2
          refine wp_region_soft (C := fun W' => Below wr.heap.size wr W') 12 (by kernel_rfl) (by kernel_rfl) ((Below.refl _ _).drew) ?_
          simp only [List.take_succ_cons, List.take_zero, List.drop_succ_cons, List.drop_zero]
          refine wpQuiet_step (fun K hK => ?_)
          rw [if_pos (by rfl)]
          refine ⟨.slice (some ⟨w.heap.size + 1, 0, none⟩) c c, fun W' hW => ?_, hK _ ?_⟩
          · go_simp
          clear hK K
          simp only [Act.put, List.setIfInBounds_toArray, List.set_cons_zero, List.set_cons_succ]
          refine wpQuiet_step (fun K hK => ?_)
          rw [if_pos (by rfl)]
          refine ⟨.int .i64 (k : Int), fun W' hW => ?_, hK _ ?_⟩
          · go_simp
          clear hK K
          simp only [Act.put, List.setIfInBounds_toArray, List.set_cons_zero, List.set_cons_succ]
          refine wpQuiet_step (fun K hK => ?_)
          rw [if_pos (by rfl)]
          refine ⟨vec p, fun W' hW => ?_, hK _ ?_⟩
          · have e0 := (hW.cell (p := ⟨w.heap.size, 0, none⟩) zp).trans p0
            have e1 := (hW.cell (p := ⟨w.heap.size, 1, none⟩) zp).trans p1
            have e2 := (hW.cell (p := ⟨w.heap.size, 2, none⟩) zp).trans p2
            have e3 := (hW.cell (p := ⟨w.heap.size, 3, none⟩) zp).trans p3
            go_simp
          clear hK K
          simp only [Act.put, List.setIfInBounds_toArray, List.set_cons_zero, List.set_cons_succ]
          refine wpQuiet_step (fun K hK => ?_)
          rw [if_pos (by rfl)]
          refine ⟨.slice (some ⟨w.heap.size + 1, 0, none⟩) c c, fun W' hW => ?_, hK _ ?_⟩
          · go_simp
          clear hK K
          simp only [Act.put, List.setIfInBounds_toArray, List.set_cons_zero, List.set_cons_succ]
          refine wpQuiet_step (fun K hK => ?_)
          rw [if_pos (by rfl)]
          refine ⟨.int .i64 (k : Int), fun W' hW => ?_, hK _ ?_⟩
          · go_simp
          clear hK K
          simp only [Act.put, List.setIfInBounds_toArray, List.set_cons_zero, List.set_cons_succ]
          refine wpQuiet_step (fun K hK => ?_)
          rw [if_pos (by rfl)]
          refine ⟨.pointer (some ⟨w.heap.size + 1, k * 4, none⟩), fun W' hW => ?_, hK _ ?_⟩
          · go_simp
          clear hK K
          simp only [Act.put, List.setIfInBounds_toArray, List.set_cons_zero, List.set_cons_succ]
          refine wpQuiet_step (fun K hK => ?_)
          rw [if_pos (by rfl)]
          refine ⟨vec r, fun W' hW => ?_, hK _ ?_⟩
          · have e0 := (hW.cell (p := ⟨w.heap.size + 1, k * 4, none⟩) zo).trans r0
            have e1 := (hW.cell (p := ⟨w.heap.size + 1, k * 4 + 1, none⟩) zo).trans r1
            have e2 := (hW.cell (p := ⟨w.heap.size + 1, k * 4 + 2, none⟩) zo).trans r2
            have e3 := (hW.cell (p := ⟨w.heap.size + 1, k * 4 + 3, none⟩) zo).trans r3
            go_simp
          clear hK K
          simp only [Act.put, List.setIfInBounds_toArray, List.set_cons_zero, List.set_cons_succ]
          refine wpQuiet_step (fun K hK => ?_)
          rw [if_pos (by rfl)]
          refine ⟨.slice (some ⟨g2, off2, none⟩) n2 cap2, fun W' hW => ?_, hK _ ?_⟩
          · go_simp
          clear hK K
          simp only [Act.put, List.setIfInBounds_toArray, List.set_cons_zero, List.set_cons_succ]
          refine wpQuiet_step (fun K hK => ?_)
          rw [if_pos (by rfl)]
          refine ⟨.int .i64 (k : Int), fun W' hW => ?_, hK _ ?_⟩
          · go_simp
          clear hK K
          simp only [Act.put, List.setIfInBounds_toArray, List.set_cons_zero, List.set_cons_succ]
          refine wpQuiet_step (fun K hK => ?_)
          rw [if_pos (by rfl)]
          refine ⟨.pointer (some ⟨g2, off2 + k * 4, none⟩), fun W' hW => ?_, hK _ ?_⟩
          · go_simp
          clear hK K
          simp only [Act.put, List.setIfInBounds_toArray, List.set_cons_zero, List.set_cons_succ]
          refine wpQuiet_step (fun K hK => ?_)
          rw [if_pos (by rfl)]
          refine ⟨vec x2, fun W' hW => ?_, hK _ ?_⟩
          · have e0 := (hW.cell (p := ⟨g2, off2 + k * 4, none⟩) hgr2).trans d2_0
            have e1 := (hW.cell (p := ⟨g2, off2 + k * 4 + 1, none⟩) hgr2).trans d2_1
            have e2 := (hW.cell (p := ⟨g2, off2 + k * 4 + 2, none⟩) hgr2).trans d2_2
            have e3 := (hW.cell (p := ⟨g2, off2 + k * 4 + 3, none⟩) hgr2).trans d2_3
            go_simp
          clear hK K
          simp only [Act.put, List.setIfInBounds_toArray, List.set_cons_zero, List.set_cons_succ]
          refine wpQuiet_step (fun K hK => ?_)
          rw [if_pos (by rfl)]
          refine ⟨vec (addm p r x2), fun W' hW => ?_, hK _ ?_⟩
          · go_simp
            refine (M2.out _).mono ?_
            rintro e w' ⟨rfl, b⟩
            exact ⟨rfl, hW.trans (b.mono hW.size)⟩
          clear hK K
          simp only [Act.put, List.setIfInBounds_toArray, List.set_cons_zero, List.set_cons_succ]
          refine wpQuiet_nil ?_
          intro W3 hW3
          have kp := hp9.below hW3 zp
          have ko := owns_keep hown hW3
          have B3 := hid (HB.out.trans (hW3.mono zB))
          have zW3 := hW3.size
          have zo3 : w.heap.size + 1 < W3.heap.size := (ko.lt _ rfl).2
          have t0 : W3.cell? ⟨w.heap.size + 1, k * 4, none⟩ = some (.int .u64 (limb r 0 : Int)) := (ko.cellAt (k * 4) (by omega)).trans (HROW.out 0 (by omega))
          have t1 : W3.cell? ⟨w.heap.size + 1, k * 4 + 1, none⟩ = some (.int .u64 (limb r 1 : Int)) := (ko.cellAt (k * 4 + 1) (by omega)).trans (HROW.out 1 (by omega))
          have t2 : W3.cell? ⟨w.heap.size + 1, k * 4 + 2, none⟩ = some (.int .u64 (limb r 2 : Int)) := (ko.cellAt (k * 4 + 2) (by omega)).trans (HROW.out 2 (by omega))
          have t3 : W3.cell? ⟨w.heap.size + 1, k * 4 + 3, none⟩ = some (.int .u64 (limb r 3 : Int)) := (ko.cellAt (k * 4 + 3) (by omega)).trans (HROW.out 3 (by omega))
          have v0 := ko.frozenAt (k * 4)
          have v1 := ko.frozenAt (k * 4 + 1)
          have v2 := ko.frozenAt (k * 4 + 2)
          have v3 := ko.frozenAt (k * 4 + 3)
          obtain ⟨q2, hr2⟩ : ∃ r2, addm p r x2 = r2 := ⟨_, rfl⟩
          have HR2 := hid hr2
          rw [hr2]
          clear hr2
          go_wp2
          go_roundw
          case rel => exact ⟨k + 1, _, by omega, by go_num, (((kp.other _ _ (by dsimp only; omega)).other _ _ (by dsimp only; omega)).other _ _ (by dsimp only; omega)).other _ _ (by dsimp only; omega), ((((ko.stored (k * 4) _).1.stored (k * 4 + 1) _).1.stored (k * 4 + 2) _).1.stored (k * 4 + 3) _).1, add_store HPR.out (by omega) HRV.out HYD.out HR2.out, (((B3.out.setCell (by dsimp only; omega) _).setCell (by dsimp only; omega) _).setCell (by dsimp only; omega) _).setCell (by dsimp only; omega) _⟩
          case measure => simp [intOf]; omega
        · obtain rfl : k = n2 := by omega
          have HDN := hid (show zs = nums (paddV p xs ys) by
            rw [HPD.out]
            refine (HPR.out.congr (fun t _ => ?_)).done
            by_cases l : t < k
            · rw [if_pos l]
            · rw [if_neg l, getD_none (xs := ys) (by rw [HN2.out]; omega), addm_zero (getD_lt (by have := H1.out; omega) hxs.out t)])
          have HOW := hid hown
          clear hown
          go_wp2
          go_ret
          refine ⟨_, rfl, ?_, HB.out⟩
          rw [← HDN.out]
          exact owns_mono HOW.out (by omega)
set_option maxRecDepth 100000 in
set_option maxHeartbeats 2000000 in
theorem rpadd_ge (p : Nat) (v1 v2 : Value) (xs ys : List Nat) (w : World) (hp : p < B256) (h1 : 1 < p) (hS1 : NumSl w v1 xs) (hS2 : NumSl w v2 ys) (hxs : Hid (∀ y ∈ xs, y < p)) (hys : Hid (∀ y ∈ ys, y < p)) (hl1 : xs.length < 100000) (hl2 : ys.length < 100000) (hm : ¬ xs.length < ys.length) :
    Calls Tryd.prog 82 #[vec p, v1, v2] w (RetOwn 28 4 (max xs.length ys.length) (nums (paddV p xs ys)) w) := by
  obtain ⟨i0, hi, hz0, hz1, hz2⟩ := info_parts info_v4
  obtain ⟨a1, cap1, rfl, _, hr1⟩ := hS1
  obtain ⟨a2, cap2, rfl, _, hr2⟩ := hS2
  obtain ⟨n1, hn1⟩ : ∃ N, xs.length = N := ⟨_, rfl⟩
  obtain ⟨n2, hn2⟩ : ∃ N, ys.length = N := ⟨_, rfl⟩
  rw [hn1] at hl1 ⊢
  rw [hn2] at hl2 ⊢
  rw [hn1, hn2] at hm
  obtain ⟨c, hc⟩ : ∃ c, max n1 n2 = c := ⟨_, rfl⟩
  have hmax : max (n1 : Int) (n2 : Int) = (c : Int) := by omega
  have hn1c : n1 ≤ c := by omega
  have hn2c : n2 ≤ c := by omega
  have HR1 := hid hr1
  have HR2 := hid hr2
  have HN1 := hid hn1
  have HN2 := hid hn2
  have HP := hid hp
  have H1 := hid h1
  have HPD := hid (show paddV p xs ys = (List.range c).map fun i => addm p (xs.getD i 0) (ys.getD i 0) by unfold paddV; rw [hn1, hn2, hc])
  rw [hc]
  clear hr1 hr2 hn1 hn2 hp h1
  go_enter Tryd.func82, Tryd.ntmps82
  go_wp2_with (at_make; refine wpList_make_full _ rfl _ _ 23 rfl (w.heap.size + 1) 28 i0 _ 4 Tryd.underlying23 hi hz0 hz1 .i64 .i64 _ _ c rfl rfl (by first | rfl | omega) (by first | rfl | omega) (by rw [hz2]; omega) (by unfold maxLen; omega) (by simp) ?_; intro w1 hown1 hgrow1)
  have B1 := hid (Below.grown ((Below.refl w.heap.size w).alloc (Nat.le_refl _) (.cells #[.int .u64 (limb p 0 : Int), .int .u64 (limb p 1 : Int), .int .u64 (limb p 2 : Int), .int .u64 (limb p 3 : Int)] 28)) hgrow1 (by simp) (fun j hj => by cases hj))
  have F1 := hid (show Blk w1 w.heap.size 28 [.int .u64 (limb p 0 : Int), .int .u64 (limb p 1 : Int), .int .u64 (limb p 2 : Int), .int .u64 (limb p 3 : Int)] from Blk.grown (Blk.new rfl) hgrow1 (by simp))
  have hw0 : (w.alloc (.cells #[.int .u64 (limb p 0 : Int), .int .u64 (limb p 1 : Int), .int .u64 (limb p 2 : Int), .int .u64 (limb p 3 : Int)] 28)).heap.size = w.heap.size + 1 := by simp
  rw [hw0] at hown1
  have O1 := hid hown1
  have P1 := hid ((FRow.zero c _ (by rw [Array.length_toList]; exact size_madeCells _ _) (fun t j ht hj => made_zeros c t j ht hj)).congr (g := fun t => if t < 0 then xs.getD t 0 else 0) (fun t _ => by simp))
  clear hown1 hgrow1 hi hz0 hz1 hz2 hmax hc hw0
  go_loopw [8] (fun x wr => ∃ (k : Nat) (zs : List Value), k ≤ n1 ∧ x = .int .i64 (k : Int) ∧ Blk wr w.heap.size 28 [.int .u64 (limb p 0 : Int), .int .u64 (limb p 1 : Int), .int .u64 (limb p 2 : Int), .int .u64 (limb p 3 : Int)] ∧ wr.ownsRow (w.heap.size + 1) 28 4 (.slice (some ⟨w.heap.size + 1, 0, none⟩) c c) c zs ∧ FRow c (fun t => if t < k then xs.getD t 0 else 0) zs ∧ Below w.heap.size w wr) (fun x _ => n1 - (intOf x).toNat)
  case atStart => exact ⟨0, _, Nat.zero_le _, rfl, F1.out, O1.out, P1.out, B1.out⟩
  case round =>
    obtain ⟨k, zs, hk, rfl, hp9, hown, hpr, hB⟩ := hrel
    have zB := hB.size
    have HB := hid hB
    have HPR := hid hpr
    clear hB hpr
    by_cases hlt : k < n1
    · obtain ⟨x1, hx1⟩ : ∃ x, xs[k]? = some x := ⟨xs[k]'(by rw [HN1.out]; exact hlt), List.getElem?_eq_getElem _⟩
      have HXD := hid (show xs.getD k 0 = x1 from getD_some hx1)
      obtain ⟨g1, off1, ha1, hat1⟩ : ∃ g off, a1 = some ⟨g, off, none⟩ ∧ NumsAt w g off xs := by
        rcases HR1.out with h | h
        · rw [h] at hx1; cases hx1
        · exact h
      subst ha1
      obtain ⟨_, e0, e1, e2, e3⟩ := hat1 k x1 hx1
      have hg1 : g1 < w.heap.size := World.block_lt_of_cell? w _ e0
      have hgr1 := Nat.lt_of_lt_of_le hg1 zB
      have d1_0 := (HB.out.cell (p := ⟨g1, off1 + k * 4, none⟩) hg1).trans e0
      have d1_1 := (HB.out.cell (p := ⟨g1, off1 + k * 4 + 1, none⟩) hg1).trans e1
      have d1_2 := (HB.out.cell (p := ⟨g1, off1 + k * 4 + 2, none⟩) hg1).trans e2
      have d1_3 := (HB.out.cell (p := ⟨g1, off1 + k * 4 + 3, none⟩) hg1).trans e3
      clear e0 e1 e2 e3 hat1
      clear hx1
      have zo : w.heap.size + 1 < wr.heap.size := (hown.lt _ rfl).2
      have zkc : (k : Int) < (c : Int) := by omega
      have zkc2 : k < c := by omega
      have t0 : wr.cell? ⟨w.heap.size + 1, k * 4, none⟩ = some (.int .u64 (limb 0 0 : Int)) := (hown.cellAt (k * 4) (by omega)).trans (by have q := HPR.out.2 k 0 (by omega) (by omega); simp only [Nat.lt_irrefl, if_false] at q; exact q)
      have t1 : wr.cell? ⟨w.heap.size + 1, k * 4 + 1, none⟩ = some (.int .u64 (limb 0 1 : Int)) := (hown.cellAt (k * 4 + 1) (by omega)).trans (by have q := HPR.out.2 k 1 (by omega) (by omega); simp only [Nat.lt_irrefl, if_false] at q; exact q)
      have t2 : wr.cell? ⟨w.heap.size + 1, k * 4 + 2, none⟩ = some (.int .u64 (limb 0 2 : Int)) := (hown.cellAt (k * 4 + 2) (by omega)).trans (by have q := HPR.out.2 k 2 (by omega) (by omega); simp only [Nat.lt_irrefl, if_false] at q; exact q)
      have t3 : wr.cell? ⟨w.heap.size + 1, k * 4 + 3, none⟩ = some (.int .u64 (limb 0 3 : Int)) := (hown.cellAt (k * 4 + 3) (by omega)).trans (by have q := HPR.out.2 k 3 (by omega) (by omega); simp only [Nat.lt_irrefl, if_false] at q; exact q)
      have v0 := hown.frozenAt (k * 4)
      have v1 := hown.frozenAt (k * 4 + 1)
      have v2 := hown.frozenAt (k * 4 + 2)
      have v3 := hown.frozenAt (k * 4 + 3)
      go_wp2
      go_roundw
      case rel => exact ⟨k + 1, _, by omega, by go_num, (((hp9.other _ _ (by dsimp only; omega)).other _ _ (by dsimp only; omega)).other _ _ (by dsimp only; omega)).other _ _ (by dsimp only; omega), ((((hown.stored (k * 4) _).1.stored (k * 4 + 1) _).1.stored (k * 4 + 2) _).1.stored (k * 4 + 3) _).1, copy_store HPR.out (by omega) HXD.out, (((HB.out.setCell (by dsimp only; omega) _).setCell (by dsimp only; omega) _).setCell (by dsimp only; omega) _).setCell (by dsimp only; omega) _⟩
      case measure => simp [intOf]; omega
    · obtain rfl : k = n1 := by omega
      have P2 := hid (HPR.out.congr (g := fun t => if t < 0 then addm p (xs.getD t 0) (ys.getD t 0) else xs.getD t 0) (fun t _ => by
        rw [if_neg (by omega)]
        by_cases l : t < k
        · rw [if_pos l]
        · rw [if_neg l, getD_none (by rw [HN1.out]; omega)]))
      clear HPR
      go_wp2
      go_loopw [9] (fun x wr => ∃ (j : Nat) (zs : List Value), j ≤ n2 ∧ x = .int .i64 (j : Int) ∧ Blk wr w.heap.size 28 [.int .u64 (limb p 0 : Int), .int .u64 (limb p 1 : Int), .int .u64 (limb p 2 : Int), .int .u64 (limb p 3 : Int)] ∧ wr.ownsRow (w.heap.size + 1) 28 4 (.slice (some ⟨w.heap.size + 1, 0, none⟩) c c) c zs ∧ FRow c (fun t => if t < j then addm p (xs.getD t 0) (ys.getD t 0) else xs.getD t 0) zs ∧ Below w.heap.size w wr) (fun x _ => n2 - (intOf x).toNat)
      case atStart => exact ⟨0, _, Nat.zero_le _, rfl, hp9, hown, P2.out, HB.out⟩
      case round =>
        clear hp9 hown zB HB P2 zs hlt
        rename_i kk _ _
        obtain ⟨k, zs, hk2, rfl, hp9, hown, hpr, hB⟩ := hrel
        have zB := hB.size
        have HB := hid hB
        have HPR := hid hpr
        clear hB hpr
        by_cases hlt : k < n2
        · obtain ⟨x2, hx2⟩ : ∃ x, ys[k]? = some x := ⟨ys[k]'(by rw [HN2.out]; exact hlt), List.getElem?_eq_getElem _⟩
          have HYD := hid (show ys.getD k 0 = x2 from getD_some hx2)
          have hym := hys.out x2 (List.mem_of_getElem? hx2)
          obtain ⟨r, hr⟩ : ∃ r, xs.getD k 0 = r := ⟨_, rfl⟩
          have HRV := hid hr
          have hrm : r < p := by rw [← hr]; exact getD_lt (by have := H1.out; omega) hxs.out k
          have M2 := hid (radd_any p r x2 HP.out hrm hym)
          clear hr
          obtain ⟨g2, off2, ha2, hat2⟩ : ∃ g off, a2 = some ⟨g, off, none⟩ ∧ NumsAt w g off ys := by
            rcases HR2.out with h | h
            · rw [h] at hx2; cases hx2
            · exact h
          subst ha2
          obtain ⟨_, e0, e1, e2, e3⟩ := hat2 k x2 hx2
          have hg2 : g2 < w.heap.size := World.block_lt_of_cell? w _ e0
          have hgr2 := Nat.lt_of_lt_of_le hg2 zB
          have d2_0 := (HB.out.cell (p := ⟨g2, off2 + k * 4, none⟩) hg2).trans e0
          have d2_1 := (HB.out.cell (p := ⟨g2, off2 + k * 4 + 1, none⟩) hg2).trans e1
          have d2_2 := (HB.out.cell (p := ⟨g2, off2 + k * 4 + 2, none⟩) hg2).trans e2
          have d2_3 := (HB.out.cell (p := ⟨g2, off2 + k * 4 + 3, none⟩) hg2).trans e3
          clear e0 e1 e2 e3 hat2
          clear hx2
          have zo : w.heap.size + 1 < wr.heap.size := (hown.lt _ rfl).2
          have zp := hp9.lt
          have p0 := hp9.cell (i := 0) rfl
          have p1 := hp9.cell (i := 1) rfl
          have p2 := hp9.cell (i := 2) rfl
          have p3 := hp9.cell (i := 3) rfl
          have zkc : (k : Int) < (c : Int) := by omega
          have zkc2 : k < c := by omega
          have hrow : ∀ j, j < 4 → zs[k * 4 + j]? = some (.int .u64 (limb r j : Int)) := fun j hj => by have q := HPR.out.2 k j (by omega) hj; simp only [Nat.lt_irrefl, if_false] at q; rw [← HRV.out]; exact q
          have r0 : wr.cell? ⟨w.heap.size + 1, k * 4, none⟩ = some (.int .u64 (limb r 0 : Int)) := (hown.cellAt (k * 4) (by omega)).trans (hrow 0 (by omega))
          have r1 : wr.cell? ⟨w.heap.size + 1, k * 4 + 1, none⟩ = some (.int .u64 (limb r 1 : Int)) := (hown.cellAt (k * 4 + 1) (by omega)).trans (hrow 1 (by omega))
          have r2 : wr.cell? ⟨w.heap.size + 1, k * 4 + 2, none⟩ = some (.int .u64 (limb r 2 : Int)) := (hown.cellAt (k * 4 + 2) (by omega)).trans (hrow 2 (by omega))
          have r3 : wr.cell? ⟨w.heap.size + 1, k * 4 + 3, none⟩ = some (.int .u64 (limb r 3 : Int)) := (hown.cellAt (k * 4 + 3) (by omega)).trans (hrow 3 (by omega))
          have HROW := hid hrow
          clear hrow
          go_wp2
          refine wp_region_soft (C := fun W' => Below wr.heap.size wr W') 12 (by kernel_rfl) (by kernel_rfl) ((Below.refl _ _).drew) ?_
          simp only [List.take_succ_cons, List.take_zero, List.drop_succ_cons, List.drop_zero]
          refine wpQuiet_step (fun K hK => ?_)
          rw [if_pos (by rfl)]
          refine ⟨.slice (some ⟨w.heap.size + 1, 0, none⟩) c c, fun W' hW => ?_, hK _ ?_⟩
          · go_simp
          clear hK K
          simp only [Act.put, List.setIfInBounds_toArray, List.set_cons_zero, List.set_cons_succ]
          refine wpQuiet_step (fun K hK => ?_)
          rw [if_pos (by rfl)]
          refine ⟨.int .i64 (k : Int), fun W' hW => ?_, hK _ ?_⟩
          · go_simp
          clear hK K
          simp only [Act.put, List.setIfInBounds_toArray, List.set_cons_zero, List.set_cons_succ]
          refine wpQuiet_step (fun K hK => ?_)
          rw [if_pos (by rfl)]
          refine ⟨vec p, fun W' hW => ?_, hK _ ?_⟩
          · have e0 := (hW.cell (p := ⟨w.heap.size, 0, none⟩) zp).trans p0
            have e1 := (hW.cell (p := ⟨w.heap.size, 1, none⟩) zp).trans p1
            have e2 := (hW.cell (p := ⟨w.heap.size, 2, none⟩) zp).trans p2
            have e3 := (hW.cell (p := ⟨w.heap.size, 3, none⟩) zp).trans p3
            go_simp
          clear hK K
          simp only [Act.put, List.setIfInBounds_toArray, List.set_cons_zero, List.set_cons_succ]
          refine wpQuiet_step (fun K hK => ?_)
          rw [if_pos (by rfl)]
          refine ⟨.slice (some ⟨w.heap.size + 1, 0, none⟩) c c, fun W' hW => ?_, hK _ ?_⟩
          · go_simp
          clear hK K
          simp only [Act.put, List.setIfInBounds_toArray, List.set_cons_zero, List.set_cons_succ]
          refine wpQuiet_step (fun K hK => ?_)
          rw [if_pos (by rfl)]
          refine ⟨.int .i64 (k : Int), fun W' hW => ?_, hK _ ?_⟩
          · go_simp
          clear hK K
          simp only [Act.put, List.setIfInBounds_toArray, List.set_cons_zero, List.set_cons_succ]
          refine wpQuiet_step (fun K hK => ?_)
          rw [if_pos (by rfl)]
          refine ⟨.pointer (some ⟨w.heap.size + 1, k * 4, none⟩), fun W' hW => ?_, hK _ ?_⟩
          · go_simp
          clear hK K
          simp only [Act.put, List.setIfInBounds_toArray, List.set_cons_zero, List.set_cons_succ]
          refine wpQuiet_step (fun K hK => ?_)
          rw [if_pos (by rfl)]
          refine ⟨vec r, fun W' hW => ?_, hK _ ?_⟩
          · have e0 := (hW.cell (p := ⟨w.heap.size + 1, k * 4, none⟩) zo).trans r0
            have e1 := (hW.cell (p := ⟨w.heap.size + 1, k * 4 + 1, none⟩) zo).trans r1
            have e2 := (hW.cell (p := ⟨w.heap.size + 1, k * 4 + 2, none⟩) zo).trans r2
            have e3 := (hW.cell (p := ⟨w.heap.size + 1, k * 4 + 3, none⟩) zo).trans r3
            go_simp
          clear hK K
          simp only [Act.put, List.setIfInBounds_toArray, List.set_cons_zero, List.set_cons_succ]
          refine wpQuiet_step (fun K hK => ?_)
          rw [if_pos (by rfl)]
          refine ⟨.slice (some ⟨g2, off2, none⟩) n2 cap2, fun W' hW => ?_, hK _ ?_⟩
          · go_simp
          clear hK K
          simp only [Act.put, List.setIfInBounds_toArray, List.set_cons_zero, List.set_cons_succ]
          refine wpQuiet_step (fun K hK => ?_)
          rw [if_pos (by rfl)]
          refine ⟨.int .i64 (k : Int), fun W' hW => ?_, hK _ ?_⟩
          · go_simp
          clear hK K
          simp only [Act.put, List.setIfInBounds_toArray, List.set_cons_zero, List.set_cons_succ]
          refine wpQuiet_step (fun K hK => ?_)
          rw [if_pos (by rfl)]
          refine ⟨.pointer (some ⟨g2, off2 + k * 4, none⟩), fun W' hW => ?_, hK _ ?_⟩
          · go_simp
          clear hK K
          simp only [Act.put, List.setIfInBounds_toArray, List.set_cons_zero, List.set_cons_succ]
          refine wpQuiet_step (fun K hK => ?_)
          rw [if_pos (by rfl)]
          refine ⟨vec x2, fun W' hW => ?_, hK _ ?_⟩
          · have e0 := (hW.cell (p := ⟨g2, off2 + k * 4, none⟩) hgr2).trans d2_0
            have e1 := (hW.cell (p := ⟨g2, off2 + k * 4 + 1, none⟩) hgr2).trans d2_1
            have e2 := (hW.cell (p := ⟨g2, off2 + k * 4 + 2, none⟩) hgr2).trans d2_2
            have e3 := (hW.cell (p := ⟨g2, off2 + k * 4 + 3, none⟩) hgr2).trans d2_3
            go_simp
          clear hK K
          simp only [Act.put, List.setIfInBounds_toArray, List.set_cons_zero, List.set_cons_succ]
          refine wpQuiet_step (fun K hK => ?_)
          rw [if_pos (by rfl)]
          refine ⟨vec (addm p r x2), fun W' hW => ?_, hK _ ?_⟩
          · go_simp
            refine (M2.out _).mono ?_
            rintro e w' ⟨rfl, b⟩
            exact ⟨rfl, hW.trans (b.mono hW.size)⟩
          clear hK K
          simp only [Act.put, List.setIfInBounds_toArray, List.set_cons_zero, List.set_cons_succ]
          refine wpQuiet_nil ?_
          intro W3 hW3
          have kp := hp9.below hW3 zp
          have ko := owns_keep hown hW3
          have B3 := hid (HB.out.trans (hW3.mono zB))
          have zW3 := hW3.size
          have zo3 : w.heap.size + 1 < W3.heap.size := (ko.lt _ rfl).2
          have t0 : W3.cell? ⟨w.heap.size + 1, k * 4, none⟩ = some (.int .u64 (limb r 0 : Int)) := (ko.cellAt (k * 4) (by omega)).trans (HROW.out 0 (by omega))
          have t1 : W3.cell? ⟨w.heap.size + 1, k * 4 + 1, none⟩ = some (.int .u64 (limb r 1 : Int)) := (ko.cellAt (k * 4 + 1) (by omega)).trans (HROW.out 1 (by omega))
          have t2 : W3.cell? ⟨w.heap.size + 1, k * 4 + 2, none⟩ = some (.int .u64 (limb r 2 : Int)) := (ko.cellAt (k * 4 + 2) (by omega)).trans (HROW.out 2 (by omega))
          have t3 : W3.cell? ⟨w.heap.size + 1, k * 4 + 3, none⟩ = some (.int .u64 (limb r 3 : Int)) := (ko.cellAt (k * 4 + 3) (by omega)).trans (HROW.out 3 (by omega))
          have v0 := ko.frozenAt (k * 4)
          have v1 := ko.frozenAt (k * 4 + 1)
          have v2 := ko.frozenAt (k * 4 + 2)
          have v3 := ko.frozenAt (k * 4 + 3)
          obtain ⟨q2, hr2⟩ : ∃ r2, addm p r x2 = r2 := ⟨_, rfl⟩
          have HR2 := hid hr2
          rw [hr2]
          clear hr2
          go_wp2
          go_roundw
          case rel => exact ⟨k + 1, _, by omega, by go_num, (((kp.other _ _ (by dsimp only; omega)).other _ _ (by dsimp only; omega)).other _ _ (by dsimp only; omega)).other _ _ (by dsimp only; omega), ((((ko.stored (k * 4) _).1.stored (k * 4 + 1) _).1.stored (k * 4 + 2) _).1.stored (k * 4 + 3) _).1, add_store HPR.out (by omega) HRV.out HYD.out HR2.out, (((B3.out.setCell (by dsimp only; omega) _).setCell (by dsimp only; omega) _).setCell (by dsimp only; omega) _).setCell (by dsimp only; omega) _⟩
          case measure => simp [intOf]; omega
        · obtain rfl : k = n2 := by omega
          have HDN := hid (show zs = nums (paddV p xs ys) by
            rw [HPD.out]
            refine (HPR.out.congr (fun t _ => ?_)).done
            by_cases l : t < k
            · rw [if_pos l]
            · rw [if_neg l, getD_none (xs := ys) (by rw [HN2.out]; omega), addm_zero (getD_lt (by have := H1.out; omega) hxs.out t)])
          have HOW := hid hown
          clear hown
          go_wp2
          go_ret
          refine ⟨_, rfl, ?_, HB.out⟩
          rw [← HDN.out]
          exact owns_mono HOW.out (by omega)
theorem rpadd_any (p : Nat) (v1 v2 : Value) (xs ys : List Nat) (w : World) (hp : p < B256) (h1 : 1 < p) (hS1 : NumSl w v1 xs) (hS2 : NumSl w v2 ys) (hxs : Hid (∀ y ∈ xs, y < p)) (hys : Hid (∀ y ∈ ys, y < p)) (hl1 : xs.length < 100000) (hl2 : ys.length < 100000) :
    Calls Tryd.prog 82 #[vec p, v1, v2] w (RetOwn 28 4 (max xs.length ys.length) (nums (paddV p xs ys)) w) := by
  by_cases hm : xs.length < ys.length
  · exact rpadd_lt p v1 v2 xs ys w hp h1 hS1 hS2 hxs hys hl1 hl2 hm
  · exact rpadd_ge p v1 v2 xs ys w hp h1 hS1 hS2 hxs hys hl1 hl2 hm
end Go.Proofs.YtogenbggjodcnaaDoor
