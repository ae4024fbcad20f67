/-
  The product of two polynomials; no tape.
-/
import Derived.Test.YtogenbggjodcnaaDoorMont
import Derived.Test.YtogenbggjodcnaaDoorLimbs
import Derived.Test.YtogenbggjodcnaaDoorPolys
import Derived.Test.YtogenbggjodcnaaDoorKit
import Derived.OwnWalk
namespace Go.Proofs.YtogenbggjodcnaaDoor
open Go.RowKit

theorem info_pe : (Tryd.prog.info? 29).map (fun i => (i.zero, i.size, i.bytes)) = some (some (.agg #[.int .u64 0, .int .u64 0, .int .u64 0, .int .u64 0]), 4, 32) := by kernel_rfl
set_option maxRecDepth 100000 in
set_option maxHeartbeats 2000000 in
theorem pmul_pos (id : Int) (m inv o s n1 n2 cap1 cap2 : Nat) (a1 a2 : Option Addr) (xs ys : List Nat) (w : World) (hF : Hid (FieldOK m inv)) (hS1 : NumSl w (.slice a1 (n1 + 1) cap1) xs) (hS2 : NumSl w (.slice a2 (n2 + 1) cap2) ys) (hxs : Hid (∀ y ∈ xs, y < m)) (hys : Hid (∀ y ∈ ys, y < m)) (hn1 : xs.length = n1 + 1) (hn2 : ys.length = n2 + 1) (hl1 : n1 < 100000) (hl2 : n2 < 100000) :
    Calls Tryd.prog 76 #[.pointer none, fld id m inv o s, .slice a1 (n1 + 1) cap1, .slice a2 (n2 + 1) cap2] w (RetNums 29 (pmulF m xs ys) w) := by
  obtain ⟨i0, hi, hz0, hz1, hz2⟩ := info_parts info_pe
  have hm2 := hF.out.2.1
  have hx0 : xs ≠ [] := fun e => by rw [e] at hn1; cases hn1
  have hy0 : ys ≠ [] := fun e => by rw [e] at hn2; cases hn2
  obtain ⟨c, hc⟩ : ∃ c, n1 + n2 + 1 = c := ⟨_, rfl⟩
  obtain ⟨g1, off1, ha1, hat1⟩ : ∃ g off, a1 = some ⟨g, off, none⟩ ∧ NumsAt w g off xs := by
    obtain ⟨a', c', e, _, h | h⟩ := hS1
    · exact absurd h hx0
    · simp only [Value.slice.injEq] at e; rw [e.1]; exact h
  obtain ⟨g2, off2, ha2, hat2⟩ : ∃ g off, a2 = some ⟨g, off, none⟩ ∧ NumsAt w g off ys := by
    obtain ⟨a', c', e, _, h | h⟩ := hS2
    · exact absurd h hy0
    · simp only [Value.slice.injEq] at e; rw [e.1]; exact h
  subst ha1 ha2
  obtain ⟨N1, hN1⟩ : ∃ N, n1 + 1 = N := ⟨_, rfl⟩
  obtain ⟨N2, hN2⟩ : ∃ N, n2 + 1 = N := ⟨_, rfl⟩
  rw [hN1, hN2]
  have hd1 : ((N1 : Int) == 0) = false := by simp; omega
  have hd2 : ((N2 : Int) == 0) = false := by simp; omega
  have hsum : (N1 : Int) + (N2 : Int) - 1 = (c : Int) := by omega
  have HAT1 := hid hat1
  have HAT2 := hid hat2
  have HN1 := hid (show xs.length = N1 by omega)
  have HN2 := hid (show ys.length = N2 by omega)
  have HX0 := hid hx0
  have HY0 := hid hy0
  clear hS1 hS2 hat1 hat2 hn1 hn2 hx0 hy0
  go_enter Tryd.func76, Tryd.ntmps76
  go_wp2_with (at_make; refine wpList_make_full _ rfl _ _ 34 rfl (w.heap.size + 1) 29 i0 _ 4 Tryd.underlying34 hi hz0 hz1 .i64 .i64 _ _ c rfl rfl (by first | rfl | omega) (by first | rfl | omega) (by rw [hz2]; omega) (by unfold maxLen; omega) (by simp) ?_; intro w1 hown1 hgrow1)
  have B1 := hid (Below.grown ((Below.refl w.heap.size w).alloc (Nat.le_refl _) (.cells #[.int .i64 id, .int .u64 (limb m 0 : Int), .int .u64 (limb m 1 : Int), .int .u64 (limb m 2 : Int), .int .u64 (limb m 3 : Int), .int .u64 (inv : Int), .int .u64 (limb o 0 : Int), .int .u64 (limb o 1 : Int), .int .u64 (limb o 2 : Int), .int .u64 (limb o 3 : Int), .int .u64 (limb s 0 : Int), .int .u64 (limb s 1 : Int), .int .u64 (limb s 2 : Int), .int .u64 (limb s 3 : Int)] 31)) hgrow1 (by simp) (fun j hj => by cases hj))
  have F1 := hid (show Blk w1 w.heap.size 31 [.int .i64 id, .int .u64 (limb m 0 : Int), .int .u64 (limb m 1 : Int), .int .u64 (limb m 2 : Int), .int .u64 (limb m 3 : Int), .int .u64 (inv : Int), .int .u64 (limb o 0 : Int), .int .u64 (limb o 1 : Int), .int .u64 (limb o 2 : Int), .int .u64 (limb o 3 : Int), .int .u64 (limb s 0 : Int), .int .u64 (limb s 1 : Int), .int .u64 (limb s 2 : Int), .int .u64 (limb s 3 : Int)] from Blk.grown (Blk.new rfl) hgrow1 (by simp))
  have hw0 : (w.alloc (.cells #[.int .i64 id, .int .u64 (limb m 0 : Int), .int .u64 (limb m 1 : Int), .int .u64 (limb m 2 : Int), .int .u64 (limb m 3 : Int), .int .u64 (inv : Int), .int .u64 (limb o 0 : Int), .int .u64 (limb o 1 : Int), .int .u64 (limb o 2 : Int), .int .u64 (limb o 3 : Int), .int .u64 (limb s 0 : Int), .int .u64 (limb s 1 : Int), .int .u64 (limb s 2 : Int), .int .u64 (limb s 3 : Int)] 31)).heap.size = w.heap.size + 1 := by simp
  rw [hw0] at hown1
  have O1 := hid hown1
  have P1 := hid (PRow.zero m c xs ys _ (by rw [Array.length_toList]; exact size_madeCells _ _) (fun t j ht hj => made_zeros c t j ht hj))
  clear hown1 hgrow1 hi hz0 hz1 hz2 hd1 hd2 hsum
  clear hw0
  go_loopw [31] (fun x wr => ∃ (i : Nat) (zs : List Value), i ≤ N1 ∧ x = .int .i64 (i : Int) ∧ Blk wr w.heap.size 31 [.int .i64 id, .int .u64 (limb m 0 : Int), .int .u64 (limb m 1 : Int), .int .u64 (limb m 2 : Int), .int .u64 (limb m 3 : Int), .int .u64 (inv : Int), .int .u64 (limb o 0 : Int), .int .u64 (limb o 1 : Int), .int .u64 (limb o 2 : Int), .int .u64 (limb o 3 : Int), .int .u64 (limb s 0 : Int), .int .u64 (limb s 1 : Int), .int .u64 (limb s 2 : Int), .int .u64 (limb s 3 : Int)] ∧ wr.ownsRow (w.heap.size + 1) 29 4 (.slice (some ⟨w.heap.size + 1, 0, none⟩) c c) c zs ∧ PRow m xs ys c i 0 zs ∧ Below w.heap.size w wr) (fun x _ => N1 - (intOf x).toNat)
  case atStart => exact ⟨0, _, Nat.zero_le _, rfl, F1.out, O1.out, P1.out, B1.out⟩
  case round =>
    obtain ⟨i, zs, hiN, rfl, hf, hown, hpr, hB⟩ := hrel
    have zB := hB.size
    have HB0 := hid hB
    have HPR0 := hid hpr
    clear hB hpr
    by_cases hlt : i < N1
    · obtain ⟨x, hx⟩ : ∃ x, xs[i]? = some x := ⟨xs[i]'(by rw [HN1.out]; exact hlt), List.getElem?_eq_getElem _⟩
      obtain ⟨_, e0, e1, e2, e3⟩ := HAT1.out i x hx
      have hxm := hxs.out x (List.mem_of_getElem? hx)
      have HXD := hid (show xs.getD i 0 = x by rw [List.getD, hx]; rfl)
      have hg : g1 < w.heap.size := World.block_lt_of_cell? w _ e0
      have hgr := Nat.lt_of_lt_of_le hg zB
      have d0 := (HB0.out.cell (p := ⟨g1, off1 + i * 4, none⟩) hg).trans e0
      have d1 := (HB0.out.cell (p := ⟨g1, off1 + i * 4 + 1, none⟩) hg).trans e1
      have d2 := (HB0.out.cell (p := ⟨g1, off1 + i * 4 + 2, none⟩) hg).trans e2
      have d3 := (HB0.out.cell (p := ⟨g1, off1 + i * 4 + 3, none⟩) hg).trans e3
      clear e0 e1 e2 e3 hx
      obtain ⟨bx, hbx⟩ : ∃ b, wr.heap.size = b := ⟨_, rfl⟩
      have zbx : w.heap.size + 1 < bx := by have h9 : w.heap.size + 1 < wr.heap.size := (hown.lt _ rfl).2; omega
      have xb0 : Blk (wr.alloc (.cells #[.int .u64 (limb x 0 : Int), .int .u64 (limb x 1 : Int), .int .u64 (limb x 2 : Int), .int .u64 (limb x 3 : Int)] 29)) bx 29 (limbs x) := Blk.new hbx
      go_wp2
      clear hbx
      go_loopw [38] (fun y wy => ∃ (k : Nat) (zs : List Value), k ≤ N2 ∧ y = .int .i64 (k : Int) ∧ Blk wy w.heap.size 31 [.int .i64 id, .int .u64 (limb m 0 : Int), .int .u64 (limb m 1 : Int), .int .u64 (limb m 2 : Int), .int .u64 (limb m 3 : Int), .int .u64 (inv : Int), .int .u64 (limb o 0 : Int), .int .u64 (limb o 1 : Int), .int .u64 (limb o 2 : Int), .int .u64 (limb o 3 : Int), .int .u64 (limb s 0 : Int), .int .u64 (limb s 1 : Int), .int .u64 (limb s 2 : Int), .int .u64 (limb s 3 : Int)] ∧ Blk wy bx 29 (limbs x) ∧ wy.ownsRow (w.heap.size + 1) 29 4 (.slice (some ⟨w.heap.size + 1, 0, none⟩) c c) c zs ∧ PRow m xs ys c i k zs ∧ Below w.heap.size w wy) (fun y _ => N2 - (intOf y).toNat)
      case atStart => exact ⟨0, zs, Nat.zero_le _, rfl, hf.alloc _, xb0, hown.alloc _, HPR0.out, HB0.out.alloc zB _⟩
      case round =>
        clear hf hown d0 d1 d2 d3 hgr xb0
        obtain ⟨k, zs, hkN, rfl, hf, hxb, hown, hpr, hB⟩ := hrel
        have zB := hB.size
        have HB := hid hB
        have HPR := hid hpr
        clear hB hpr
        by_cases hlk : k < N2
        · obtain ⟨y, hy⟩ : ∃ y, ys[k]? = some y := ⟨ys[k]'(by rw [HN2.out]; exact hlk), List.getElem?_eq_getElem _⟩
          obtain ⟨_, e0, e1, e2, e3⟩ := HAT2.out k y hy
          have hym := hys.out y (List.mem_of_getElem? hy)
          have HYD := hid (show ys.getD k 0 = y by rw [List.getD, hy]; rfl)
          have hg2 : g2 < w.heap.size := World.block_lt_of_cell? w _ e0
          have hgr2 := Nat.lt_of_lt_of_le hg2 zB
          have d0 := (HB.out.cell (p := ⟨g2, off2 + k * 4, none⟩) hg2).trans e0
          have d1 := (HB.out.cell (p := ⟨g2, off2 + k * 4 + 1, none⟩) hg2).trans e1
          have d2 := (HB.out.cell (p := ⟨g2, off2 + k * 4 + 2, none⟩) hg2).trans e2
          have d3 := (HB.out.cell (p := ⟨g2, off2 + k * 4 + 3, none⟩) hg2).trans e3
          obtain ⟨u, hu⟩ : ∃ u, i + k = u := ⟨_, rfl⟩
          have zu : (i : Int) + (k : Int) = (u : Int) := by omega
          have zuc : (u : Int) < (c : Int) := by omega
          have zuc2 : u < c := by omega
          have zwu : IntKind.i64.wrap (u : Int) = (u : Int) := by rw [IntKind.wrap_i64]; omega
          have HUU := hid hu
          obtain ⟨r, hr⟩ : ∃ r, rowc m xs ys i k u (pacc m xs ys i u) = r := ⟨_, rfl⟩
          have HRV := hid hr
          have hrm : r < m := by rw [← hr]; exact rowc_lt _ _ _ _ _ (by omega) (pacc_lt _ _ (by omega) _ _)
          have M1 := hid (mmul_any id m inv o s x y hF.out (by have := hF.out.1; omega) (by have := hF.out.1; omega) (Nat.mul_lt_mul_of_lt_of_lt (by have := hF.out.1; omega) hym))
          have M2 := hid (madd_any id m inv o s r (mont m x y) hF.out.1 hrm (mont_lt _ _ (by omega)))
          clear e0 e1 e2 e3 hy hr
          have hy0 : Blk (wr.alloc (.cells #[.int .u64 (limb y 0 : Int), .int .u64 (limb y 1 : Int), .int .u64 (limb y 2 : Int), .int .u64 (limb y 3 : Int)] 29)) wr.heap.size 29 (limbs y) := Blk.new rfl
          have gy : Below wr.heap.size wr (wr.alloc (.cells #[.int .u64 (limb y 0 : Int), .int .u64 (limb y 1 : Int), .int .u64 (limb y 2 : Int), .int .u64 (limb y 3 : Int)] 29)) := (Below.refl _ _).alloc (Nat.le_refl _) _
          have qf := hf.keep gy
          have qx := hxb.keep gy
          have qo := owns_keep hown gy
          have zz := gy.size
          have zyb := hy0.lt
          have BY := hid (HB.out.trans (gy.mono zB))
          go_wp2_with (go_at_call 64; refine (note_nil _ _ _ _).mono ?_; rintro e w' ⟨rfl, rfl⟩)
          clear gy
          generalize wr.alloc (.cells #[.int .u64 (limb y 0 : Int), .int .u64 (limb y 1 : Int), .int .u64 (limb y 2 : Int), .int .u64 (limb y 3 : Int)] 29) = wz at *
          obtain ⟨by9, hq9⟩ : ∃ b, wr.heap.size = b := ⟨_, rfl⟩
          rw [hq9] at hy0 zyb ⊢
          clear hq9
          have zf := qf.lt
          have zx := qx.lt
          have zo2 : w.heap.size + 1 < wz.heap.size := (qo.lt _ rfl).2
          have f0 := qf.cell (i := 0) rfl
          have f1 := qf.cell (i := 1) rfl
          have f2 := qf.cell (i := 2) rfl
          have f3 := qf.cell (i := 3) rfl
          have f4 := qf.cell (i := 4) rfl
          have f5 := qf.cell (i := 5) rfl
          have f6 := qf.cell (i := 6) rfl
          have f7 := qf.cell (i := 7) rfl
          have f8 := qf.cell (i := 8) rfl
          have f9 := qf.cell (i := 9) rfl
          have f10 := qf.cell (i := 10) rfl
          have f11 := qf.cell (i := 11) rfl
          have f12 := qf.cell (i := 12) rfl
          have f13 := qf.cell (i := 13) rfl
          have x0 := qx.cell (i := 0) rfl
          have x1 := qx.cell (i := 1) rfl
          have x2 := qx.cell (i := 2) rfl
          have x3 := qx.cell (i := 3) rfl
          have y0 := hy0.cell (i := 0) rfl
          have y1 := hy0.cell (i := 1) rfl
          have y2 := hy0.cell (i := 2) rfl
          have y3 := hy0.cell (i := 3) rfl
          have hrow : ∀ j, j < 4 → zs[u * 4 + j]? = some (.int .u64 (limb r j : Int)) := fun j hj => by rw [HPR.out.2 u j (by omega) hj, HRV.out]
          have r0 : wz.cell? ⟨w.heap.size + 1, u * 4, none⟩ = some (.int .u64 (limb r 0 : Int)) := (qo.cellAt (u * 4) (by omega)).trans (hrow 0 (by omega))
          have r1 : wz.cell? ⟨w.heap.size + 1, u * 4 + 1, none⟩ = some (.int .u64 (limb r 1 : Int)) := (qo.cellAt (u * 4 + 1) (by omega)).trans (hrow 1 (by omega))
          have r2 : wz.cell? ⟨w.heap.size + 1, u * 4 + 2, none⟩ = some (.int .u64 (limb r 2 : Int)) := (qo.cellAt (u * 4 + 2) (by omega)).trans (hrow 2 (by omega))
          have r3 : wz.cell? ⟨w.heap.size + 1, u * 4 + 3, none⟩ = some (.int .u64 (limb r 3 : Int)) := (qo.cellAt (u * 4 + 3) (by omega)).trans (hrow 3 (by omega))
          have HROW := hid hrow
          clear hrow
          refine wp_region_soft (C := fun W' => Below wz.heap.size wz W') 16 (by kernel_rfl) (by kernel_rfl) ((Below.refl _ _).drew) ?_
          simp only [List.take_succ_cons, List.take_zero, List.drop_succ_cons, List.drop_zero]
          refine wpQuiet_step (fun K hK => ?_)
          rw [if_pos (by rfl)]
          refine ⟨.slice (some ⟨w.heap.size + 1, 0, none⟩) c c, fun W' hW => ?_, hK _ ?_⟩
          · go_simp
          clear hK K
          simp only [Act.put, List.setIfInBounds_toArray, List.set_cons_zero, List.set_cons_succ]
          refine wpQuiet_step (fun K hK => ?_)
          rw [if_pos (by rfl)]
          refine ⟨.int .i64 (i : Int), fun W' hW => ?_, hK _ ?_⟩
          · go_simp
          clear hK K
          simp only [Act.put, List.setIfInBounds_toArray, List.set_cons_zero, List.set_cons_succ]
          refine wpQuiet_step (fun K hK => ?_)
          rw [if_pos (by rfl)]
          refine ⟨.int .i64 (k : Int), fun W' hW => ?_, hK _ ?_⟩
          · go_simp
          clear hK K
          simp only [Act.put, List.setIfInBounds_toArray, List.set_cons_zero, List.set_cons_succ]
          refine wpQuiet_step (fun K hK => ?_)
          rw [if_pos (by rfl)]
          refine ⟨.int .i64 (u : Int), fun W' hW => ?_, hK _ ?_⟩
          · go_simp
          clear hK K
          simp only [Act.put, List.setIfInBounds_toArray, List.set_cons_zero, List.set_cons_succ]
          refine wpQuiet_step (fun K hK => ?_)
          rw [if_pos (by rfl)]
          refine ⟨fld id m inv o s, fun W' hW => ?_, hK _ ?_⟩
          · have e0 := (hW.cell (p := ⟨w.heap.size, 0, none⟩) zf).trans f0
            have e1 := (hW.cell (p := ⟨w.heap.size, 1, none⟩) zf).trans f1
            have e2 := (hW.cell (p := ⟨w.heap.size, 2, none⟩) zf).trans f2
            have e3 := (hW.cell (p := ⟨w.heap.size, 3, none⟩) zf).trans f3
            have e4 := (hW.cell (p := ⟨w.heap.size, 4, none⟩) zf).trans f4
            have e5 := (hW.cell (p := ⟨w.heap.size, 5, none⟩) zf).trans f5
            have e6 := (hW.cell (p := ⟨w.heap.size, 6, none⟩) zf).trans f6
            have e7 := (hW.cell (p := ⟨w.heap.size, 7, none⟩) zf).trans f7
            have e8 := (hW.cell (p := ⟨w.heap.size, 8, none⟩) zf).trans f8
            have e9 := (hW.cell (p := ⟨w.heap.size, 9, none⟩) zf).trans f9
            have e10 := (hW.cell (p := ⟨w.heap.size, 10, none⟩) zf).trans f10
            have e11 := (hW.cell (p := ⟨w.heap.size, 11, none⟩) zf).trans f11
            have e12 := (hW.cell (p := ⟨w.heap.size, 12, none⟩) zf).trans f12
            have e13 := (hW.cell (p := ⟨w.heap.size, 13, none⟩) zf).trans f13
            go_simp
          clear hK K
          simp only [Act.put, List.setIfInBounds_toArray, List.set_cons_zero, List.set_cons_succ]
          refine wpQuiet_step (fun K hK => ?_)
          rw [if_pos (by rfl)]
          refine ⟨.slice (some ⟨w.heap.size + 1, 0, none⟩) c c, fun W' hW => ?_, hK _ ?_⟩
          · go_simp
          clear hK K
          simp only [Act.put, List.setIfInBounds_toArray, List.set_cons_zero, List.set_cons_succ]
          refine wpQuiet_step (fun K hK => ?_)
          rw [if_pos (by rfl)]
          refine ⟨.int .i64 (i : Int), fun W' hW => ?_, hK _ ?_⟩
          · go_simp
          clear hK K
          simp only [Act.put, List.setIfInBounds_toArray, List.set_cons_zero, List.set_cons_succ]
          refine wpQuiet_step (fun K hK => ?_)
          rw [if_pos (by rfl)]
          refine ⟨.int .i64 (k : Int), fun W' hW => ?_, hK _ ?_⟩
          · go_simp
          clear hK K
          simp only [Act.put, List.setIfInBounds_toArray, List.set_cons_zero, List.set_cons_succ]
          refine wpQuiet_step (fun K hK => ?_)
          rw [if_pos (by rfl)]
          refine ⟨.int .i64 (u : Int), fun W' hW => ?_, hK _ ?_⟩
          · go_simp
          clear hK K
          simp only [Act.put, List.setIfInBounds_toArray, List.set_cons_zero, List.set_cons_succ]
          refine wpQuiet_step (fun K hK => ?_)
          rw [if_pos (by rfl)]
          refine ⟨.pointer (some ⟨w.heap.size + 1, u * 4, none⟩), fun W' hW => ?_, hK _ ?_⟩
          · go_simp
          clear hK K
          simp only [Act.put, List.setIfInBounds_toArray, List.set_cons_zero, List.set_cons_succ]
          refine wpQuiet_step (fun K hK => ?_)
          rw [if_pos (by rfl)]
          refine ⟨vec r, fun W' hW => ?_, hK _ ?_⟩
          · have e0 := (hW.cell (p := ⟨w.heap.size + 1, u * 4, none⟩) zo2).trans r0
            have e1 := (hW.cell (p := ⟨w.heap.size + 1, u * 4 + 1, none⟩) zo2).trans r1
            have e2 := (hW.cell (p := ⟨w.heap.size + 1, u * 4 + 2, none⟩) zo2).trans r2
            have e3 := (hW.cell (p := ⟨w.heap.size + 1, u * 4 + 3, none⟩) zo2).trans r3
            go_simp
          clear hK K
          simp only [Act.put, List.setIfInBounds_toArray, List.set_cons_zero, List.set_cons_succ]
          refine wpQuiet_step (fun K hK => ?_)
          rw [if_pos (by rfl)]
          refine ⟨fld id m inv o s, fun W' hW => ?_, hK _ ?_⟩
          · have e0 := (hW.cell (p := ⟨w.heap.size, 0, none⟩) zf).trans f0
            have e1 := (hW.cell (p := ⟨w.heap.size, 1, none⟩) zf).trans f1
            have e2 := (hW.cell (p := ⟨w.heap.size, 2, none⟩) zf).trans f2
            have e3 := (hW.cell (p := ⟨w.heap.size, 3, none⟩) zf).trans f3
            have e4 := (hW.cell (p := ⟨w.heap.size, 4, none⟩) zf).trans f4
            have e5 := (hW.cell (p := ⟨w.heap.size, 5, none⟩) zf).trans f5
            have e6 := (hW.cell (p := ⟨w.heap.size, 6, none⟩) zf).trans f6
            have e7 := (hW.cell (p := ⟨w.heap.size, 7, none⟩) zf).trans f7
            have e8 := (hW.cell (p := ⟨w.heap.size, 8, none⟩) zf).trans f8
            have e9 := (hW.cell (p := ⟨w.heap.size, 9, none⟩) zf).trans f9
            have e10 := (hW.cell (p := ⟨w.heap.size, 10, none⟩) zf).trans f10
            have e11 := (hW.cell (p := ⟨w.heap.size, 11, none⟩) zf).trans f11
            have e12 := (hW.cell (p := ⟨w.heap.size, 12, none⟩) zf).trans f12
            have e13 := (hW.cell (p := ⟨w.heap.size, 13, none⟩) zf).trans f13
            go_simp
          clear hK K
          simp only [Act.put, List.setIfInBounds_toArray, List.set_cons_zero, List.set_cons_succ]
          refine wpQuiet_step (fun K hK => ?_)
          rw [if_pos (by rfl)]
          refine ⟨vec x, fun W' hW => ?_, hK _ ?_⟩
          · have e0 := (hW.cell (p := ⟨bx, 0, none⟩) zx).trans x0
            have e1 := (hW.cell (p := ⟨bx, 1, none⟩) zx).trans x1
            have e2 := (hW.cell (p := ⟨bx, 2, none⟩) zx).trans x2
            have e3 := (hW.cell (p := ⟨bx, 3, none⟩) zx).trans x3
            go_simp
          clear hK K
          simp only [Act.put, List.setIfInBounds_toArray, List.set_cons_zero, List.set_cons_succ]
          refine wpQuiet_step (fun K hK => ?_)
          rw [if_pos (by rfl)]
          refine ⟨vec y, fun W' hW => ?_, hK _ ?_⟩
          · have e0 := (hW.cell (p := ⟨by9, 0, none⟩) zyb).trans y0
            have e1 := (hW.cell (p := ⟨by9, 1, none⟩) zyb).trans y1
            have e2 := (hW.cell (p := ⟨by9, 2, none⟩) zyb).trans y2
            have e3 := (hW.cell (p := ⟨by9, 3, none⟩) zyb).trans y3
            go_simp
          clear hK K
          simp only [Act.put, List.setIfInBounds_toArray, List.set_cons_zero, List.set_cons_succ]
          refine wpQuiet_step (fun K hK => ?_)
          rw [if_pos (by rfl)]
          refine ⟨vec (mont m x y), fun W' hW => ?_, hK _ ?_⟩
          · go_simp
            refine (M1.out _).mono ?_
            rintro e w' ⟨rfl, b⟩
            exact ⟨rfl, hW.trans (b.mono hW.size)⟩
          clear hK K
          simp only [Act.put, List.setIfInBounds_toArray, List.set_cons_zero, List.set_cons_succ]
          refine wpQuiet_step (fun K hK => ?_)
          rw [if_pos (by rfl)]
          refine ⟨vec (addm m r (mont m x y)), fun W' hW => ?_, hK _ ?_⟩
          · go_simp
            refine (M2.out _).mono ?_
            rintro e w' ⟨rfl, b⟩
            exact ⟨rfl, hW.trans (b.mono hW.size)⟩
          clear hK K
          simp only [Act.put, List.setIfInBounds_toArray, List.set_cons_zero, List.set_cons_succ]
          refine wpQuiet_nil ?_
          intro W3 hW3
          have kf := qf.below hW3 zf
          have kx := qx.below hW3 zx
          have ko := owns_keep qo hW3
          have B3 := hid (BY.out.trans (hW3.mono BY.out.size))
          have zW3 := hW3.size
          have zo3 : w.heap.size + 1 < W3.heap.size := (ko.lt _ rfl).2
          have t0 : W3.cell? ⟨w.heap.size + 1, u * 4, none⟩ = some (.int .u64 (limb r 0 : Int)) := (ko.cellAt (u * 4) (by omega)).trans (HROW.out 0 (by omega))
          have t1 : W3.cell? ⟨w.heap.size + 1, u * 4 + 1, none⟩ = some (.int .u64 (limb r 1 : Int)) := (ko.cellAt (u * 4 + 1) (by omega)).trans (HROW.out 1 (by omega))
          have t2 : W3.cell? ⟨w.heap.size + 1, u * 4 + 2, none⟩ = some (.int .u64 (limb r 2 : Int)) := (ko.cellAt (u * 4 + 2) (by omega)).trans (HROW.out 2 (by omega))
          have t3 : W3.cell? ⟨w.heap.size + 1, u * 4 + 3, none⟩ = some (.int .u64 (limb r 3 : Int)) := (ko.cellAt (u * 4 + 3) (by omega)).trans (HROW.out 3 (by omega))
          have v0 := ko.frozenAt (u * 4)
          have v1 := ko.frozenAt (u * 4 + 1)
          have v2 := ko.frozenAt (u * 4 + 2)
          have v3 := ko.frozenAt (u * 4 + 3)
          obtain ⟨r2, hr2⟩ : ∃ r2, addm m r (mont m x y) = r2 := ⟨_, rfl⟩
          have HR2 := hid hr2
          rw [hr2]
          clear hr2
          go_wp2
          go_roundw
          case rel => exact ⟨k + 1, _, by omega, by go_num, (((kf.other _ _ (by dsimp only; omega)).other _ _ (by dsimp only; omega)).other _ _ (by dsimp only; omega)).other _ _ (by dsimp only; omega), (((kx.other _ _ (by dsimp only; omega)).other _ _ (by dsimp only; omega)).other _ _ (by dsimp only; omega)).other _ _ (by dsimp only; omega), ((((ko.stored (u * 4) _).1.stored (u * 4 + 1) _).1.stored (u * 4 + 2) _).1.stored (u * 4 + 3) _).1, by have q := HPR.out.store (by omega) r2 (by rw [(rowc_here m xs ys i k _).1, HXD.out, HYD.out, ← HR2.out, ← HRV.out, HUU.out, ← HUU.out, (rowc_here m xs ys i k _).2]); rw [HUU.out] at q; exact q, (((B3.out.setCell (by dsimp only; omega) _).setCell (by dsimp only; omega) _).setCell (by dsimp only; omega) _).setCell (by dsimp only; omega) _⟩
          case measure => simp [intOf]; omega
        · obtain rfl : k = N2 := by omega
          have HPN := hid (show PRow m xs ys c (i + 1) 0 zs by rw [← HN2.out] at HPR; exact HPR.out.next)
          go_wp2
          go_roundw
          case rel => exact ⟨i + 1, zs, by omega, by go_num, hf, hown, HPN.out, HB.out⟩
          case measure => simp [intOf]; omega
    · obtain rfl : i = N1 := by omega
      have hdn : (pmulF m xs ys).length = c ∧ zs = nums (pmulF m xs ys) := by
        have q := HPR0.out
        rw [← HN1.out] at q
        exact q.done HX0.out HY0.out (by rw [HN1.out, HN2.out]; omega)
      have HDN := hid hdn
      have HOW := hid hown
      clear hdn hown
      go_wp2
      go_ret
      refine ⟨_, rfl, ?_, HB0.out⟩
      rw [HDN.out.1, ← HDN.out.2]
      exact owns_mono HOW.out (by omega)
end Go.Proofs.YtogenbggjodcnaaDoor
