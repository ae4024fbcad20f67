/-
  Products, sums and multiples of polynomials, and the reference.
-/
import Derived.Test.YtogenbggjodcnaaDoorMont
import Derived.Test.YtogenbggjodcnaaDoorLimbs
import Derived.Test.YtogenbggjodcnaaDoorPolys
import Derived.Test.YtogenbggjodcnaaDoorKit
import Derived.OwnWalk
import Derived.Test.YtogenbggjodcnaaDoorBatB
import Derived.Test.YtogenbggjodcnaaDoorClone
import Derived.Test.YtogenbggjodcnaaDoorRefV
import Derived.Test.YtogenbggjodcnaaDoorGetB
/-
  The product of two polynomials; no tape.
-/
namespace Go.Proofs.YtogenbggjodcnaaDoor
open Go.RowKit

theorem info_pe : (Tryd.prog.info? 29).map (fun i => (i.zero, i.size, i.bytes)) = some (some (.agg #[.int .u64 0, .int .u64 0, .int .u64 0, .int .u64 0]), 4, 32) := by kernel_rfl
set_option maxRecDepth 100000 in
set_option maxHeartbeats 2000000 in
theorem pmul_pos (id : Int) (m inv o s n1 n2 cap1 cap2 : Nat) (a1 a2 : Option Addr) (xs ys : List Nat) (w : World) (hF : Hid (FieldOK m inv)) (hS1 : NumSl w (.slice a1 (n1 + 1) cap1) xs) (hS2 : NumSl w (.slice a2 (n2 + 1) cap2) ys) (hxs : Hid (∀ y ∈ xs, y < m)) (hys : Hid (∀ y ∈ ys, y < m)) (hn1 : xs.length = n1 + 1) (hn2 : ys.length = n2 + 1) (hl1 : n1 < 100000) (hl2 : n2 < 100000) :
    Calls Tryd.prog 76 #[.pointer none, fld id m inv o s, .slice a1 (n1 + 1) cap1, .slice a2 (n2 + 1) cap2] w (RetNums 29 (pmulF m xs ys) w) := by
  obtain ⟨i0, hi, hz0, hz1, hz2⟩ := info_parts info_pe
  have hm2 := hF.out.2.1
  have hx0 : xs ≠ [] := fun e => by rw [e] at hn1; cases hn1
  have hy0 : ys ≠ [] := fun e => by rw [e] at hn2; cases hn2
  obtain ⟨c, hc⟩ : ∃ c, n1 + n2 + 1 = c := ⟨_, rfl⟩
  obtain ⟨g1, off1, ha1, hat1⟩ : ∃ g off, a1 = some ⟨g, off, none⟩ ∧ NumsAt w g off xs := by
    obtain ⟨a', c', e, _, h | h⟩ := hS1
    · exact absurd h hx0
    · simp only [Value.slice.injEq] at e; rw [e.1]; exact h
  obtain ⟨g2, off2, ha2, hat2⟩ : ∃ g off, a2 = some ⟨g, off, none⟩ ∧ NumsAt w g off ys := by
    obtain ⟨a', c', e, _, h | h⟩ := hS2
    · exact absurd h hy0
    · simp only [Value.slice.injEq] at e; rw [e.1]; exact h
  subst ha1 ha2
  obtain ⟨N1, hN1⟩ : ∃ N, n1 + 1 = N := ⟨_, rfl⟩
  obtain ⟨N2, hN2⟩ : ∃ N, n2 + 1 = N := ⟨_, rfl⟩
  rw [hN1, hN2]
  have hd1 : ((N1 : Int) == 0) = false := by simp; omega
  have hd2 : ((N2 : Int) == 0) = false := by simp; omega
  have hsum : (N1 : Int) + (N2 : Int) - 1 = (c : Int) := by omega
  have HAT1 := hid hat1
  have HAT2 := hid hat2
  have HN1 := hid (show xs.length = N1 by omega)
  have HN2 := hid (show ys.length = N2 by omega)
  have HX0 := hid hx0
  have HY0 := hid hy0
  clear hS1 hS2 hat1 hat2 hn1 hn2 hx0 hy0
  go_enter Tryd.func76, Tryd.ntmps76
  go_wp2_with (at_make; refine wpList_make_full _ rfl _ _ 34 rfl (w.heap.size + 1) 29 i0 _ 4 Tryd.underlying34 hi hz0 hz1 .i64 .i64 _ _ c rfl rfl (by first | rfl | omega) (by first | rfl | omega) (by rw [hz2]; omega) (by unfold maxLen; omega) (by simp) ?_; intro w1 hown1 hgrow1)
  have B1 := hid (Below.grown ((Below.refl w.heap.size w).alloc (Nat.le_refl _) (.cells #[.int .i64 id, .int .u64 (limb m 0 : Int), .int .u64 (limb m 1 : Int), .int .u64 (limb m 2 : Int), .int .u64 (limb m 3 : Int), .int .u64 (inv : Int), .int .u64 (limb o 0 : Int), .int .u64 (limb o 1 : Int), .int .u64 (limb o 2 : Int), .int .u64 (limb o 3 : Int), .int .u64 (limb s 0 : Int), .int .u64 (limb s 1 : Int), .int .u64 (limb s 2 : Int), .int .u64 (limb s 3 : Int)] 31)) hgrow1 (by simp) (fun j hj => by cases hj))
  have F1 := hid (show Blk w1 w.heap.size 31 [.int .i64 id, .int .u64 (limb m 0 : Int), .int .u64 (limb m 1 : Int), .int .u64 (limb m 2 : Int), .int .u64 (limb m 3 : Int), .int .u64 (inv : Int), .int .u64 (limb o 0 : Int), .int .u64 (limb o 1 : Int), .int .u64 (limb o 2 : Int), .int .u64 (limb o 3 : Int), .int .u64 (limb s 0 : Int), .int .u64 (limb s 1 : Int), .int .u64 (limb s 2 : Int), .int .u64 (limb s 3 : Int)] from Blk.grown (Blk.new rfl) hgrow1 (by simp))
  have hw0 : (w.alloc (.cells #[.int .i64 id, .int .u64 (limb m 0 : Int), .int .u64 (limb m 1 : Int), .int .u64 (limb m 2 : Int), .int .u64 (limb m 3 : Int), .int .u64 (inv : Int), .int .u64 (limb o 0 : Int), .int .u64 (limb o 1 : Int), .int .u64 (limb o 2 : Int), .int .u64 (limb o 3 : Int), .int .u64 (limb s 0 : Int), .int .u64 (limb s 1 : Int), .int .u64 (limb s 2 : Int), .int .u64 (limb s 3 : Int)] 31)).heap.size = w.heap.size + 1 := by simp
  rw [hw0] at hown1
  have O1 := hid hown1
  have P1 := hid (PRow.zero m c xs ys _ (by rw [Array.length_toList]; exact size_madeCells _ _) (fun t j ht hj => made_zeros c t j ht hj))
  clear hown1 hgrow1 hi hz0 hz1 hz2 hd1 hd2 hsum
  clear hw0
  go_loopw [31] (fun x wr => ∃ (i : Nat) (zs : List Value), i ≤ N1 ∧ x = .int .i64 (i : Int) ∧ Blk wr w.heap.size 31 [.int .i64 id, .int .u64 (limb m 0 : Int), .int .u64 (limb m 1 : Int), .int .u64 (limb m 2 : Int), .int .u64 (limb m 3 : Int), .int .u64 (inv : Int), .int .u64 (limb o 0 : Int), .int .u64 (limb o 1 : Int), .int .u64 (limb o 2 : Int), .int .u64 (limb o 3 : Int), .int .u64 (limb s 0 : Int), .int .u64 (limb s 1 : Int), .int .u64 (limb s 2 : Int), .int .u64 (limb s 3 : Int)] ∧ wr.ownsRow (w.heap.size + 1) 29 4 (.slice (some ⟨w.heap.size + 1, 0, none⟩) c c) c zs ∧ PRow m xs ys c i 0 zs ∧ Below w.heap.size w wr) (fun x _ => N1 - (intOf x).toNat)
  case atStart => exact ⟨0, _, Nat.zero_le _, rfl, F1.out, O1.out, P1.out, B1.out⟩
  case round =>
    obtain ⟨i, zs, hiN, rfl, hf, hown, hpr, hB⟩ := hrel
    have zB := hB.size
    have HB0 := hid hB
    have HPR0 := hid hpr
    clear hB hpr
    by_cases hlt : i < N1
    · obtain ⟨x, hx⟩ : ∃ x, xs[i]? = some x := ⟨xs[i]'(by rw [HN1.out]; exact hlt), List.getElem?_eq_getElem _⟩
      obtain ⟨_, e0, e1, e2, e3⟩ := HAT1.out i x hx
      have hxm := hxs.out x (List.mem_of_getElem? hx)
      have HXD := hid (show xs.getD i 0 = x by rw [List.getD, hx]; rfl)
      have hg : g1 < w.heap.size := World.block_lt_of_cell? w _ e0
      have hgr := Nat.lt_of_lt_of_le hg zB
      have d0 := (HB0.out.cell (p := ⟨g1, off1 + i * 4, none⟩) hg).trans e0
      have d1 := (HB0.out.cell (p := ⟨g1, off1 + i * 4 + 1, none⟩) hg).trans e1
      have d2 := (HB0.out.cell (p := ⟨g1, off1 + i * 4 + 2, none⟩) hg).trans e2
      have d3 := (HB0.out.cell (p := ⟨g1, off1 + i * 4 + 3, none⟩) hg).trans e3
      clear e0 e1 e2 e3 hx
      obtain ⟨bx, hbx⟩ : ∃ b, wr.heap.size = b := ⟨_, rfl⟩
      have zbx : w.heap.size + 1 < bx := by have h9 : w.heap.size + 1 < wr.heap.size := (hown.lt _ rfl).2; omega
      have xb0 : Blk (wr.alloc (.cells #[.int .u64 (limb x 0 : Int), .int .u64 (limb x 1 : Int), .int .u64 (limb x 2 : Int), .int .u64 (limb x 3 : Int)] 29)) bx 29 (limbs x) := Blk.new hbx
      go_wp2
      clear hbx
      go_loopw [38] (fun y wy => ∃ (k : Nat) (zs : List Value), k ≤ N2 ∧ y = .int .i64 (k : Int) ∧ Blk wy w.heap.size 31 [.int .i64 id, .int .u64 (limb m 0 : Int), .int .u64 (limb m 1 : Int), .int .u64 (limb m 2 : Int), .int .u64 (limb m 3 : Int), .int .u64 (inv : Int), .int .u64 (limb o 0 : Int), .int .u64 (limb o 1 : Int), .int .u64 (limb o 2 : Int), .int .u64 (limb o 3 : Int), .int .u64 (limb s 0 : Int), .int .u64 (limb s 1 : Int), .int .u64 (limb s 2 : Int), .int .u64 (limb s 3 : Int)] ∧ Blk wy bx 29 (limbs x) ∧ wy.ownsRow (w.heap.size + 1) 29 4 (.slice (some ⟨w.heap.size + 1, 0, none⟩) c c) c zs ∧ PRow m xs ys c i k zs ∧ Below w.heap.size w wy) (fun y _ => N2 - (intOf y).toNat)
      case atStart => exact ⟨0, zs, Nat.zero_le _, rfl, hf.alloc _, xb0, hown.alloc _, HPR0.out, HB0.out.alloc zB _⟩
      case round =>
        clear hf hown d0 d1 d2 d3 hgr xb0
        obtain ⟨k, zs, hkN, rfl, hf, hxb, hown, hpr, hB⟩ := hrel
        have zB := hB.size
        have HB := hid hB
        have HPR := hid hpr
        clear hB hpr
        by_cases hlk : k < N2
        · obtain ⟨y, hy⟩ : ∃ y, ys[k]? = some y := ⟨ys[k]'(by rw [HN2.out]; exact hlk), List.getElem?_eq_getElem _⟩
          obtain ⟨_, e0, e1, e2, e3⟩ := HAT2.out k y hy
          have hym := hys.out y (List.mem_of_getElem? hy)
          have HYD := hid (show ys.getD k 0 = y by rw [List.getD, hy]; rfl)
          have hg2 : g2 < w.heap.size := World.block_lt_of_cell? w _ e0
          have hgr2 := Nat.lt_of_lt_of_le hg2 zB
          have d0 := (HB.out.cell (p := ⟨g2, off2 + k * 4, none⟩) hg2).trans e0
          have d1 := (HB.out.cell (p := ⟨g2, off2 + k * 4 + 1, none⟩) hg2).trans e1
          have d2 := (HB.out.cell (p := ⟨g2, off2 + k * 4 + 2, none⟩) hg2).trans e2
          have d3 := (HB.out.cell (p := ⟨g2, off2 + k * 4 + 3, none⟩) hg2).trans e3
          obtain ⟨u, hu⟩ : ∃ u, i + k = u := ⟨_, rfl⟩
          have zu : (i : Int) + (k : Int) = (u : Int) := by omega
          have zuc : (u : Int) < (c : Int) := by omega
          have zuc2 : u < c := by omega
          have zwu : IntKind.i64.wrap (u : Int) = (u : Int) := by rw [IntKind.wrap_i64]; omega
          have HUU := hid hu
          obtain ⟨r, hr⟩ : ∃ r, rowc m xs ys i k u (pacc m xs ys i u) = r := ⟨_, rfl⟩
          have HRV := hid hr
          have hrm : r < m := by rw [← hr]; exact rowc_lt _ _ _ _ _ (by omega) (pacc_lt _ _ (by omega) _ _)
          have M1 := hid (mmul_any id m inv o s x y hF.out (by have := hF.out.1; omega) (by have := hF.out.1; omega) (Nat.mul_lt_mul_of_lt_of_lt (by have := hF.out.1; omega) hym))
          have M2 := hid (madd_any id m inv o s r (mont m x y) hF.out.1 hrm (mont_lt _ _ (by omega)))
          clear e0 e1 e2 e3 hy hr
          have hy0 : Blk (wr.alloc (.cells #[.int .u64 (limb y 0 : Int), .int .u64 (limb y 1 : Int), .int .u64 (limb y 2 : Int), .int .u64 (limb y 3 : Int)] 29)) wr.heap.size 29 (limbs y) := Blk.new rfl
          have gy : Below wr.heap.size wr (wr.alloc (.cells #[.int .u64 (limb y 0 : Int), .int .u64 (limb y 1 : Int), .int .u64 (limb y 2 : Int), .int .u64 (limb y 3 : Int)] 29)) := (Below.refl _ _).alloc (Nat.le_refl _) _
          have qf := hf.keep gy
          have qx := hxb.keep gy
          have qo := owns_keep hown gy
          have zz := gy.size
          have zyb := hy0.lt
          have BY := hid (HB.out.trans (gy.mono zB))
          go_wp2_with (go_at_call 64; refine (note_nil _ _ _ _).mono ?_; rintro e w' ⟨rfl, rfl⟩)
          clear gy
          generalize wr.alloc (.cells #[.int .u64 (limb y 0 : Int), .int .u64 (limb y 1 : Int), .int .u64 (limb y 2 : Int), .int .u64 (limb y 3 : Int)] 29) = wz at *
          obtain ⟨by9, hq9⟩ : ∃ b, wr.heap.size = b := ⟨_, rfl⟩
          rw [hq9] at hy0 zyb ⊢
          clear hq9
          have zf := qf.lt
          have zx := qx.lt
          have zo2 : w.heap.size + 1 < wz.heap.size := (qo.lt _ rfl).2
          have f0 := qf.cell (i := 0) rfl
          have f1 := qf.cell (i := 1) rfl
          have f2 := qf.cell (i := 2) rfl
          have f3 := qf.cell (i := 3) rfl
          have f4 := qf.cell (i := 4) rfl
          have f5 := qf.cell (i := 5) rfl
          have f6 := qf.cell (i := 6) rfl
          have f7 := qf.cell (i := 7) rfl
          have f8 := qf.cell (i := 8) rfl
          have f9 := qf.cell (i := 9) rfl
          have f10 := qf.cell (i := 10) rfl
          have f11 := qf.cell (i := 11) rfl
          have f12 := qf.cell (i := 12) rfl
          have f13 := qf.cell (i := 13) rfl
          have x0 := qx.cell (i := 0) rfl
          have x1 := qx.cell (i := 1) rfl
          have x2 := qx.cell (i := 2) rfl
          have x3 := qx.cell (i := 3) rfl
          have y0 := hy0.cell (i := 0) rfl
          have y1 := hy0.cell (i := 1) rfl
          have y2 := hy0.cell (i := 2) rfl
          have y3 := hy0.cell (i := 3) rfl
          have hrow : ∀ j, j < 4 → zs[u * 4 + j]? = some (.int .u64 (limb r j : Int)) := fun j hj => by rw [HPR.out.2 u j (by omega) hj, HRV.out]
          have r0 : wz.cell? ⟨w.heap.size + 1, u * 4, none⟩ = some (.int .u64 (limb r 0 : Int)) := (qo.cellAt (u * 4) (by omega)).trans (hrow 0 (by omega))
          have r1 : wz.cell? ⟨w.heap.size + 1, u * 4 + 1, none⟩ = some (.int .u64 (limb r 1 : Int)) := (qo.cellAt (u * 4 + 1) (by omega)).trans (hrow 1 (by omega))
          have r2 : wz.cell? ⟨w.heap.size + 1, u * 4 + 2, none⟩ = some (.int .u64 (limb r 2 : Int)) := (qo.cellAt (u * 4 + 2) (by omega)).trans (hrow 2 (by omega))
          have r3 : wz.cell? ⟨w.heap.size + 1, u * 4 + 3, none⟩ = some (.int .u64 (limb r 3 : Int)) := (qo.cellAt (u * 4 + 3) (by omega)).trans (hrow 3 (by omega))
          have HROW := hid hrow
          clear hrow
          refine wp_region_soft (C := fun W' => Below wz.heap.size wz W') 16 (by kernel_rfl) (by kernel_rfl) ((Below.refl _ _).drew) ?_
          simp only [List.take_succ_cons, List.take_zero, List.drop_succ_cons, List.drop_zero]
          refine wpQuiet_step (fun K hK => ?_)
          rw [if_pos (by rfl)]
          refine ⟨.slice (some ⟨w.heap.size + 1, 0, none⟩) c c, fun W' hW => ?_, hK _ ?_⟩
          · go_simp
          clear hK K
          simp only [Act.put, List.setIfInBounds_toArray, List.set_cons_zero, List.set_cons_succ]
          refine wpQuiet_step (fun K hK => ?_)
          rw [if_pos (by rfl)]
          refine ⟨.int .i64 (i : Int), fun W' hW => ?_, hK _ ?_⟩
          · go_simp
          clear hK K
          simp only [Act.put, List.setIfInBounds_toArray, List.set_cons_zero, List.set_cons_succ]
          refine wpQuiet_step (fun K hK => ?_)
          rw [if_pos (by rfl)]
          refine ⟨.int .i64 (k : Int), fun W' hW => ?_, hK _ ?_⟩
          · go_simp
          clear hK K
          simp only [Act.put, List.setIfInBounds_toArray, List.set_cons_zero, List.set_cons_succ]
          refine wpQuiet_step (fun K hK => ?_)
          rw [if_pos (by rfl)]
          refine ⟨.int .i64 (u : Int), fun W' hW => ?_, hK _ ?_⟩
          · go_simp
          clear hK K
          simp only [Act.put, List.setIfInBounds_toArray, List.set_cons_zero, List.set_cons_succ]
          refine wpQuiet_step (fun K hK => ?_)
          rw [if_pos (by rfl)]
          refine ⟨fld id m inv o s, fun W' hW => ?_, hK _ ?_⟩
          · have e0 := (hW.cell (p := ⟨w.heap.size, 0, none⟩) zf).trans f0
            have e1 := (hW.cell (p := ⟨w.heap.size, 1, none⟩) zf).trans f1
            have e2 := (hW.cell (p := ⟨w.heap.size, 2, none⟩) zf).trans f2
            have e3 := (hW.cell (p := ⟨w.heap.size, 3, none⟩) zf).trans f3
            have e4 := (hW.cell (p := ⟨w.heap.size, 4, none⟩) zf).trans f4
            have e5 := (hW.cell (p := ⟨w.heap.size, 5, none⟩) zf).trans f5
            have e6 := (hW.cell (p := ⟨w.heap.size, 6, none⟩) zf).trans f6
            have e7 := (hW.cell (p := ⟨w.heap.size, 7, none⟩) zf).trans f7
            have e8 := (hW.cell (p := ⟨w.heap.size, 8, none⟩) zf).trans f8
            have e9 := (hW.cell (p := ⟨w.heap.size, 9, none⟩) zf).trans f9
            have e10 := (hW.cell (p := ⟨w.heap.size, 10, none⟩) zf).trans f10
            have e11 := (hW.cell (p := ⟨w.heap.size, 11, none⟩) zf).trans f11
            have e12 := (hW.cell (p := ⟨w.heap.size, 12, none⟩) zf).trans f12
            have e13 := (hW.cell (p := ⟨w.heap.size, 13, none⟩) zf).trans f13
            go_simp
          clear hK K
          simp only [Act.put, List.setIfInBounds_toArray, List.set_cons_zero, List.set_cons_succ]
          refine wpQuiet_step (fun K hK => ?_)
          rw [if_pos (by rfl)]
          refine ⟨.slice (some ⟨w.heap.size + 1, 0, none⟩) c c, fun W' hW => ?_, hK _ ?_⟩
          · go_simp
          clear hK K
          simp only [Act.put, List.setIfInBounds_toArray, List.set_cons_zero, List.set_cons_succ]
          refine wpQuiet_step (fun K hK => ?_)
          rw [if_pos (by rfl)]
          refine ⟨.int .i64 (i : Int), fun W' hW => ?_, hK _ ?_⟩
          · go_simp
          clear hK K
          simp only [Act.put, List.setIfInBounds_toArray, List.set_cons_zero, List.set_cons_succ]
          refine wpQuiet_step (fun K hK => ?_)
          rw [if_pos (by rfl)]
          refine ⟨.int .i64 (k : Int), fun W' hW => ?_, hK _ ?_⟩
          · go_simp
          clear hK K
          simp only [Act.put, List.setIfInBounds_toArray, List.set_cons_zero, List.set_cons_succ]
          refine wpQuiet_step (fun K hK => ?_)
          rw [if_pos (by rfl)]
          refine ⟨.int .i64 (u : Int), fun W' hW => ?_, hK _ ?_⟩
          · go_simp
          clear hK K
          simp only [Act.put, List.setIfInBounds_toArray, List.set_cons_zero, List.set_cons_succ]
          refine wpQuiet_step (fun K hK => ?_)
          rw [if_pos (by rfl)]
          refine ⟨.pointer (some ⟨w.heap.size + 1, u * 4, none⟩), fun W' hW => ?_, hK _ ?_⟩
          · go_simp
          clear hK K
          simp only [Act.put, List.setIfInBounds_toArray, List.set_cons_zero, List.set_cons_succ]
          refine wpQuiet_step (fun K hK => ?_)
          rw [if_pos (by rfl)]
          refine ⟨vec r, fun W' hW => ?_, hK _ ?_⟩
          · have e0 := (hW.cell (p := ⟨w.heap.size + 1, u * 4, none⟩) zo2).trans r0
            have e1 := (hW.cell (p := ⟨w.heap.size + 1, u * 4 + 1, none⟩) zo2).trans r1
            have e2 := (hW.cell (p := ⟨w.heap.size + 1, u * 4 + 2, none⟩) zo2).trans r2
            have e3 := (hW.cell (p := ⟨w.heap.size + 1, u * 4 + 3, none⟩) zo2).trans r3
            go_simp
          clear hK K
          simp only [Act.put, List.setIfInBounds_toArray, List.set_cons_zero, List.set_cons_succ]
          refine wpQuiet_step (fun K hK => ?_)
          rw [if_pos (by rfl)]
          refine ⟨fld id m inv o s, fun W' hW => ?_, hK _ ?_⟩
          · have e0 := (hW.cell (p := ⟨w.heap.size, 0, none⟩) zf).trans f0
            have e1 := (hW.cell (p := ⟨w.heap.size, 1, none⟩) zf).trans f1
            have e2 := (hW.cell (p := ⟨w.heap.size, 2, none⟩) zf).trans f2
            have e3 := (hW.cell (p := ⟨w.heap.size, 3, none⟩) zf).trans f3
            have e4 := (hW.cell (p := ⟨w.heap.size, 4, none⟩) zf).trans f4
            have e5 := (hW.cell (p := ⟨w.heap.size, 5, none⟩) zf).trans f5
            have e6 := (hW.cell (p := ⟨w.heap.size, 6, none⟩) zf).trans f6
            have e7 := (hW.cell (p := ⟨w.heap.size, 7, none⟩) zf).trans f7
            have e8 := (hW.cell (p := ⟨w.heap.size, 8, none⟩) zf).trans f8
            have e9 := (hW.cell (p := ⟨w.heap.size, 9, none⟩) zf).trans f9
            have e10 := (hW.cell (p := ⟨w.heap.size, 10, none⟩) zf).trans f10
            have e11 := (hW.cell (p := ⟨w.heap.size, 11, none⟩) zf).trans f11
            have e12 := (hW.cell (p := ⟨w.heap.size, 12, none⟩) zf).trans f12
            have e13 := (hW.cell (p := ⟨w.heap.size, 13, none⟩) zf).trans f13
            go_simp
          clear hK K
          simp only [Act.put, List.setIfInBounds_toArray, List.set_cons_zero, List.set_cons_succ]
          refine wpQuiet_step (fun K hK => ?_)
          rw [if_pos (by rfl)]
          refine ⟨vec x, fun W' hW => ?_, hK _ ?_⟩
          · have e0 := (hW.cell (p := ⟨bx, 0, none⟩) zx).trans x0
            have e1 := (hW.cell (p := ⟨bx, 1, none⟩) zx).trans x1
            have e2 := (hW.cell (p := ⟨bx, 2, none⟩) zx).trans x2
            have e3 := (hW.cell (p := ⟨bx, 3, none⟩) zx).trans x3
            go_simp
          clear hK K
          simp only [Act.put, List.setIfInBounds_toArray, List.set_cons_zero, List.set_cons_succ]
          refine wpQuiet_step (fun K hK => ?_)
          rw [if_pos (by rfl)]
          refine ⟨vec y, fun W' hW => ?_, hK _ ?_⟩
          · have e0 := (hW.cell (p := ⟨by9, 0, none⟩) zyb).trans y0
            have e1 := (hW.cell (p := ⟨by9, 1, none⟩) zyb).trans y1
            have e2 := (hW.cell (p := ⟨by9, 2, none⟩) zyb).trans y2
            have e3 := (hW.cell (p := ⟨by9, 3, none⟩) zyb).trans y3
            go_simp
          clear hK K
          simp only [Act.put, List.setIfInBounds_toArray, List.set_cons_zero, List.set_cons_succ]
          refine wpQuiet_step (fun K hK => ?_)
          rw [if_pos (by rfl)]
          refine ⟨vec (mont m x y), fun W' hW => ?_, hK _ ?_⟩
          · go_simp
            refine (M1.out _).mono ?_
            rintro e w' ⟨rfl, b⟩
            exact ⟨rfl, hW.trans (b.mono hW.size)⟩
          clear hK K
          simp only [Act.put, List.setIfInBounds_toArray, List.set_cons_zero, List.set_cons_succ]
          refine wpQuiet_step (fun K hK => ?_)
          rw [if_pos (by rfl)]
          refine ⟨vec (addm m r (mont m x y)), fun W' hW => ?_, hK _ ?_⟩
          · go_simp
            refine (M2.out _).mono ?_
            rintro e w' ⟨rfl, b⟩
            exact ⟨rfl, hW.trans (b.mono hW.size)⟩
          clear hK K
          simp only [Act.put, List.setIfInBounds_toArray, List.set_cons_zero, List.set_cons_succ]
          refine wpQuiet_nil ?_
          intro W3 hW3
          have kf := qf.below hW3 zf
          have kx := qx.below hW3 zx
          have ko := owns_keep qo hW3
          have B3 := hid (BY.out.trans (hW3.mono BY.out.size))
          have zW3 := hW3.size
          have zo3 : w.heap.size + 1 < W3.heap.size := (ko.lt _ rfl).2
          have t0 : W3.cell? ⟨w.heap.size + 1, u * 4, none⟩ = some (.int .u64 (limb r 0 : Int)) := (ko.cellAt (u * 4) (by omega)).trans (HROW.out 0 (by omega))
          have t1 : W3.cell? ⟨w.heap.size + 1, u * 4 + 1, none⟩ = some (.int .u64 (limb r 1 : Int)) := (ko.cellAt (u * 4 + 1) (by omega)).trans (HROW.out 1 (by omega))
          have t2 : W3.cell? ⟨w.heap.size + 1, u * 4 + 2, none⟩ = some (.int .u64 (limb r 2 : Int)) := (ko.cellAt (u * 4 + 2) (by omega)).trans (HROW.out 2 (by omega))
          have t3 : W3.cell? ⟨w.heap.size + 1, u * 4 + 3, none⟩ = some (.int .u64 (limb r 3 : Int)) := (ko.cellAt (u * 4 + 3) (by omega)).trans (HROW.out 3 (by omega))
          have v0 := ko.frozenAt (u * 4)
          have v1 := ko.frozenAt (u * 4 + 1)
          have v2 := ko.frozenAt (u * 4 + 2)
          have v3 := ko.frozenAt (u * 4 + 3)
          obtain ⟨r2, hr2⟩ : ∃ r2, addm m r (mont m x y) = r2 := ⟨_, rfl⟩
          have HR2 := hid hr2
          rw [hr2]
          clear hr2
          go_wp2
          go_roundw
          case rel => exact ⟨k + 1, _, by omega, by go_num, (((kf.other _ _ (by dsimp only; omega)).other _ _ (by dsimp only; omega)).other _ _ (by dsimp only; omega)).other _ _ (by dsimp only; omega), (((kx.other _ _ (by dsimp only; omega)).other _ _ (by dsimp only; omega)).other _ _ (by dsimp only; omega)).other _ _ (by dsimp only; omega), ((((ko.stored (u * 4) _).1.stored (u * 4 + 1) _).1.stored (u * 4 + 2) _).1.stored (u * 4 + 3) _).1, by have q := HPR.out.store (by omega) r2 (by rw [(rowc_here m xs ys i k _).1, HXD.out, HYD.out, ← HR2.out, ← HRV.out, HUU.out, ← HUU.out, (rowc_here m xs ys i k _).2]); rw [HUU.out] at q; exact q, (((B3.out.setCell (by dsimp only; omega) _).setCell (by dsimp only; omega) _).setCell (by dsimp only; omega) _).setCell (by dsimp only; omega) _⟩
          case measure => simp [intOf]; omega
        · obtain rfl : k = N2 := by omega
          have HPN := hid (show PRow m xs ys c (i + 1) 0 zs by rw [← HN2.out] at HPR; exact HPR.out.next)
          go_wp2
          go_roundw
          case rel => exact ⟨i + 1, zs, by omega, by go_num, hf, hown, HPN.out, HB.out⟩
          case measure => simp [intOf]; omega
    · obtain rfl : i = N1 := by omega
      have hdn : (pmulF m xs ys).length = c ∧ zs = nums (pmulF m xs ys) := by
        have q := HPR0.out
        rw [← HN1.out] at q
        exact q.done HX0.out HY0.out (by rw [HN1.out, HN2.out]; omega)
      have HDN := hid hdn
      have HOW := hid hown
      clear hdn hown
      go_wp2
      go_ret
      refine ⟨_, rfl, ?_, HB0.out⟩
      rw [HDN.out.1, ← HDN.out.2]
      exact owns_mono HOW.out (by omega)
end Go.Proofs.YtogenbggjodcnaaDoor
/-
  The multiple of a polynomial; no tape.
-/
namespace Go.Proofs.YtogenbggjodcnaaDoor
open Go.RowKit Go.Shelf

attribute [local go_sem] Oper.semAt_some

/-- The multiple of a list of forms. -/
noncomputable def pscl (m x : Nat) (xs : List Nat) : List Nat := xs.map fun y => mont m y x
theorem scl_store {m n k x y r : Nat} {xs : List Nat} {zs : List Value} (h : FRow n (fun t => if t < k then mont m (xs.getD t 0) x else 0) zs) (hc : k < n) (hx : xs.getD k 0 = y) (hr : mont m y x = r) :
    FRow n (fun t => if t < k + 1 then mont m (xs.getD t 0) x else 0) ((((zs.set (k * 4) (.int .u64 (limb r 0 : Int))).set (k * 4 + 1) (.int .u64 (limb r 1 : Int))).set (k * 4 + 2) (.int .u64 (limb r 2 : Int))).set (k * 4 + 3) (.int .u64 (limb r 3 : Int))) := by
  refine h.store hc r (fun t _ => ?_)
  by_cases e : t = k
  · rw [if_pos e, if_pos (by omega), e, hx, hr]
  · rw [if_neg e]
    by_cases l : t < k
    · rw [if_pos l, if_pos (by omega)]
    · rw [if_neg l, if_neg (by omega)]
theorem pscl_range (m x : Nat) (xs : List Nat) : pscl m x xs = (List.range xs.length).map fun t => mont m (xs.getD t 0) x := by
  unfold pscl
  refine List.ext_getElem? fun k => ?_
  rw [List.getElem?_map, List.getElem?_map]
  by_cases h : k < xs.length
  · rw [List.getElem?_range h, List.getElem?_eq_getElem h]
    show some (mont m (xs[k]) x) = some (mont m (xs.getD k 0) x)
    rw [getD_some (List.getElem?_eq_getElem h)]
  · rw [List.getElem?_eq_none (by omega), List.getElem?_eq_none (by simp; omega)]; rfl
set_option maxRecDepth 100000 in
set_option maxHeartbeats 1000000 in
theorem scale_any (id : Int) (m inv o s x : Nat) (v : Value) (xs : List Nat) (w : World) (hF : Hid (FieldOK m inv)) (hx : Hid (x < m)) (hS : NumSl w v xs) (hxs : ∀ y ∈ xs, y < m) (hl : xs.length < 1000000) :
    Calls Tryd.prog 80 #[.pointer none, fld id m inv o s, v, vec x] w (RetOwn 29 4 xs.length (nums (pscl m x xs)) w) := by
  have hm2 := hF.out.2.1
  have hS9 := hS
  obtain ⟨a, cap, rfl, _, _⟩ := hS9
  obtain ⟨n, hn⟩ : ∃ n, xs.length = n := ⟨_, rfl⟩
  rw [hn] at hS hl ⊢
  have hga : n ≠ 0 → ∀ ad, a = some ad → ad.block < w.heap.size := fun hn0 ad h => by
    have hS' := hS
    obtain ⟨a', c', e, _, hr⟩ := hS'
    simp only [Value.slice.injEq] at e
    obtain ⟨rfl, _, _⟩ := e
    rcases hr with h0 | ⟨g, off, rfl, he⟩
    · rw [h0] at hn; exact absurd hn.symm hn0
    · cases h
      obtain ⟨z, hz⟩ : ∃ z, xs[0]? = some z := ⟨xs[0]'(by omega), List.getElem?_eq_getElem _⟩
      exact World.block_lt_of_cell? w _ (he 0 z hz).2.1
  obtain ⟨i0, hi, hz0, hz1, hz2⟩ := info_parts info_el
  obtain ⟨wq, hmk, hoq, hgq⟩ := run_make_full (P := Tryd.prog) ((w.alloc (.cells #[.int .i64 id, .int .u64 (limb m 0 : Int), .int .u64 (limb m 1 : Int), .int .u64 (limb m 2 : Int), .int .u64 (limb m 3 : Int), .int .u64 (inv : Int), .int .u64 (limb o 0 : Int), .int .u64 (limb o 1 : Int), .int .u64 (limb o 2 : Int), .int .u64 (limb o 3 : Int), .int .u64 (limb s 0 : Int), .int .u64 (limb s 1 : Int), .int .u64 (limb s 2 : Int), .int .u64 (limb s 3 : Int)] 31)).alloc (.cells #[.int .u64 (limb x 0 : Int), .int .u64 (limb x 1 : Int), .int .u64 (limb x 2 : Int), .int .u64 (limb x 3 : Int)] 29)) (w.heap.size + 1 + 1) 34 29 i0 _ 4 Tryd.underlying34 hi hz0 hz1 .i64 .i64 n (by rw [hz2]; omega) (by unfold maxLen; omega) (by simp)
  have zW0 : ((w.alloc (.cells #[.int .i64 id, .int .u64 (limb m 0 : Int), .int .u64 (limb m 1 : Int), .int .u64 (limb m 2 : Int), .int .u64 (limb m 3 : Int), .int .u64 (inv : Int), .int .u64 (limb o 0 : Int), .int .u64 (limb o 1 : Int), .int .u64 (limb o 2 : Int), .int .u64 (limb o 3 : Int), .int .u64 (limb s 0 : Int), .int .u64 (limb s 1 : Int), .int .u64 (limb s 2 : Int), .int .u64 (limb s 3 : Int)] 31)).alloc (.cells #[.int .u64 (limb x 0 : Int), .int .u64 (limb x 1 : Int), .int .u64 (limb x 2 : Int), .int .u64 (limb x 3 : Int)] 29)).heap.size = w.heap.size + 1 + 1 := by simp
  have B0 : Below w.heap.size w ((w.alloc (.cells #[.int .i64 id, .int .u64 (limb m 0 : Int), .int .u64 (limb m 1 : Int), .int .u64 (limb m 2 : Int), .int .u64 (limb m 3 : Int), .int .u64 (inv : Int), .int .u64 (limb o 0 : Int), .int .u64 (limb o 1 : Int), .int .u64 (limb o 2 : Int), .int .u64 (limb o 3 : Int), .int .u64 (limb s 0 : Int), .int .u64 (limb s 1 : Int), .int .u64 (limb s 2 : Int), .int .u64 (limb s 3 : Int)] 31)).alloc (.cells #[.int .u64 (limb x 0 : Int), .int .u64 (limb x 1 : Int), .int .u64 (limb x 2 : Int), .int .u64 (limb x 3 : Int)] 29)) := by go_grown
  have Bq := Below.grown B0 hgq (by rw [zW0]; omega) (fun j hj => by cases hj)
  have f0 : Blk wq w.heap.size 31 [.int .i64 id, .int .u64 (limb m 0 : Int), .int .u64 (limb m 1 : Int), .int .u64 (limb m 2 : Int), .int .u64 (limb m 3 : Int), .int .u64 (inv : Int), .int .u64 (limb o 0 : Int), .int .u64 (limb o 1 : Int), .int .u64 (limb o 2 : Int), .int .u64 (limb o 3 : Int), .int .u64 (limb s 0 : Int), .int .u64 (limb s 1 : Int), .int .u64 (limb s 2 : Int), .int .u64 (limb s 3 : Int)] := Blk.grown (Blk.alloc (Blk.new rfl) _) hgq (by simp)
  have x0 : Blk wq (w.heap.size + 1) 29 [.int .u64 (limb x 0 : Int), .int .u64 (limb x 1 : Int), .int .u64 (limb x 2 : Int), .int .u64 (limb x 3 : Int)] := Blk.grown (Blk.new (by simp)) hgq (by simp)
  have hoq' : wq.ownsRow (w.heap.size + 1 + 1) 29 4 (.slice (some ⟨w.heap.size + 1 + 1, 0, none⟩) n n) n (madeCells (Value.agg #[.int .u64 0, .int .u64 0, .int .u64 0, .int .u64 0]).cells (n * 4)).toList := by rw [zW0] at hoq; exact hoq
  rw [zW0] at hmk
  have zq : w.heap.size + 1 + 1 < wq.heap.size := (hoq'.lt _ rfl).2
  have HMK := hmk
  have SQ := hid (hS.below Bq)
  clear hmk hi hz0 hz1 hz2 hoq hgq B0 zW0
  refine (callsIn_wide (n := 9)).1 ?_
  refine callsIn_of_wp_marks Tryd.func80 rfl trivial ?_ rfl
  simp only [Tryd.ntmps80, List.size_toArray, List.length_cons, List.length_nil, Nat.reduceAdd, Nat.reduceSub, Array.replicate_succ, Array.replicate_zero, List.push_toArray, List.append_toArray, List.nil_append, List.cons_append]
  gi_wp2_with (first | (refine ⟨trivial, ?_⟩; gi_at_call 113; refine (callsIn_wide.2 (all_any a n cap _)).mono ?_; rintro e w' ⟨rfl, rfl⟩) | (refine ⟨trivial, ?_⟩; gi_at_call 112; refine (callsIn_wide.2 (visit_any none 136 _ _)).mono ?_; rintro e w' ⟨rfl, rfl⟩))
  have G5 : Grow wq.heap.size wq ((((wq.alloc (.cells #[.slice (some ⟨w.heap.size + 1 + 1, 0, none⟩) n n] 34)).alloc (.cells #[.slice a n cap] 34)).alloc (.cells #[.pointer none] 53)).alloc (.cells #[.func (.func 136) #[] #[ptr' (wq.heap.size + 1)]] 160)) := ((((Grow.refl _ wq).alloc _).alloc _).alloc _).alloc _
  have q5 : Blk ((((wq.alloc (.cells #[.slice (some ⟨w.heap.size + 1 + 1, 0, none⟩) n n] 34)).alloc (.cells #[.slice a n cap] 34)).alloc (.cells #[.pointer none] 53)).alloc (.cells #[.func (.func 136) #[] #[ptr' (wq.heap.size + 1)]] 160)) wq.heap.size 34 [.slice (some ⟨w.heap.size + 1 + 1, 0, none⟩) n n] := Blk.alloc (Blk.alloc (Blk.alloc (Blk.new rfl) _) _) _
  have s5 : Blk ((((wq.alloc (.cells #[.slice (some ⟨w.heap.size + 1 + 1, 0, none⟩) n n] 34)).alloc (.cells #[.slice a n cap] 34)).alloc (.cells #[.pointer none] 53)).alloc (.cells #[.func (.func 136) #[] #[ptr' (wq.heap.size + 1)]] 160)) (wq.heap.size + 1) 34 [.slice a n cap] := Blk.alloc (Blk.alloc (Blk.new (by simp)) _) _
  have t5 : Blk ((((wq.alloc (.cells #[.slice (some ⟨w.heap.size + 1 + 1, 0, none⟩) n n] 34)).alloc (.cells #[.slice a n cap] 34)).alloc (.cells #[.pointer none] 53)).alloc (.cells #[.func (.func 136) #[] #[ptr' (wq.heap.size + 1)]] 160)) (wq.heap.size + 1 + 1) 53 [.pointer none] := Blk.alloc (Blk.new (by simp)) _
  have l5 : Blk ((((wq.alloc (.cells #[.slice (some ⟨w.heap.size + 1 + 1, 0, none⟩) n n] 34)).alloc (.cells #[.slice a n cap] 34)).alloc (.cells #[.pointer none] 53)).alloc (.cells #[.func (.func 136) #[] #[ptr' (wq.heap.size + 1)]] 160)) (wq.heap.size + 1 + 1 + 1) 160 [.func (.func 136) #[] #[ptr' (wq.heap.size + 1)]] := Blk.new (by simp)
  have z5 : ((((wq.alloc (.cells #[.slice (some ⟨w.heap.size + 1 + 1, 0, none⟩) n n] 34)).alloc (.cells #[.slice a n cap] 34)).alloc (.cells #[.pointer none] 53)).alloc (.cells #[.func (.func 136) #[] #[ptr' (wq.heap.size + 1)]] 160)).heap.size = wq.heap.size + 4 := by simp
  generalize ((((wq.alloc (.cells #[.slice (some ⟨w.heap.size + 1 + 1, 0, none⟩) n n] 34)).alloc (.cells #[.slice a n cap] 34)).alloc (.cells #[.pointer none] 53)).alloc (.cells #[.func (.func 136) #[] #[ptr' (wq.heap.size + 1)]] 160)) = w5 at *
  have hP0 : VisS (wq.heap.size + 1 + 1 + 1) (wq.heap.size + 1 + 1) 136 #[ptr' (wq.heap.size + 1)] w5 ∧ BackS (wq.heap.size + 1) (.slice a n cap) xs w5 := ⟨⟨l5, t5⟩, s5, SQ.out.grow G5⟩
  have B5 : Below w.heap.size w w5 := Below.behind Bq (Nat.le_refl _) G5 (by omega)
  have f5 := f0.grow G5
  have x5 := x0.grow G5
  have o5 := owns_grow hoq' G5
  have HXS := hid hxs
  have HNL := hid hn
  have hqr := (FRow.zero n _ (by rw [Array.length_toList]; exact size_madeCells _ _) (fun j i hj hi => made_zeros n j i hj hi)).congr (g := fun t => if t < ([] : List (Nat × Nat)).length then mont m (xs.getD t 0) x else 0) (fun t _ => by simp)
  refine wpIn_every (gf := 135) (lb := #[ptr' (wq.heap.size + 1 + 1 + 1), ptr' (wq.heap.size + 1 + 1)]) (encs := pairV) (xs := ups xs)
    (Kp := fun A B => (VisS (wq.heap.size + 1 + 1 + 1) (wq.heap.size + 1 + 1) 136 #[ptr' (wq.heap.size + 1)] A ∧ BackS (wq.heap.size + 1) (.slice a n cap) xs A → VisS (wq.heap.size + 1 + 1 + 1) (wq.heap.size + 1 + 1) 136 #[ptr' (wq.heap.size + 1)] B ∧ BackS (wq.heap.size + 1) (.slice a n cap) xs B) ∧ Keeps w5.heap.size A B)
    rfl (enters_of Tryd.func135 (by kernel_rfl) rfl)
    (fun W hg => visit_seq _ _ _ _ (BackS (wq.heap.size + 1) (.slice a n cap) xs) (ups xs) W w5.heap.size hg.size (enters_of Tryd.func136 (by kernel_rfl) rfl) (hP0.1.grow hg) (hP0.2.grow hg) (fun B A A' h k => h.grow k) (fun W' hq => all_seq _ _ xs W' hq (by rw [hn]; omega)))
    (fun h k => ⟨fun p => k.1 (h.1 p), h.2.trans k.2⟩) (fun A B hg => ⟨fun p => ⟨p.1.grow hg, p.2.grow hg⟩, hg.keeps _⟩) (fun _ => rfl)
    (fun pre W => Blk W w.heap.size 31 [.int .i64 id, .int .u64 (limb m 0 : Int), .int .u64 (limb m 1 : Int), .int .u64 (limb m 2 : Int), .int .u64 (limb m 3 : Int), .int .u64 (inv : Int), .int .u64 (limb o 0 : Int), .int .u64 (limb o 1 : Int), .int .u64 (limb o 2 : Int), .int .u64 (limb o 3 : Int), .int .u64 (limb s 0 : Int), .int .u64 (limb s 1 : Int), .int .u64 (limb s 2 : Int), .int .u64 (limb s 3 : Int)] ∧ Blk W (w.heap.size + 1) 29 [.int .u64 (limb x 0 : Int), .int .u64 (limb x 1 : Int), .int .u64 (limb x 2 : Int), .int .u64 (limb x 3 : Int)] ∧ Blk W wq.heap.size 34 [.slice (some ⟨w.heap.size + 1 + 1, 0, none⟩) n n] ∧ (∃ ys, W.ownsRow (w.heap.size + 1 + 1) 29 4 (.slice (some ⟨w.heap.size + 1 + 1, 0, none⟩) n n) n ys ∧ FRow n (fun t => if t < pre.length then mont m (xs.getD t 0) x else 0) ys) ∧ Below w.heap.size w W ∧ w5.heap.size ≤ W.heap.size)
    (fun _ _ _ => False)
    (fun pre A B h g => by
      obtain ⟨h1, h2, h4, ⟨ys, h6, h7⟩, h8, h9⟩ := h
      exact ⟨h1.grow g, h2.grow g, h4.grow g, ⟨ys, owns_grow h6 g, h7⟩, Below.behind h8 (Nat.le_refl _) g (by omega), Nat.le_trans h9 g.size⟩)
    (fun _ _ _ _ h _ => h) ⟨f5, x5, q5, ⟨_, o5, hqr⟩, B5, Nat.le_refl _⟩ ?round ?done ?stop
  case round =>
    rintro lm l pre ⟨i, y⟩ W ⟨h1, h2, h4, ⟨ys, h6, h7⟩, h8, h9⟩ hpre hl
    obtain ⟨hget, hpt⟩ := pre_take hpre
    obtain ⟨hy, hik⟩ := ups_at hget
    have hym := hxs y (List.mem_of_getElem? hy)
    have hin : i < n := by have := (List.getElem?_eq_some_iff.1 hy).1; omega
    have HYD := hid (show xs.getD i 0 = y by rw [hik]; exact getD_some hy)
    have HIK := hid hik
    have HQR := hid h7
    have HB8 := hid h8
    have HP0 := hid hP0
    have HGA := hid (hga (by omega))
    clear hik hga f0 x0 hoq' HMK G5 q5 s5 t5 l5 B5 f5 x5 o5 hqr h7 h8 hy hget hpt hpre hP0 hxs hn Bq hS
    simp only [pairV]
    gi_wp2
    refine ⟨((Only.refl (fun _ => True) W).alloc _).low _ _, fun W2 hg => ?_⟩
    have G2 : Grow w5.heap.size W W2 := ((Grow.refl _ W).alloc _).trans hg
    have dy : Blk W2 W.heap.size 29 (limbs y) := (Blk.new rfl).grow hg
    have df := h1.grow G2
    have dx := h2.grow G2
    have dq := h4.grow G2
    have do' := owns_grow h6 G2
    have zz2 : w5.heap.size ≤ W2.heap.size := Nat.le_trans h9 G2.size
    have zy : W.heap.size < W2.heap.size := dy.lt
    have HB2 := hid (Below.behind HB8.out (Nat.le_refl _) G2 (by omega))
    have HG2 := hid G2
    have M1 := hid (mmul_any id m inv o s y x hF.out (by have := hF.out.1; omega) (by have := hF.out.1; have := hx.out; omega) (Nat.mul_lt_mul_of_lt_of_lt (by have := hF.out.1; omega) hx.out))
    clear h1 h2 h4 h6 hg G2
    have f0 := df.cell (i := 0) rfl
    have f1 := df.cell (i := 1) rfl
    have f2 := df.cell (i := 2) rfl
    have f3 := df.cell (i := 3) rfl
    have f4 := df.cell (i := 4) rfl
    have f5 := df.cell (i := 5) rfl
    have f6 := df.cell (i := 6) rfl
    have f7 := df.cell (i := 7) rfl
    have f8 := df.cell (i := 8) rfl
    have f9 := df.cell (i := 9) rfl
    have f10 := df.cell (i := 10) rfl
    have f11 := df.cell (i := 11) rfl
    have f12 := df.cell (i := 12) rfl
    have f13 := df.cell (i := 13) rfl
    have x0 := dx.cell (i := 0) rfl
    have x1 := dx.cell (i := 1) rfl
    have x2 := dx.cell (i := 2) rfl
    have x3 := dx.cell (i := 3) rfl
    have y0 := dy.cell (i := 0) rfl
    have y1 := dy.cell (i := 1) rfl
    have y2 := dy.cell (i := 2) rfl
    have y3 := dy.cell (i := 3) rfl
    have q0 := dq.cell (i := 0) rfl
    have zf := df.lt
    have zx := dx.lt
    have zq2 := dq.lt
    gi_wp2
    refine wpIn_round_soft (C := fun W' => Below W2.heap.size W2 W') 6 (by kernel_rfl) (by kernel_rfl) (by kernel_rfl) ((Below.refl _ _).drew) ?_
    simp only [List.take_succ_cons, List.take_zero, List.drop_succ_cons, List.drop_zero]
    refine wpQuiet_step (fun K hK => ?_)
    rw [if_pos (by rfl)]
    refine ⟨.slice (some ⟨w.heap.size + 1 + 1, 0, none⟩) n n, fun W' hW => ?_, hK _ ?_⟩
    · have e0 := (hW.cell (p := ⟨wq.heap.size, 0, none⟩) zq2).trans q0
      go_simp
    clear hK K
    simp only [Act.put, List.setIfInBounds_toArray, List.set_cons_zero, List.set_cons_succ]
    refine wpQuiet_step (fun K hK => ?_)
    rw [if_pos (by rfl)]
    refine ⟨.int .i64 (i : Int), fun W' hW => ?_, hK _ ?_⟩
    · go_simp
    clear hK K
    simp only [Act.put, List.setIfInBounds_toArray, List.set_cons_zero, List.set_cons_succ]
    refine wpQuiet_step (fun K hK => ?_)
    rw [if_pos (by rfl)]
    refine ⟨fld id m inv o s, fun W' hW => ?_, hK _ ?_⟩
    · have e0 := (hW.cell (p := ⟨w.heap.size, 0, none⟩) zf).trans f0
      have e1 := (hW.cell (p := ⟨w.heap.size, 1, none⟩) zf).trans f1
      have e2 := (hW.cell (p := ⟨w.heap.size, 2, none⟩) zf).trans f2
      have e3 := (hW.cell (p := ⟨w.heap.size, 3, none⟩) zf).trans f3
      have e4 := (hW.cell (p := ⟨w.heap.size, 4, none⟩) zf).trans f4
      have e5 := (hW.cell (p := ⟨w.heap.size, 5, none⟩) zf).trans f5
      have e6 := (hW.cell (p := ⟨w.heap.size, 6, none⟩) zf).trans f6
      have e7 := (hW.cell (p := ⟨w.heap.size, 7, none⟩) zf).trans f7
      have e8 := (hW.cell (p := ⟨w.heap.size, 8, none⟩) zf).trans f8
      have e9 := (hW.cell (p := ⟨w.heap.size, 9, none⟩) zf).trans f9
      have e10 := (hW.cell (p := ⟨w.heap.size, 10, none⟩) zf).trans f10
      have e11 := (hW.cell (p := ⟨w.heap.size, 11, none⟩) zf).trans f11
      have e12 := (hW.cell (p := ⟨w.heap.size, 12, none⟩) zf).trans f12
      have e13 := (hW.cell (p := ⟨w.heap.size, 13, none⟩) zf).trans f13
      go_simp
    clear hK K
    simp only [Act.put, List.setIfInBounds_toArray, List.set_cons_zero, List.set_cons_succ]
    refine wpQuiet_step (fun K hK => ?_)
    rw [if_pos (by rfl)]
    refine ⟨vec y, fun W' hW => ?_, hK _ ?_⟩
    · have e0 := (hW.cell (p := ⟨W.heap.size, 0, none⟩) zy).trans y0
      have e1 := (hW.cell (p := ⟨W.heap.size, 1, none⟩) zy).trans y1
      have e2 := (hW.cell (p := ⟨W.heap.size, 2, none⟩) zy).trans y2
      have e3 := (hW.cell (p := ⟨W.heap.size, 3, none⟩) zy).trans y3
      go_simp
    clear hK K
    simp only [Act.put, List.setIfInBounds_toArray, List.set_cons_zero, List.set_cons_succ]
    refine wpQuiet_step (fun K hK => ?_)
    rw [if_pos (by rfl)]
    refine ⟨vec x, fun W' hW => ?_, hK _ ?_⟩
    · have e0 := (hW.cell (p := ⟨w.heap.size + 1, 0, none⟩) zx).trans x0
      have e1 := (hW.cell (p := ⟨w.heap.size + 1, 1, none⟩) zx).trans x1
      have e2 := (hW.cell (p := ⟨w.heap.size + 1, 2, none⟩) zx).trans x2
      have e3 := (hW.cell (p := ⟨w.heap.size + 1, 3, none⟩) zx).trans x3
      go_simp
    clear hK K
    simp only [Act.put, List.setIfInBounds_toArray, List.set_cons_zero, List.set_cons_succ]
    refine wpQuiet_step (fun K hK => ?_)
    rw [if_pos (by rfl)]
    refine ⟨vec (mont m y x), fun W' hW => ?_, hK _ ?_⟩
    · go_simp
      refine (M1.out _).mono ?_
      rintro e w' ⟨rfl, b⟩
      exact ⟨rfl, hW.trans (b.mono hW.size)⟩
    clear hK K
    simp only [Act.put, List.setIfInBounds_toArray, List.set_cons_zero, List.set_cons_succ]
    refine wpQuiet_nil ?_
    intro W3 hW3
    have zb := hW3.size
    obtain ⟨r2, hr2⟩ : ∃ r2, mont m y x = r2 := ⟨_, rfl⟩
    have HR2 := hid hr2
    rw [hr2]
    clear hr2
    have lo := owns_keep do' hW3
    have t0 := (lo.cellAt (i * 4) (by omega)).trans (HQR.out.2 i 0 (by omega) (by omega))
    have t1 := (lo.cellAt (i * 4 + 1) (by omega)).trans (HQR.out.2 i 1 (by omega) (by omega))
    have t2 := (lo.cellAt (i * 4 + 2) (by omega)).trans (HQR.out.2 i 2 (by omega) (by omega))
    have t3 := (lo.cellAt (i * 4 + 3) (by omega)).trans (HQR.out.2 i 3 (by omega) (by omega))
    have u0 := lo.frozenAt (i * 4)
    have u1 := lo.frozenAt (i * 4 + 1)
    have u2 := lo.frozenAt (i * 4 + 2)
    have u3 := lo.frozenAt (i * 4 + 3)
    have zlo : w.heap.size + 1 + 1 < W3.heap.size := (lo.lt _ rfl).2
    have hjc : (i : Int) < (n : Int) := by omega
    gi_wp2
    have O3 := (Below.only hW3 (fun k => k = w.heap.size + 1 + 1))
    have OE := (((O3.setCell (p := ⟨w.heap.size + 1 + 1, i * 4, none⟩) (.inl rfl) (.int .u64 (limb r2 0 : Int))).setCell (p := ⟨w.heap.size + 1 + 1, i * 4 + 1, none⟩) (.inl rfl) (.int .u64 (limb r2 1 : Int))).setCell (p := ⟨w.heap.size + 1 + 1, i * 4 + 2, none⟩) (.inl rfl) (.int .u64 (limb r2 2 : Int))).setCell (p := ⟨w.heap.size + 1 + 1, i * 4 + 3, none⟩) (.inl rfl) (.int .u64 (limb r2 3 : Int))
    have own1 := lo
    have KP : ∀ p, _ := fun p : VisS (wq.heap.size + 1 + 1 + 1) (wq.heap.size + 1 + 1) 136 #[ptr' (wq.heap.size + 1)] W ∧ BackS (wq.heap.size + 1) (.slice a n cap) xs W => (⟨⟨(p.1.grow HG2.out).1.only OE (by omega), (p.1.grow HG2.out).2.only OE (by omega)⟩, (p.2.grow HG2.out).1.only OE (by omega), (p.2.grow HG2.out).2.only OE (fun ad h => by have := HGA.out ad h; omega)⟩ : VisS (wq.heap.size + 1 + 1 + 1) (wq.heap.size + 1 + 1) 136 #[ptr' (wq.heap.size + 1)] _ ∧ BackS (wq.heap.size + 1) (.slice a n cap) xs _)
    exact ⟨OE.low _ _, ⟨fun p q => KP ⟨p, q⟩, (HG2.out.keeps _).trans (OE.keeps (fun k h => by omega))⟩, df.only OE (by omega), dx.only OE (by omega), dq.only OE (by omega), ⟨_, ((((own1.stored (i * 4) _).1.stored (i * 4 + 1) _).1.stored (i * 4 + 2) _).1.stored (i * 4 + 3) _).1, by rw [List.length_append]; have q := HQR.out; rw [← HIK.out] at q ⊢; exact scl_store q (by omega) HYD.out HR2.out⟩, HB2.out.trans (OE.below (fun k h => by omega) (by omega)), by have := OE.size; omega⟩
  case done =>
    rintro D W hD ⟨h1, h2, h4, ⟨ys, h6, h7⟩, h8, h9⟩ hK
    have k0 := h4.cell (i := 0) rfl
    have zk := h4.lt
    gi_wp2
    refine ⟨by simp, .inl ⟨_, _, rfl, run_takeDeferred hK, ?_⟩⟩
    have hg := (Grow.refl w5.heap.size _).putObj (.deferred none) hD hK rfl
    refine ⟨.slice (some ⟨w.heap.size + 1 + 1, 0, none⟩) n n, by simp only [results, Tryd.results80]; go_simp, ?_⟩
    refine ⟨_, rfl, ?_, Below.behind h8 (Nat.le_refl _) hg (by omega)⟩
    have e1 : ys = nums (pscl m x xs) := by rw [ups_len, HNL.out] at h7; rw [pscl_range, HNL.out]; exact (h7.congr (g := fun t => mont m (xs.getD t 0) x) (fun t ht => by rw [if_pos ht])).done
    rw [← e1]
    exact owns_grow (owns_mono h6 (by omega)) hg
  case stop => exact fun _ _ _ _ _ _ h _ => h.elim
end Go.Proofs.YtogenbggjodcnaaDoor
/-
  The sum of two polynomials; no tape.
-/
namespace Go.Proofs.YtogenbggjodcnaaDoor
open Go.RowKit Go.Shelf

attribute [local go_sem] Oper.semAt_some

theorem padd_store {m n n2 i x y r : Nat} {xs ys : List Nat} {zs : List Value} (h : FRow n (fun t => if t < i ∧ t < n2 then addm m (xs.getD t 0) (ys.getD t 0) else xs.getD t 0) zs) (hc : i < n) (hi2 : i < n2) (hx : xs.getD i 0 = x) (hy : ys.getD i 0 = y) (hr : addm m x y = r) :
    FRow n (fun t => if t < i + 1 ∧ t < n2 then addm m (xs.getD t 0) (ys.getD t 0) else xs.getD t 0) ((((zs.set (i * 4) (.int .u64 (limb r 0 : Int))).set (i * 4 + 1) (.int .u64 (limb r 1 : Int))).set (i * 4 + 2) (.int .u64 (limb r 2 : Int))).set (i * 4 + 3) (.int .u64 (limb r 3 : Int))) := by
  refine h.store hc r (fun t _ => ?_)
  by_cases e : t = i
  · rw [if_pos e, if_pos ⟨by omega, by omega⟩, e, hx, hy, hr]
  · rw [if_neg e]
    by_cases l : t < i ∧ t < n2
    · rw [if_pos l, if_pos ⟨by omega, l.2⟩]
    · rw [if_neg l, if_neg (fun h => l ⟨by omega, h.2⟩)]
theorem padd_skip {m n n2 i : Nat} {xs ys : List Nat} {zs : List Value} (h : FRow n (fun t => if t < i ∧ t < n2 then addm m (xs.getD t 0) (ys.getD t 0) else xs.getD t 0) zs) (hi2 : ¬ i < n2) :
    FRow n (fun t => if t < i + 1 ∧ t < n2 then addm m (xs.getD t 0) (ys.getD t 0) else xs.getD t 0) zs := by
  refine h.congr (fun t _ => ?_)
  by_cases l : t < i ∧ t < n2
  · rw [if_pos l, if_pos ⟨by omega, l.2⟩]
  · rw [if_neg l, if_neg (fun h => l ⟨by omega, h.2⟩)]
set_option maxRecDepth 100000 in
set_option maxHeartbeats 1000000 in
theorem padd_ge (id : Int) (m inv o s n n2 capL capS : Nat) (aL aS : Option Addr) (xs ys : List Nat) (w : World) (hF : Hid (FieldOK m inv)) (hS : NumSl w (.slice aL n capL) xs) (hS2 : NumSl w (.slice aS n2 capS) ys) (hxs : ∀ y ∈ xs, y < m) (hys : ∀ y ∈ ys, y < m) (hn : xs.length = n) (hn2 : ys.length = n2) (hl : n < 1000000) (hm : ¬ n < n2) :
    Calls Tryd.prog 79 #[.pointer none, fld id m inv o s, .slice aL n capL, .slice aS n2 capS] w (RetOwn 29 4 n (nums (paddV m xs ys)) w) := by
  have hm2 := hF.out.2.1
  have hle : n2 ≤ n := by omega
  have hga : n ≠ 0 → ∀ ad, aL = some ad → ad.block < w.heap.size := fun hn0 ad h => by
    have hS' := hS
    obtain ⟨a', c', e, _, hr⟩ := hS'
    simp only [Value.slice.injEq] at e
    obtain ⟨rfl, _, _⟩ := e
    rcases hr with h0 | ⟨g, off, rfl, he⟩
    · rw [h0] at hn; exact absurd hn.symm hn0
    · cases h
      obtain ⟨z, hz⟩ : ∃ z, xs[0]? = some z := ⟨xs[0]'(by omega), List.getElem?_eq_getElem _⟩
      exact World.block_lt_of_cell? w _ (he 0 z hz).2.1
  have hsh : ys = [] ∨ ∃ g off, aS = some ⟨g, off, none⟩ ∧ NumsAt w g off ys := by
    obtain ⟨a', c', e, _, hr⟩ := hS2
    simp only [Value.slice.injEq] at e
    obtain ⟨rfl, _, _⟩ := e
    exact hr
  have zW0 : ((w.alloc (.cells #[.int .i64 id, .int .u64 (limb m 0 : Int), .int .u64 (limb m 1 : Int), .int .u64 (limb m 2 : Int), .int .u64 (limb m 3 : Int), .int .u64 (inv : Int), .int .u64 (limb o 0 : Int), .int .u64 (limb o 1 : Int), .int .u64 (limb o 2 : Int), .int .u64 (limb o 3 : Int), .int .u64 (limb s 0 : Int), .int .u64 (limb s 1 : Int), .int .u64 (limb s 2 : Int), .int .u64 (limb s 3 : Int)] 31)).alloc (.cells #[.slice aS n2 capS] 34)).heap.size = w.heap.size + 1 + 1 := by simp
  have B0 : Below w.heap.size w ((w.alloc (.cells #[.int .i64 id, .int .u64 (limb m 0 : Int), .int .u64 (limb m 1 : Int), .int .u64 (limb m 2 : Int), .int .u64 (limb m 3 : Int), .int .u64 (inv : Int), .int .u64 (limb o 0 : Int), .int .u64 (limb o 1 : Int), .int .u64 (limb o 2 : Int), .int .u64 (limb o 3 : Int), .int .u64 (limb s 0 : Int), .int .u64 (limb s 1 : Int), .int .u64 (limb s 2 : Int), .int .u64 (limb s 3 : Int)] 31)).alloc (.cells #[.slice aS n2 capS] 34)) := by go_grown
  have f00 : Blk ((w.alloc (.cells #[.int .i64 id, .int .u64 (limb m 0 : Int), .int .u64 (limb m 1 : Int), .int .u64 (limb m 2 : Int), .int .u64 (limb m 3 : Int), .int .u64 (inv : Int), .int .u64 (limb o 0 : Int), .int .u64 (limb o 1 : Int), .int .u64 (limb o 2 : Int), .int .u64 (limb o 3 : Int), .int .u64 (limb s 0 : Int), .int .u64 (limb s 1 : Int), .int .u64 (limb s 2 : Int), .int .u64 (limb s 3 : Int)] 31)).alloc (.cells #[.slice aS n2 capS] 34)) w.heap.size 31 [.int .i64 id, .int .u64 (limb m 0 : Int), .int .u64 (limb m 1 : Int), .int .u64 (limb m 2 : Int), .int .u64 (limb m 3 : Int), .int .u64 (inv : Int), .int .u64 (limb o 0 : Int), .int .u64 (limb o 1 : Int), .int .u64 (limb o 2 : Int), .int .u64 (limb o 3 : Int), .int .u64 (limb s 0 : Int), .int .u64 (limb s 1 : Int), .int .u64 (limb s 2 : Int), .int .u64 (limb s 3 : Int)] := Blk.alloc (Blk.new rfl) _
  have b00 : Blk ((w.alloc (.cells #[.int .i64 id, .int .u64 (limb m 0 : Int), .int .u64 (limb m 1 : Int), .int .u64 (limb m 2 : Int), .int .u64 (limb m 3 : Int), .int .u64 (inv : Int), .int .u64 (limb o 0 : Int), .int .u64 (limb o 1 : Int), .int .u64 (limb o 2 : Int), .int .u64 (limb o 3 : Int), .int .u64 (limb s 0 : Int), .int .u64 (limb s 1 : Int), .int .u64 (limb s 2 : Int), .int .u64 (limb s 3 : Int)] 31)).alloc (.cells #[.slice aS n2 capS] 34)) (w.heap.size + 1) 34 [.slice aS n2 capS] := Blk.new (by simp)
  have S00 := hid (hS.below B0)
  have HSH := hid hsh
  have HXS := hid hxs
  have HYS := hid hys
  have HNL := hid hn
  have HN2 := hid hn2
  have c00 := b00.cell (i := 0) rfl
  have zb0 := b00.lt
  clear hS hS2 hsh hxs hys hn hn2
  have HM := hid hm
  have hmi : ¬ (n : Int) < (n2 : Int) := by omega
  clear hm
  refine (callsIn_wide (n := 9)).1 ?_
  refine callsIn_of_wp_marks Tryd.func79 rfl trivial ?_ rfl
  simp only [Tryd.ntmps79, List.size_toArray, List.length_cons, List.length_nil, Nat.reduceAdd, Nat.reduceSub, Array.replicate_succ, Array.replicate_zero, List.push_toArray, List.append_toArray, List.nil_append, List.cons_append]
  gi_wp2_with (first | (refine ⟨trivial, ?_⟩; gi_at_call 111; refine (callsIn_wide.2 (clone_any (.slice aL n capL) xs _ S00.out (by rw [HNL.out]; exact hl))).mono ?_; rintro e wq ⟨vc, rfl, hoc, bc⟩; rw [zW0, HNL.out] at hoc; obtain ⟨ac, cc, rfl, _, hacL, hacS⟩ := owns_form hoc; have hHS := hid hacS; have HACL := hid hacL; have Bq := hid (B0.trans (bc.mono B0.size)); have f0 := Blk.keep f00 bc; have b0 := Blk.keep b00 bc; have zq : w.heap.size + 1 < wq.heap.size := b0.lt; have SQ := hid (S00.out.below bc); have HOC := hid hoc; clear c00 zb0 f00 b00 B0 bc zW0 hacS hacL hoc; have b0c := b0.cell (i := 0) rfl) | (refine ⟨trivial, ?_⟩; gi_at_call 113; refine (callsIn_wide.2 (all_any aL n capL _)).mono ?_; rintro e w' ⟨rfl, rfl⟩) | (refine ⟨trivial, ?_⟩; gi_at_call 112; refine (callsIn_wide.2 (visit_any none 136 _ _)).mono ?_; rintro e w' ⟨rfl, rfl⟩))
  have G5 : Grow wq.heap.size wq ((((wq.alloc (.cells #[.slice ac n cc] 34)).alloc (.cells #[.slice aL n capL] 34)).alloc (.cells #[.pointer none] 53)).alloc (.cells #[.func (.func 136) #[] #[ptr' (wq.heap.size + 1)]] 160)) := ((((Grow.refl _ wq).alloc _).alloc _).alloc _).alloc _
  have q5 : Blk ((((wq.alloc (.cells #[.slice ac n cc] 34)).alloc (.cells #[.slice aL n capL] 34)).alloc (.cells #[.pointer none] 53)).alloc (.cells #[.func (.func 136) #[] #[ptr' (wq.heap.size + 1)]] 160)) wq.heap.size 34 [.slice ac n cc] := Blk.alloc (Blk.alloc (Blk.alloc (Blk.new rfl) _) _) _
  have s5 : Blk ((((wq.alloc (.cells #[.slice ac n cc] 34)).alloc (.cells #[.slice aL n capL] 34)).alloc (.cells #[.pointer none] 53)).alloc (.cells #[.func (.func 136) #[] #[ptr' (wq.heap.size + 1)]] 160)) (wq.heap.size + 1) 34 [.slice aL n capL] := Blk.alloc (Blk.alloc (Blk.new (by simp)) _) _
  have t5 : Blk ((((wq.alloc (.cells #[.slice ac n cc] 34)).alloc (.cells #[.slice aL n capL] 34)).alloc (.cells #[.pointer none] 53)).alloc (.cells #[.func (.func 136) #[] #[ptr' (wq.heap.size + 1)]] 160)) (wq.heap.size + 1 + 1) 53 [.pointer none] := Blk.alloc (Blk.new (by simp)) _
  have l5 : Blk ((((wq.alloc (.cells #[.slice ac n cc] 34)).alloc (.cells #[.slice aL n capL] 34)).alloc (.cells #[.pointer none] 53)).alloc (.cells #[.func (.func 136) #[] #[ptr' (wq.heap.size + 1)]] 160)) (wq.heap.size + 1 + 1 + 1) 160 [.func (.func 136) #[] #[ptr' (wq.heap.size + 1)]] := Blk.new (by simp)
  have z5 : ((((wq.alloc (.cells #[.slice ac n cc] 34)).alloc (.cells #[.slice aL n capL] 34)).alloc (.cells #[.pointer none] 53)).alloc (.cells #[.func (.func 136) #[] #[ptr' (wq.heap.size + 1)]] 160)).heap.size = wq.heap.size + 4 := by simp
  generalize ((((wq.alloc (.cells #[.slice ac n cc] 34)).alloc (.cells #[.slice aL n capL] 34)).alloc (.cells #[.pointer none] 53)).alloc (.cells #[.func (.func 136) #[] #[ptr' (wq.heap.size + 1)]] 160)) = w5 at *
  have hP0 : VisS (wq.heap.size + 1 + 1 + 1) (wq.heap.size + 1 + 1) 136 #[ptr' (wq.heap.size + 1)] w5 ∧ BackS (wq.heap.size + 1) (.slice aL n capL) xs w5 := ⟨⟨l5, t5⟩, s5, SQ.out.grow G5⟩
  have B5 : Below w.heap.size w w5 := Below.behind Bq.out (Nat.le_refl _) G5 (by omega)
  have f5 := f0.grow G5
  have b5 := b0.grow G5
  have o5 := owns_grow HOC.out G5
  have hqr : FRow n (fun t => if t < ([] : List (Nat × Nat)).length ∧ t < n2 then addm m (xs.getD t 0) (ys.getD t 0) else xs.getD t 0) (nums xs) := by
    have q := FRow.of xs
    rw [HNL.out] at q
    exact q.congr (fun t _ => by rw [if_neg (fun h => Nat.not_lt_zero _ h.1)])
  have HGA0 := hid hga
  clear hga b0c
  refine wpIn_every (gf := 135) (lb := #[ptr' (wq.heap.size + 1 + 1 + 1), ptr' (wq.heap.size + 1 + 1)]) (encs := pairV) (xs := ups xs)
    (Kp := fun A B => (VisS (wq.heap.size + 1 + 1 + 1) (wq.heap.size + 1 + 1) 136 #[ptr' (wq.heap.size + 1)] A ∧ BackS (wq.heap.size + 1) (.slice aL n capL) xs A → VisS (wq.heap.size + 1 + 1 + 1) (wq.heap.size + 1 + 1) 136 #[ptr' (wq.heap.size + 1)] B ∧ BackS (wq.heap.size + 1) (.slice aL n capL) xs B) ∧ Keeps w5.heap.size A B)
    rfl (enters_of Tryd.func135 (by kernel_rfl) rfl)
    (fun W hg => visit_seq _ _ _ _ (BackS (wq.heap.size + 1) (.slice aL n capL) xs) (ups xs) W w5.heap.size hg.size (enters_of Tryd.func136 (by kernel_rfl) rfl) (hP0.1.grow hg) (hP0.2.grow hg) (fun B A A' h k => h.grow k) (fun W' hq => all_seq _ _ xs W' hq (by rw [HNL.out]; omega)))
    (fun h k => ⟨fun p => k.1 (h.1 p), h.2.trans k.2⟩) (fun A B hg => ⟨fun p => ⟨p.1.grow hg, p.2.grow hg⟩, hg.keeps _⟩) (fun _ => rfl)
    (fun pre W => Blk W w.heap.size 31 [.int .i64 id, .int .u64 (limb m 0 : Int), .int .u64 (limb m 1 : Int), .int .u64 (limb m 2 : Int), .int .u64 (limb m 3 : Int), .int .u64 (inv : Int), .int .u64 (limb o 0 : Int), .int .u64 (limb o 1 : Int), .int .u64 (limb o 2 : Int), .int .u64 (limb o 3 : Int), .int .u64 (limb s 0 : Int), .int .u64 (limb s 1 : Int), .int .u64 (limb s 2 : Int), .int .u64 (limb s 3 : Int)] ∧ Blk W (w.heap.size + 1) 34 [.slice aS n2 capS] ∧ Blk W wq.heap.size 34 [.slice ac n cc] ∧ (∃ zs, W.ownsRow (w.heap.size + 1 + 1) 29 4 (.slice ac n cc) n zs ∧ FRow n (fun t => if t < pre.length ∧ t < n2 then addm m (xs.getD t 0) (ys.getD t 0) else xs.getD t 0) zs) ∧ Below w.heap.size w W ∧ w5.heap.size ≤ W.heap.size)
    (fun _ _ _ => False)
    (fun pre A B h g => by
      obtain ⟨h1, h2, h4, ⟨ys, h6, h7⟩, h8, h9⟩ := h
      exact ⟨h1.grow g, h2.grow g, h4.grow g, ⟨ys, owns_grow h6 g, h7⟩, Below.behind h8 (Nat.le_refl _) g (by omega), Nat.le_trans h9 g.size⟩)
    (fun _ _ _ _ h _ => h) ⟨f5, b5, q5, ⟨_, o5, hqr⟩, B5, Nat.le_refl _⟩ ?round ?done ?stop
  case round =>
    rintro lm l pre ⟨i, y0⟩ W ⟨h1, h2, h4, ⟨zs, h6, h7⟩, h8, h9⟩ hpre hl9
    obtain ⟨hget, hpt⟩ := pre_take hpre
    obtain ⟨hy, hik⟩ := ups_at hget
    have hin : i < n := by have := (List.getElem?_eq_some_iff.1 hy).1; have := HNL.out; omega
    have HIK := hid hik
    have HQR := hid h7
    have HB8 := hid h8
    have HP0 := hid hP0
    have HGA := hid (HGA0.out (by omega))
    obtain ⟨gq, rfl⟩ := hHS.out (by omega)
    have zgq0 : w.heap.size + 1 + 1 ≤ gq ∧ gq < wq.heap.size := by obtain ⟨g9, e9, h91, h92⟩ := HACL.out _ rfl; cases e9; exact ⟨h91, h92⟩
    obtain ⟨zgq, zgw⟩ := zgq0
    clear hik f0 b0 G5 q5 s5 t5 l5 B5 f5 b5 o5 hqr h7 h8 hy hget hpt hpre hP0
    simp only [pairV]
    gi_wp2
    refine ⟨(Only.refl (fun _ => True) W).low _ _, fun W2 hg => ?_⟩
    have G2 : Grow w5.heap.size W W2 := hg
    have df := h1.grow G2
    have db := h2.grow G2
    have dq := h4.grow G2
    have do' := owns_grow h6 G2
    have zz2 : w5.heap.size ≤ W2.heap.size := Nat.le_trans h9 G2.size
    have HB2 := hid (Below.behind HB8.out (Nat.le_refl _) G2 (by omega))
    have HG2 := hid G2
    clear h1 h2 h4 h6 hg G2
    have zb : w.heap.size ≤ W2.heap.size := HB2.out.size
    have f0 := df.cell (i := 0) rfl
    have f1 := df.cell (i := 1) rfl
    have f2 := df.cell (i := 2) rfl
    have f3 := df.cell (i := 3) rfl
    have f4 := df.cell (i := 4) rfl
    have f5 := df.cell (i := 5) rfl
    have f6 := df.cell (i := 6) rfl
    have f7 := df.cell (i := 7) rfl
    have f8 := df.cell (i := 8) rfl
    have f9 := df.cell (i := 9) rfl
    have f10 := df.cell (i := 10) rfl
    have f11 := df.cell (i := 11) rfl
    have f12 := df.cell (i := 12) rfl
    have f13 := df.cell (i := 13) rfl
    have b0 := db.cell (i := 0) rfl
    have q0 := dq.cell (i := 0) rfl
    have zf := df.lt
    have zbx := db.lt
    have zq2 := dq.lt
    by_cases hi2 : i < n2
    · obtain ⟨y, hy⟩ : ∃ y, ys[i]? = some y := ⟨ys[i]'(by rw [HN2.out]; exact hi2), List.getElem?_eq_getElem _⟩
      obtain ⟨gs, os, rfl, hat⟩ : ∃ g off, aS = some ⟨g, off, none⟩ ∧ NumsAt w g off ys := by
        rcases HSH.out with h | h
        · rw [h] at hy; cases hy
        · exact h
      have hym := HYS.out y (List.mem_of_getElem? hy)
      have HYD := hid (show ys.getD i 0 = y from getD_some hy)
      obtain ⟨_, e0, e1, e2, e3⟩ := hat i y hy
      have hgs : gs < w.heap.size := World.block_lt_of_cell? w _ e0
      have hgr := Nat.lt_of_lt_of_le hgs zb
      have d0 := (HB2.out.cell (p := ⟨gs, os + i * 4, none⟩) hgs).trans e0
      have d1 := (HB2.out.cell (p := ⟨gs, os + i * 4 + 1, none⟩) hgs).trans e1
      have d2 := (HB2.out.cell (p := ⟨gs, os + i * 4 + 2, none⟩) hgs).trans e2
      have d3 := (HB2.out.cell (p := ⟨gs, os + i * 4 + 3, none⟩) hgs).trans e3
      obtain ⟨x, hx⟩ : ∃ x, xs.getD i 0 = x := ⟨_, rfl⟩
      have hxm : x < m := by rw [← hx]; exact getD_lt (by omega) HXS.out i
      have HXD := hid hx
      have M1 := hid (madd_any id m inv o s x y hF.out.1 hxm hym)
      have hrow : ∀ j, j < 4 → zs[i * 4 + j]? = some (.int .u64 (limb x j : Int)) := fun j hj => by
        have q := HQR.out.2 i j hin hj
        rw [← HIK.out] at q
        dsimp only at q
        rw [if_neg (fun h => Nat.lt_irrefl _ h.1), HXD.out] at q
        exact q
      have r0 : W2.cell? ⟨gq, i * 4, none⟩ = some (.int .u64 (limb x 0 : Int)) := (do'.cellAt (i * 4) (by omega)).trans (hrow 0 (by omega))
      have r1 : W2.cell? ⟨gq, i * 4 + 1, none⟩ = some (.int .u64 (limb x 1 : Int)) := (do'.cellAt (i * 4 + 1) (by omega)).trans (hrow 1 (by omega))
      have r2 : W2.cell? ⟨gq, i * 4 + 2, none⟩ = some (.int .u64 (limb x 2 : Int)) := (do'.cellAt (i * 4 + 2) (by omega)).trans (hrow 2 (by omega))
      have r3 : W2.cell? ⟨gq, i * 4 + 3, none⟩ = some (.int .u64 (limb x 3 : Int)) := (do'.cellAt (i * 4 + 3) (by omega)).trans (hrow 3 (by omega))
      have zgq2 : gq < W2.heap.size := (do'.lt _ rfl).2
      have HROW := hid hrow
      clear hrow e0 e1 e2 e3 hat hy hx
      gi_wp2
      refine wpIn_round_soft (C := fun W' => Below W2.heap.size W2 W') 12 (by kernel_rfl) (by kernel_rfl) (by kernel_rfl) ((Below.refl _ _).drew) ?_
      simp only [List.take_succ_cons, List.take_zero, List.drop_succ_cons, List.drop_zero]
      refine wpQuiet_step (fun K hK => ?_)
      rw [if_pos (by rfl)]
      refine ⟨.slice (some ⟨gq, 0, none⟩) n cc, fun W' hW => ?_, hK _ ?_⟩
      · have e0 := (hW.cell (p := ⟨wq.heap.size, 0, none⟩) zq2).trans q0
        go_simp
      clear hK K
      simp only [Act.put, List.setIfInBounds_toArray, List.set_cons_zero, List.set_cons_succ]
      refine wpQuiet_step (fun K hK => ?_)
      rw [if_pos (by rfl)]
      refine ⟨.int .i64 (i : Int), fun W' hW => ?_, hK _ ?_⟩
      · go_simp
      clear hK K
      simp only [Act.put, List.setIfInBounds_toArray, List.set_cons_zero, List.set_cons_succ]
      refine wpQuiet_step (fun K hK => ?_)
      rw [if_pos (by rfl)]
      refine ⟨fld id m inv o s, fun W' hW => ?_, hK _ ?_⟩
      · have e0 := (hW.cell (p := ⟨w.heap.size, 0, none⟩) zf).trans f0
        have e1 := (hW.cell (p := ⟨w.heap.size, 1, none⟩) zf).trans f1
        have e2 := (hW.cell (p := ⟨w.heap.size, 2, none⟩) zf).trans f2
        have e3 := (hW.cell (p := ⟨w.heap.size, 3, none⟩) zf).trans f3
        have e4 := (hW.cell (p := ⟨w.heap.size, 4, none⟩) zf).trans f4
        have e5 := (hW.cell (p := ⟨w.heap.size, 5, none⟩) zf).trans f5
        have e6 := (hW.cell (p := ⟨w.heap.size, 6, none⟩) zf).trans f6
        have e7 := (hW.cell (p := ⟨w.heap.size, 7, none⟩) zf).trans f7
        have e8 := (hW.cell (p := ⟨w.heap.size, 8, none⟩) zf).trans f8
        have e9 := (hW.cell (p := ⟨w.heap.size, 9, none⟩) zf).trans f9
        have e10 := (hW.cell (p := ⟨w.heap.size, 10, none⟩) zf).trans f10
        have e11 := (hW.cell (p := ⟨w.heap.size, 11, none⟩) zf).trans f11
        have e12 := (hW.cell (p := ⟨w.heap.size, 12, none⟩) zf).trans f12
        have e13 := (hW.cell (p := ⟨w.heap.size, 13, none⟩) zf).trans f13
        go_simp
      clear hK K
      simp only [Act.put, List.setIfInBounds_toArray, List.set_cons_zero, List.set_cons_succ]
      refine wpQuiet_step (fun K hK => ?_)
      rw [if_pos (by rfl)]
      refine ⟨.slice (some ⟨gq, 0, none⟩) n cc, fun W' hW => ?_, hK _ ?_⟩
      · have e0 := (hW.cell (p := ⟨wq.heap.size, 0, none⟩) zq2).trans q0
        go_simp
      clear hK K
      simp only [Act.put, List.setIfInBounds_toArray, List.set_cons_zero, List.set_cons_succ]
      refine wpQuiet_step (fun K hK => ?_)
      rw [if_pos (by rfl)]
      refine ⟨.int .i64 (i : Int), fun W' hW => ?_, hK _ ?_⟩
      · go_simp
      clear hK K
      simp only [Act.put, List.setIfInBounds_toArray, List.set_cons_zero, List.set_cons_succ]
      refine wpQuiet_step (fun K hK => ?_)
      rw [if_pos (by rfl)]
      refine ⟨.pointer (some ⟨gq, i * 4, none⟩), fun W' hW => ?_, hK _ ?_⟩
      · go_simp
      clear hK K
      simp only [Act.put, List.setIfInBounds_toArray, List.set_cons_zero, List.set_cons_succ]
      refine wpQuiet_step (fun K hK => ?_)
      rw [if_pos (by rfl)]
      refine ⟨vec x, fun W' hW => ?_, hK _ ?_⟩
      · have e0 := (hW.cell (p := ⟨gq, i * 4, none⟩) zgq2).trans r0
        have e1 := (hW.cell (p := ⟨gq, i * 4 + 1, none⟩) zgq2).trans r1
        have e2 := (hW.cell (p := ⟨gq, i * 4 + 2, none⟩) zgq2).trans r2
        have e3 := (hW.cell (p := ⟨gq, i * 4 + 3, none⟩) zgq2).trans r3
        go_simp
      clear hK K
      simp only [Act.put, List.setIfInBounds_toArray, List.set_cons_zero, List.set_cons_succ]
      refine wpQuiet_step (fun K hK => ?_)
      rw [if_pos (by rfl)]
      refine ⟨.slice (some ⟨gs, os, none⟩) n2 capS, fun W' hW => ?_, hK _ ?_⟩
      · have e0 := (hW.cell (p := ⟨w.heap.size + 1, 0, none⟩) zbx).trans b0
        go_simp
      clear hK K
      simp only [Act.put, List.setIfInBounds_toArray, List.set_cons_zero, List.set_cons_succ]
      refine wpQuiet_step (fun K hK => ?_)
      rw [if_pos (by rfl)]
      refine ⟨.int .i64 (i : Int), fun W' hW => ?_, hK _ ?_⟩
      · go_simp
      clear hK K
      simp only [Act.put, List.setIfInBounds_toArray, List.set_cons_zero, List.set_cons_succ]
      refine wpQuiet_step (fun K hK => ?_)
      rw [if_pos (by rfl)]
      refine ⟨.pointer (some ⟨gs, os + i * 4, none⟩), fun W' hW => ?_, hK _ ?_⟩
      · go_simp
      clear hK K
      simp only [Act.put, List.setIfInBounds_toArray, List.set_cons_zero, List.set_cons_succ]
      refine wpQuiet_step (fun K hK => ?_)
      rw [if_pos (by rfl)]
      refine ⟨vec y, fun W' hW => ?_, hK _ ?_⟩
      · have e0 := (hW.cell (p := ⟨gs, os + i * 4, none⟩) hgr).trans d0
        have e1 := (hW.cell (p := ⟨gs, os + i * 4 + 1, none⟩) hgr).trans d1
        have e2 := (hW.cell (p := ⟨gs, os + i * 4 + 2, none⟩) hgr).trans d2
        have e3 := (hW.cell (p := ⟨gs, os + i * 4 + 3, none⟩) hgr).trans d3
        go_simp
      clear hK K
      simp only [Act.put, List.setIfInBounds_toArray, List.set_cons_zero, List.set_cons_succ]
      refine wpQuiet_step (fun K hK => ?_)
      rw [if_pos (by rfl)]
      refine ⟨vec (addm m x y), fun W' hW => ?_, hK _ ?_⟩
      · go_simp
        refine (M1.out _).mono ?_
        rintro e w' ⟨rfl, b⟩
        exact ⟨rfl, hW.trans (b.mono hW.size)⟩
      clear hK K
      simp only [Act.put, List.setIfInBounds_toArray, List.set_cons_zero, List.set_cons_succ]
      refine wpQuiet_nil ?_
      intro W3 hW3
      have zb3 := hW3.size
      obtain ⟨r2, hr2⟩ : ∃ r2, addm m x y = r2 := ⟨_, rfl⟩
      have HR2 := hid hr2
      rw [hr2]
      clear hr2
      have lo := owns_keep do' hW3
      have t0 := (lo.cellAt (i * 4) (by omega)).trans (HROW.out 0 (by omega))
      have t1 := (lo.cellAt (i * 4 + 1) (by omega)).trans (HROW.out 1 (by omega))
      have t2 := (lo.cellAt (i * 4 + 2) (by omega)).trans (HROW.out 2 (by omega))
      have t3 := (lo.cellAt (i * 4 + 3) (by omega)).trans (HROW.out 3 (by omega))
      have u0 := lo.frozenAt (i * 4)
      have u1 := lo.frozenAt (i * 4 + 1)
      have u2 := lo.frozenAt (i * 4 + 2)
      have u3 := lo.frozenAt (i * 4 + 3)
      have zlo : gq < W3.heap.size := (lo.lt _ rfl).2
      have hjc : (i : Int) < (n : Int) := by omega
      gi_wp2
      have O3 := (Below.only hW3 (fun k => k = gq))
      have OE := (((O3.setCell (p := ⟨gq, i * 4, none⟩) (.inl rfl) (.int .u64 (limb r2 0 : Int))).setCell (p := ⟨gq, i * 4 + 1, none⟩) (.inl rfl) (.int .u64 (limb r2 1 : Int))).setCell (p := ⟨gq, i * 4 + 2, none⟩) (.inl rfl) (.int .u64 (limb r2 2 : Int))).setCell (p := ⟨gq, i * 4 + 3, none⟩) (.inl rfl) (.int .u64 (limb r2 3 : Int))
      have KP : ∀ p, _ := fun p : VisS (wq.heap.size + 1 + 1 + 1) (wq.heap.size + 1 + 1) 136 #[ptr' (wq.heap.size + 1)] W ∧ BackS (wq.heap.size + 1) (.slice aL n capL) xs W => (⟨⟨(p.1.grow HG2.out).1.only OE (by omega), (p.1.grow HG2.out).2.only OE (by omega)⟩, (p.2.grow HG2.out).1.only OE (by omega), (p.2.grow HG2.out).2.only OE (fun ad h => by have := HGA.out ad h; omega)⟩ : VisS (wq.heap.size + 1 + 1 + 1) (wq.heap.size + 1 + 1) 136 #[ptr' (wq.heap.size + 1)] _ ∧ BackS (wq.heap.size + 1) (.slice aL n capL) xs _)
      exact ⟨OE.low _ _, ⟨by first | exact KP | exact fun p q => KP ⟨p, q⟩, (HG2.out.keeps _).trans (OE.keeps (fun k h => by omega))⟩, df.only OE (by omega), db.only OE (by omega), dq.only OE (by omega), ⟨_, ((((lo.stored (i * 4) _).1.stored (i * 4 + 1) _).1.stored (i * 4 + 2) _).1.stored (i * 4 + 3) _).1, by rw [List.length_append]; have q := HQR.out; rw [← HIK.out] at q ⊢; exact padd_store q (by omega) hi2 HXD.out HYD.out HR2.out⟩, HB2.out.trans (OE.below (fun k h => by omega) (by omega)), by have := OE.size; omega⟩
    · gi_wp2
      have OE := Only.refl (fun k => k = gq) W2
      have KP : ∀ p, _ := fun p : VisS (wq.heap.size + 1 + 1 + 1) (wq.heap.size + 1 + 1) 136 #[ptr' (wq.heap.size + 1)] W ∧ BackS (wq.heap.size + 1) (.slice aL n capL) xs W => (⟨⟨(p.1.grow HG2.out).1.only OE (by omega), (p.1.grow HG2.out).2.only OE (by omega)⟩, (p.2.grow HG2.out).1.only OE (by omega), (p.2.grow HG2.out).2.only OE (fun ad h => by have := HGA.out ad h; omega)⟩ : VisS (wq.heap.size + 1 + 1 + 1) (wq.heap.size + 1 + 1) 136 #[ptr' (wq.heap.size + 1)] _ ∧ BackS (wq.heap.size + 1) (.slice aL n capL) xs _)
      exact ⟨OE.low _ _, ⟨by first | exact KP | exact fun p q => KP ⟨p, q⟩, (HG2.out.keeps _).trans (OE.keeps (fun k h => by omega))⟩, df, db, dq, ⟨_, do', by rw [List.length_append]; have q := HQR.out; rw [← HIK.out] at q ⊢; exact padd_skip q hi2⟩, HB2.out, by omega⟩
  case done =>
    rintro D W hD ⟨h1, h2, h4, ⟨zs, h6, h7⟩, h8, h9⟩ hK
    have k0 := h4.cell (i := 0) rfl
    have zk := h4.lt
    gi_wp2
    refine ⟨by simp, .inl ⟨_, _, rfl, run_takeDeferred hK, ?_⟩⟩
    have hg := (Grow.refl w5.heap.size _).putObj (.deferred none) hD hK rfl
    refine ⟨.slice ac n cc, by simp only [results, Tryd.results79]; go_simp, ?_⟩
    refine ⟨_, rfl, ?_, Below.behind h8 (Nat.le_refl _) hg (by omega)⟩
    have e1 : zs = nums (paddV m xs ys) := by
      rw [ups_len, HNL.out] at h7
      unfold paddV
      rw [HNL.out, HN2.out, Nat.max_eq_left hle]
      refine (h7.congr (fun t ht => ?_)).done
      by_cases e : t < n2
      · rw [if_pos ⟨ht, e⟩]
      · rw [if_neg (fun h => e h.2), getD_none (xs := ys) (by rw [HN2.out]; omega), addm_zero (getD_lt (by omega) HXS.out t)]
    rw [← e1]
    exact owns_grow (owns_mono h6 (by omega)) hg
  case stop => exact fun _ _ _ _ _ _ h _ => h.elim
set_option maxRecDepth 100000 in
set_option maxHeartbeats 1000000 in
theorem padd_lt (id : Int) (m inv o s n n2 capL capS : Nat) (aL aS : Option Addr) (xs ys : List Nat) (w : World) (hF : Hid (FieldOK m inv)) (hS : NumSl w (.slice aL n capL) xs) (hS2 : NumSl w (.slice aS n2 capS) ys) (hxs : ∀ y ∈ xs, y < m) (hys : ∀ y ∈ ys, y < m) (hn : xs.length = n) (hn2 : ys.length = n2) (hl : n < 1000000) (hm : n2 < n) :
    Calls Tryd.prog 79 #[.pointer none, fld id m inv o s, .slice aS n2 capS, .slice aL n capL] w (RetOwn 29 4 n (nums (paddV m xs ys)) w) := by
  have hm2 := hF.out.2.1
  have hle : n2 ≤ n := by omega
  have hga : n ≠ 0 → ∀ ad, aL = some ad → ad.block < w.heap.size := fun hn0 ad h => by
    have hS' := hS
    obtain ⟨a', c', e, _, hr⟩ := hS'
    simp only [Value.slice.injEq] at e
    obtain ⟨rfl, _, _⟩ := e
    rcases hr with h0 | ⟨g, off, rfl, he⟩
    · rw [h0] at hn; exact absurd hn.symm hn0
    · cases h
      obtain ⟨z, hz⟩ : ∃ z, xs[0]? = some z := ⟨xs[0]'(by omega), List.getElem?_eq_getElem _⟩
      exact World.block_lt_of_cell? w _ (he 0 z hz).2.1
  have hsh : ys = [] ∨ ∃ g off, aS = some ⟨g, off, none⟩ ∧ NumsAt w g off ys := by
    obtain ⟨a', c', e, _, hr⟩ := hS2
    simp only [Value.slice.injEq] at e
    obtain ⟨rfl, _, _⟩ := e
    exact hr
  have zW0 : ((w.alloc (.cells #[.int .i64 id, .int .u64 (limb m 0 : Int), .int .u64 (limb m 1 : Int), .int .u64 (limb m 2 : Int), .int .u64 (limb m 3 : Int), .int .u64 (inv : Int), .int .u64 (limb o 0 : Int), .int .u64 (limb o 1 : Int), .int .u64 (limb o 2 : Int), .int .u64 (limb o 3 : Int), .int .u64 (limb s 0 : Int), .int .u64 (limb s 1 : Int), .int .u64 (limb s 2 : Int), .int .u64 (limb s 3 : Int)] 31)).alloc (.cells #[.slice aS n2 capS] 34)).heap.size = w.heap.size + 1 + 1 := by simp
  have B0 : Below w.heap.size w ((w.alloc (.cells #[.int .i64 id, .int .u64 (limb m 0 : Int), .int .u64 (limb m 1 : Int), .int .u64 (limb m 2 : Int), .int .u64 (limb m 3 : Int), .int .u64 (inv : Int), .int .u64 (limb o 0 : Int), .int .u64 (limb o 1 : Int), .int .u64 (limb o 2 : Int), .int .u64 (limb o 3 : Int), .int .u64 (limb s 0 : Int), .int .u64 (limb s 1 : Int), .int .u64 (limb s 2 : Int), .int .u64 (limb s 3 : Int)] 31)).alloc (.cells #[.slice aS n2 capS] 34)) := by go_grown
  have f00 : Blk ((w.alloc (.cells #[.int .i64 id, .int .u64 (limb m 0 : Int), .int .u64 (limb m 1 : Int), .int .u64 (limb m 2 : Int), .int .u64 (limb m 3 : Int), .int .u64 (inv : Int), .int .u64 (limb o 0 : Int), .int .u64 (limb o 1 : Int), .int .u64 (limb o 2 : Int), .int .u64 (limb o 3 : Int), .int .u64 (limb s 0 : Int), .int .u64 (limb s 1 : Int), .int .u64 (limb s 2 : Int), .int .u64 (limb s 3 : Int)] 31)).alloc (.cells #[.slice aS n2 capS] 34)) w.heap.size 31 [.int .i64 id, .int .u64 (limb m 0 : Int), .int .u64 (limb m 1 : Int), .int .u64 (limb m 2 : Int), .int .u64 (limb m 3 : Int), .int .u64 (inv : Int), .int .u64 (limb o 0 : Int), .int .u64 (limb o 1 : Int), .int .u64 (limb o 2 : Int), .int .u64 (limb o 3 : Int), .int .u64 (limb s 0 : Int), .int .u64 (limb s 1 : Int), .int .u64 (limb s 2 : Int), .int .u64 (limb s 3 : Int)] := Blk.alloc (Blk.new rfl) _
  have b00 : Blk ((w.alloc (.cells #[.int .i64 id, .int .u64 (limb m 0 : Int), .int .u64 (limb m 1 : Int), .int .u64 (limb m 2 : Int), .int .u64 (limb m 3 : Int), .int .u64 (inv : Int), .int .u64 (limb o 0 : Int), .int .u64 (limb o 1 : Int), .int .u64 (limb o 2 : Int), .int .u64 (limb o 3 : Int), .int .u64 (limb s 0 : Int), .int .u64 (limb s 1 : Int), .int .u64 (limb s 2 : Int), .int .u64 (limb s 3 : Int)] 31)).alloc (.cells #[.slice aS n2 capS] 34)) (w.heap.size + 1) 34 [.slice aS n2 capS] := Blk.new (by simp)
  have S00 := hid (hS.below B0)
  have HSH := hid hsh
  have HXS := hid hxs
  have HYS := hid hys
  have HNL := hid hn
  have HN2 := hid hn2
  have c00 := b00.cell (i := 0) rfl
  have zb0 := b00.lt
  clear hS hS2 hsh hxs hys hn hn2
  have HM := hid hm
  have hmi : (n2 : Int) < (n : Int) := by omega
  clear hm
  refine (callsIn_wide (n := 9)).1 ?_
  refine callsIn_of_wp_marks Tryd.func79 rfl trivial ?_ rfl
  simp only [Tryd.ntmps79, List.size_toArray, List.length_cons, List.length_nil, Nat.reduceAdd, Nat.reduceSub, Array.replicate_succ, Array.replicate_zero, List.push_toArray, List.append_toArray, List.nil_append, List.cons_append]
  gi_wp2_with (first | (refine ⟨trivial, ?_⟩; gi_at_call 111; refine (callsIn_wide.2 (clone_any (.slice aL n capL) xs _ S00.out (by rw [HNL.out]; exact hl))).mono ?_; rintro e wq ⟨vc, rfl, hoc, bc⟩; rw [zW0, HNL.out] at hoc; obtain ⟨ac, cc, rfl, _, hacL, hacS⟩ := owns_form hoc; have hHS := hid hacS; have HACL := hid hacL; have Bq := hid (B0.trans (bc.mono B0.size)); have f0 := Blk.keep f00 bc; have b0 := Blk.keep b00 bc; have zq : w.heap.size + 1 < wq.heap.size := b0.lt; have SQ := hid (S00.out.below bc); have HOC := hid hoc; clear c00 zb0 f00 b00 B0 bc zW0 hacS hacL hoc; have b0c := b0.cell (i := 0) rfl) | (refine ⟨trivial, ?_⟩; gi_at_call 113; refine (callsIn_wide.2 (all_any aL n capL _)).mono ?_; rintro e w' ⟨rfl, rfl⟩) | (refine ⟨trivial, ?_⟩; gi_at_call 112; refine (callsIn_wide.2 (visit_any none 136 _ _)).mono ?_; rintro e w' ⟨rfl, rfl⟩))
  have G5 : Grow wq.heap.size wq ((((wq.alloc (.cells #[.slice ac n cc] 34)).alloc (.cells #[.slice aL n capL] 34)).alloc (.cells #[.pointer none] 53)).alloc (.cells #[.func (.func 136) #[] #[ptr' (wq.heap.size + 1)]] 160)) := ((((Grow.refl _ wq).alloc _).alloc _).alloc _).alloc _
  have q5 : Blk ((((wq.alloc (.cells #[.slice ac n cc] 34)).alloc (.cells #[.slice aL n capL] 34)).alloc (.cells #[.pointer none] 53)).alloc (.cells #[.func (.func 136) #[] #[ptr' (wq.heap.size + 1)]] 160)) wq.heap.size 34 [.slice ac n cc] := Blk.alloc (Blk.alloc (Blk.alloc (Blk.new rfl) _) _) _
  have s5 : Blk ((((wq.alloc (.cells #[.slice ac n cc] 34)).alloc (.cells #[.slice aL n capL] 34)).alloc (.cells #[.pointer none] 53)).alloc (.cells #[.func (.func 136) #[] #[ptr' (wq.heap.size + 1)]] 160)) (wq.heap.size + 1) 34 [.slice aL n capL] := Blk.alloc (Blk.alloc (Blk.new (by simp)) _) _
  have t5 : Blk ((((wq.alloc (.cells #[.slice ac n cc] 34)).alloc (.cells #[.slice aL n capL] 34)).alloc (.cells #[.pointer none] 53)).alloc (.cells #[.func (.func 136) #[] #[ptr' (wq.heap.size + 1)]] 160)) (wq.heap.size + 1 + 1) 53 [.pointer none] := Blk.alloc (Blk.new (by simp)) _
  have l5 : Blk ((((wq.alloc (.cells #[.slice ac n cc] 34)).alloc (.cells #[.slice aL n capL] 34)).alloc (.cells #[.pointer none] 53)).alloc (.cells #[.func (.func 136) #[] #[ptr' (wq.heap.size + 1)]] 160)) (wq.heap.size + 1 + 1 + 1) 160 [.func (.func 136) #[] #[ptr' (wq.heap.size + 1)]] := Blk.new (by simp)
  have z5 : ((((wq.alloc (.cells #[.slice ac n cc] 34)).alloc (.cells #[.slice aL n capL] 34)).alloc (.cells #[.pointer none] 53)).alloc (.cells #[.func (.func 136) #[] #[ptr' (wq.heap.size + 1)]] 160)).heap.size = wq.heap.size + 4 := by simp
  generalize ((((wq.alloc (.cells #[.slice ac n cc] 34)).alloc (.cells #[.slice aL n capL] 34)).alloc (.cells #[.pointer none] 53)).alloc (.cells #[.func (.func 136) #[] #[ptr' (wq.heap.size + 1)]] 160)) = w5 at *
  have hP0 : VisS (wq.heap.size + 1 + 1 + 1) (wq.heap.size + 1 + 1) 136 #[ptr' (wq.heap.size + 1)] w5 ∧ BackS (wq.heap.size + 1) (.slice aL n capL) xs w5 := ⟨⟨l5, t5⟩, s5, SQ.out.grow G5⟩
  have B5 : Below w.heap.size w w5 := Below.behind Bq.out (Nat.le_refl _) G5 (by omega)
  have f5 := f0.grow G5
  have b5 := b0.grow G5
  have o5 := owns_grow HOC.out G5
  have hqr : FRow n (fun t => if t < ([] : List (Nat × Nat)).length ∧ t < n2 then addm m (xs.getD t 0) (ys.getD t 0) else xs.getD t 0) (nums xs) := by
    have q := FRow.of xs
    rw [HNL.out] at q
    exact q.congr (fun t _ => by rw [if_neg (fun h => Nat.not_lt_zero _ h.1)])
  have HGA0 := hid hga
  clear hga b0c
  refine wpIn_every (gf := 135) (lb := #[ptr' (wq.heap.size + 1 + 1 + 1), ptr' (wq.heap.size + 1 + 1)]) (encs := pairV) (xs := ups xs)
    (Kp := fun A B => (VisS (wq.heap.size + 1 + 1 + 1) (wq.heap.size + 1 + 1) 136 #[ptr' (wq.heap.size + 1)] A ∧ BackS (wq.heap.size + 1) (.slice aL n capL) xs A → VisS (wq.heap.size + 1 + 1 + 1) (wq.heap.size + 1 + 1) 136 #[ptr' (wq.heap.size + 1)] B ∧ BackS (wq.heap.size + 1) (.slice aL n capL) xs B) ∧ Keeps w5.heap.size A B)
    rfl (enters_of Tryd.func135 (by kernel_rfl) rfl)
    (fun W hg => visit_seq _ _ _ _ (BackS (wq.heap.size + 1) (.slice aL n capL) xs) (ups xs) W w5.heap.size hg.size (enters_of Tryd.func136 (by kernel_rfl) rfl) (hP0.1.grow hg) (hP0.2.grow hg) (fun B A A' h k => h.grow k) (fun W' hq => all_seq _ _ xs W' hq (by rw [HNL.out]; omega)))
    (fun h k => ⟨fun p => k.1 (h.1 p), h.2.trans k.2⟩) (fun A B hg => ⟨fun p => ⟨p.1.grow hg, p.2.grow hg⟩, hg.keeps _⟩) (fun _ => rfl)
    (fun pre W => Blk W w.heap.size 31 [.int .i64 id, .int .u64 (limb m 0 : Int), .int .u64 (limb m 1 : Int), .int .u64 (limb m 2 : Int), .int .u64 (limb m 3 : Int), .int .u64 (inv : Int), .int .u64 (limb o 0 : Int), .int .u64 (limb o 1 : Int), .int .u64 (limb o 2 : Int), .int .u64 (limb o 3 : Int), .int .u64 (limb s 0 : Int), .int .u64 (limb s 1 : Int), .int .u64 (limb s 2 : Int), .int .u64 (limb s 3 : Int)] ∧ Blk W (w.heap.size + 1) 34 [.slice aS n2 capS] ∧ Blk W wq.heap.size 34 [.slice ac n cc] ∧ (∃ zs, W.ownsRow (w.heap.size + 1 + 1) 29 4 (.slice ac n cc) n zs ∧ FRow n (fun t => if t < pre.length ∧ t < n2 then addm m (xs.getD t 0) (ys.getD t 0) else xs.getD t 0) zs) ∧ Below w.heap.size w W ∧ w5.heap.size ≤ W.heap.size)
    (fun _ _ _ => False)
    (fun pre A B h g => by
      obtain ⟨h1, h2, h4, ⟨ys, h6, h7⟩, h8, h9⟩ := h
      exact ⟨h1.grow g, h2.grow g, h4.grow g, ⟨ys, owns_grow h6 g, h7⟩, Below.behind h8 (Nat.le_refl _) g (by omega), Nat.le_trans h9 g.size⟩)
    (fun _ _ _ _ h _ => h) ⟨f5, b5, q5, ⟨_, o5, hqr⟩, B5, Nat.le_refl _⟩ ?round ?done ?stop
  case round =>
    rintro lm l pre ⟨i, y0⟩ W ⟨h1, h2, h4, ⟨zs, h6, h7⟩, h8, h9⟩ hpre hl9
    obtain ⟨hget, hpt⟩ := pre_take hpre
    obtain ⟨hy, hik⟩ := ups_at hget
    have hin : i < n := by have := (List.getElem?_eq_some_iff.1 hy).1; have := HNL.out; omega
    have HIK := hid hik
    have HQR := hid h7
    have HB8 := hid h8
    have HP0 := hid hP0
    have HGA := hid (HGA0.out (by omega))
    obtain ⟨gq, rfl⟩ := hHS.out (by omega)
    have zgq0 : w.heap.size + 1 + 1 ≤ gq ∧ gq < wq.heap.size := by obtain ⟨g9, e9, h91, h92⟩ := HACL.out _ rfl; cases e9; exact ⟨h91, h92⟩
    obtain ⟨zgq, zgw⟩ := zgq0
    clear hik f0 b0 G5 q5 s5 t5 l5 B5 f5 b5 o5 hqr h7 h8 hy hget hpt hpre hP0
    simp only [pairV]
    gi_wp2
    refine ⟨(Only.refl (fun _ => True) W).low _ _, fun W2 hg => ?_⟩
    have G2 : Grow w5.heap.size W W2 := hg
    have df := h1.grow G2
    have db := h2.grow G2
    have dq := h4.grow G2
    have do' := owns_grow h6 G2
    have zz2 : w5.heap.size ≤ W2.heap.size := Nat.le_trans h9 G2.size
    have HB2 := hid (Below.behind HB8.out (Nat.le_refl _) G2 (by omega))
    have HG2 := hid G2
    clear h1 h2 h4 h6 hg G2
    have zb : w.heap.size ≤ W2.heap.size := HB2.out.size
    have f0 := df.cell (i := 0) rfl
    have f1 := df.cell (i := 1) rfl
    have f2 := df.cell (i := 2) rfl
    have f3 := df.cell (i := 3) rfl
    have f4 := df.cell (i := 4) rfl
    have f5 := df.cell (i := 5) rfl
    have f6 := df.cell (i := 6) rfl
    have f7 := df.cell (i := 7) rfl
    have f8 := df.cell (i := 8) rfl
    have f9 := df.cell (i := 9) rfl
    have f10 := df.cell (i := 10) rfl
    have f11 := df.cell (i := 11) rfl
    have f12 := df.cell (i := 12) rfl
    have f13 := df.cell (i := 13) rfl
    have b0 := db.cell (i := 0) rfl
    have q0 := dq.cell (i := 0) rfl
    have zf := df.lt
    have zbx := db.lt
    have zq2 := dq.lt
    by_cases hi2 : i < n2
    · obtain ⟨y, hy⟩ : ∃ y, ys[i]? = some y := ⟨ys[i]'(by rw [HN2.out]; exact hi2), List.getElem?_eq_getElem _⟩
      obtain ⟨gs, os, rfl, hat⟩ : ∃ g off, aS = some ⟨g, off, none⟩ ∧ NumsAt w g off ys := by
        rcases HSH.out with h | h
        · rw [h] at hy; cases hy
        · exact h
      have hym := HYS.out y (List.mem_of_getElem? hy)
      have HYD := hid (show ys.getD i 0 = y from getD_some hy)
      obtain ⟨_, e0, e1, e2, e3⟩ := hat i y hy
      have hgs : gs < w.heap.size := World.block_lt_of_cell? w _ e0
      have hgr := Nat.lt_of_lt_of_le hgs zb
      have d0 := (HB2.out.cell (p := ⟨gs, os + i * 4, none⟩) hgs).trans e0
      have d1 := (HB2.out.cell (p := ⟨gs, os + i * 4 + 1, none⟩) hgs).trans e1
      have d2 := (HB2.out.cell (p := ⟨gs, os + i * 4 + 2, none⟩) hgs).trans e2
      have d3 := (HB2.out.cell (p := ⟨gs, os + i * 4 + 3, none⟩) hgs).trans e3
      obtain ⟨x, hx⟩ : ∃ x, xs.getD i 0 = x := ⟨_, rfl⟩
      have hxm : x < m := by rw [← hx]; exact getD_lt (by omega) HXS.out i
      have HXD := hid hx
      have M1 := hid (madd_any id m inv o s x y hF.out.1 hxm hym)
      have hrow : ∀ j, j < 4 → zs[i * 4 + j]? = some (.int .u64 (limb x j : Int)) := fun j hj => by
        have q := HQR.out.2 i j hin hj
        rw [← HIK.out] at q
        dsimp only at q
        rw [if_neg (fun h => Nat.lt_irrefl _ h.1), HXD.out] at q
        exact q
      have r0 : W2.cell? ⟨gq, i * 4, none⟩ = some (.int .u64 (limb x 0 : Int)) := (do'.cellAt (i * 4) (by omega)).trans (hrow 0 (by omega))
      have r1 : W2.cell? ⟨gq, i * 4 + 1, none⟩ = some (.int .u64 (limb x 1 : Int)) := (do'.cellAt (i * 4 + 1) (by omega)).trans (hrow 1 (by omega))
      have r2 : W2.cell? ⟨gq, i * 4 + 2, none⟩ = some (.int .u64 (limb x 2 : Int)) := (do'.cellAt (i * 4 + 2) (by omega)).trans (hrow 2 (by omega))
      have r3 : W2.cell? ⟨gq, i * 4 + 3, none⟩ = some (.int .u64 (limb x 3 : Int)) := (do'.cellAt (i * 4 + 3) (by omega)).trans (hrow 3 (by omega))
      have zgq2 : gq < W2.heap.size := (do'.lt _ rfl).2
      have HROW := hid hrow
      clear hrow e0 e1 e2 e3 hat hy hx
      gi_wp2
      refine wpIn_round_soft (C := fun W' => Below W2.heap.size W2 W') 12 (by kernel_rfl) (by kernel_rfl) (by kernel_rfl) ((Below.refl _ _).drew) ?_
      simp only [List.take_succ_cons, List.take_zero, List.drop_succ_cons, List.drop_zero]
      refine wpQuiet_step (fun K hK => ?_)
      rw [if_pos (by rfl)]
      refine ⟨.slice (some ⟨gq, 0, none⟩) n cc, fun W' hW => ?_, hK _ ?_⟩
      · have e0 := (hW.cell (p := ⟨wq.heap.size, 0, none⟩) zq2).trans q0
        go_simp
      clear hK K
      simp only [Act.put, List.setIfInBounds_toArray, List.set_cons_zero, List.set_cons_succ]
      refine wpQuiet_step (fun K hK => ?_)
      rw [if_pos (by rfl)]
      refine ⟨.int .i64 (i : Int), fun W' hW => ?_, hK _ ?_⟩
      · go_simp
      clear hK K
      simp only [Act.put, List.setIfInBounds_toArray, List.set_cons_zero, List.set_cons_succ]
      refine wpQuiet_step (fun K hK => ?_)
      rw [if_pos (by rfl)]
      refine ⟨fld id m inv o s, fun W' hW => ?_, hK _ ?_⟩
      · have e0 := (hW.cell (p := ⟨w.heap.size, 0, none⟩) zf).trans f0
        have e1 := (hW.cell (p := ⟨w.heap.size, 1, none⟩) zf).trans f1
        have e2 := (hW.cell (p := ⟨w.heap.size, 2, none⟩) zf).trans f2
        have e3 := (hW.cell (p := ⟨w.heap.size, 3, none⟩) zf).trans f3
        have e4 := (hW.cell (p := ⟨w.heap.size, 4, none⟩) zf).trans f4
        have e5 := (hW.cell (p := ⟨w.heap.size, 5, none⟩) zf).trans f5
        have e6 := (hW.cell (p := ⟨w.heap.size, 6, none⟩) zf).trans f6
        have e7 := (hW.cell (p := ⟨w.heap.size, 7, none⟩) zf).trans f7
        have e8 := (hW.cell (p := ⟨w.heap.size, 8, none⟩) zf).trans f8
        have e9 := (hW.cell (p := ⟨w.heap.size, 9, none⟩) zf).trans f9
        have e10 := (hW.cell (p := ⟨w.heap.size, 10, none⟩) zf).trans f10
        have e11 := (hW.cell (p := ⟨w.heap.size, 11, none⟩) zf).trans f11
        have e12 := (hW.cell (p := ⟨w.heap.size, 12, none⟩) zf).trans f12
        have e13 := (hW.cell (p := ⟨w.heap.size, 13, none⟩) zf).trans f13
        go_simp
      clear hK K
      simp only [Act.put, List.setIfInBounds_toArray, List.set_cons_zero, List.set_cons_succ]
      refine wpQuiet_step (fun K hK => ?_)
      rw [if_pos (by rfl)]
      refine ⟨.slice (some ⟨gq, 0, none⟩) n cc, fun W' hW => ?_, hK _ ?_⟩
      · have e0 := (hW.cell (p := ⟨wq.heap.size, 0, none⟩) zq2).trans q0
        go_simp
      clear hK K
      simp only [Act.put, List.setIfInBounds_toArray, List.set_cons_zero, List.set_cons_succ]
      refine wpQuiet_step (fun K hK => ?_)
      rw [if_pos (by rfl)]
      refine ⟨.int .i64 (i : Int), fun W' hW => ?_, hK _ ?_⟩
      · go_simp
      clear hK K
      simp only [Act.put, List.setIfInBounds_toArray, List.set_cons_zero, List.set_cons_succ]
      refine wpQuiet_step (fun K hK => ?_)
      rw [if_pos (by rfl)]
      refine ⟨.pointer (some ⟨gq, i * 4, none⟩), fun W' hW => ?_, hK _ ?_⟩
      · go_simp
      clear hK K
      simp only [Act.put, List.setIfInBounds_toArray, List.set_cons_zero, List.set_cons_succ]
      refine wpQuiet_step (fun K hK => ?_)
      rw [if_pos (by rfl)]
      refine ⟨vec x, fun W' hW => ?_, hK _ ?_⟩
      · have e0 := (hW.cell (p := ⟨gq, i * 4, none⟩) zgq2).trans r0
        have e1 := (hW.cell (p := ⟨gq, i * 4 + 1, none⟩) zgq2).trans r1
        have e2 := (hW.cell (p := ⟨gq, i * 4 + 2, none⟩) zgq2).trans r2
        have e3 := (hW.cell (p := ⟨gq, i * 4 + 3, none⟩) zgq2).trans r3
        go_simp
      clear hK K
      simp only [Act.put, List.setIfInBounds_toArray, List.set_cons_zero, List.set_cons_succ]
      refine wpQuiet_step (fun K hK => ?_)
      rw [if_pos (by rfl)]
      refine ⟨.slice (some ⟨gs, os, none⟩) n2 capS, fun W' hW => ?_, hK _ ?_⟩
      · have e0 := (hW.cell (p := ⟨w.heap.size + 1, 0, none⟩) zbx).trans b0
        go_simp
      clear hK K
      simp only [Act.put, List.setIfInBounds_toArray, List.set_cons_zero, List.set_cons_succ]
      refine wpQuiet_step (fun K hK => ?_)
      rw [if_pos (by rfl)]
      refine ⟨.int .i64 (i : Int), fun W' hW => ?_, hK _ ?_⟩
      · go_simp
      clear hK K
      simp only [Act.put, List.setIfInBounds_toArray, List.set_cons_zero, List.set_cons_succ]
      refine wpQuiet_step (fun K hK => ?_)
      rw [if_pos (by rfl)]
      refine ⟨.pointer (some ⟨gs, os + i * 4, none⟩), fun W' hW => ?_, hK _ ?_⟩
      · go_simp
      clear hK K
      simp only [Act.put, List.setIfInBounds_toArray, List.set_cons_zero, List.set_cons_succ]
      refine wpQuiet_step (fun K hK => ?_)
      rw [if_pos (by rfl)]
      refine ⟨vec y, fun W' hW => ?_, hK _ ?_⟩
      · have e0 := (hW.cell (p := ⟨gs, os + i * 4, none⟩) hgr).trans d0
        have e1 := (hW.cell (p := ⟨gs, os + i * 4 + 1, none⟩) hgr).trans d1
        have e2 := (hW.cell (p := ⟨gs, os + i * 4 + 2, none⟩) hgr).trans d2
        have e3 := (hW.cell (p := ⟨gs, os + i * 4 + 3, none⟩) hgr).trans d3
        go_simp
      clear hK K
      simp only [Act.put, List.setIfInBounds_toArray, List.set_cons_zero, List.set_cons_succ]
      refine wpQuiet_step (fun K hK => ?_)
      rw [if_pos (by rfl)]
      refine ⟨vec (addm m x y), fun W' hW => ?_, hK _ ?_⟩
      · go_simp
        refine (M1.out _).mono ?_
        rintro e w' ⟨rfl, b⟩
        exact ⟨rfl, hW.trans (b.mono hW.size)⟩
      clear hK K
      simp only [Act.put, List.setIfInBounds_toArray, List.set_cons_zero, List.set_cons_succ]
      refine wpQuiet_nil ?_
      intro W3 hW3
      have zb3 := hW3.size
      obtain ⟨r2, hr2⟩ : ∃ r2, addm m x y = r2 := ⟨_, rfl⟩
      have HR2 := hid hr2
      rw [hr2]
      clear hr2
      have lo := owns_keep do' hW3
      have t0 := (lo.cellAt (i * 4) (by omega)).trans (HROW.out 0 (by omega))
      have t1 := (lo.cellAt (i * 4 + 1) (by omega)).trans (HROW.out 1 (by omega))
      have t2 := (lo.cellAt (i * 4 + 2) (by omega)).trans (HROW.out 2 (by omega))
      have t3 := (lo.cellAt (i * 4 + 3) (by omega)).trans (HROW.out 3 (by omega))
      have u0 := lo.frozenAt (i * 4)
      have u1 := lo.frozenAt (i * 4 + 1)
      have u2 := lo.frozenAt (i * 4 + 2)
      have u3 := lo.frozenAt (i * 4 + 3)
      have zlo : gq < W3.heap.size := (lo.lt _ rfl).2
      have hjc : (i : Int) < (n : Int) := by omega
      gi_wp2
      have O3 := (Below.only hW3 (fun k => k = gq))
      have OE := (((O3.setCell (p := ⟨gq, i * 4, none⟩) (.inl rfl) (.int .u64 (limb r2 0 : Int))).setCell (p := ⟨gq, i * 4 + 1, none⟩) (.inl rfl) (.int .u64 (limb r2 1 : Int))).setCell (p := ⟨gq, i * 4 + 2, none⟩) (.inl rfl) (.int .u64 (limb r2 2 : Int))).setCell (p := ⟨gq, i * 4 + 3, none⟩) (.inl rfl) (.int .u64 (limb r2 3 : Int))
      have KP : ∀ p, _ := fun p : VisS (wq.heap.size + 1 + 1 + 1) (wq.heap.size + 1 + 1) 136 #[ptr' (wq.heap.size + 1)] W ∧ BackS (wq.heap.size + 1) (.slice aL n capL) xs W => (⟨⟨(p.1.grow HG2.out).1.only OE (by omega), (p.1.grow HG2.out).2.only OE (by omega)⟩, (p.2.grow HG2.out).1.only OE (by omega), (p.2.grow HG2.out).2.only OE (fun ad h => by have := HGA.out ad h; omega)⟩ : VisS (wq.heap.size + 1 + 1 + 1) (wq.heap.size + 1 + 1) 136 #[ptr' (wq.heap.size + 1)] _ ∧ BackS (wq.heap.size + 1) (.slice aL n capL) xs _)
      exact ⟨OE.low _ _, ⟨by first | exact KP | exact fun p q => KP ⟨p, q⟩, (HG2.out.keeps _).trans (OE.keeps (fun k h => by omega))⟩, df.only OE (by omega), db.only OE (by omega), dq.only OE (by omega), ⟨_, ((((lo.stored (i * 4) _).1.stored (i * 4 + 1) _).1.stored (i * 4 + 2) _).1.stored (i * 4 + 3) _).1, by rw [List.length_append]; have q := HQR.out; rw [← HIK.out] at q ⊢; exact padd_store q (by omega) hi2 HXD.out HYD.out HR2.out⟩, HB2.out.trans (OE.below (fun k h => by omega) (by omega)), by have := OE.size; omega⟩
    · gi_wp2
      have OE := Only.refl (fun k => k = gq) W2
      have KP : ∀ p, _ := fun p : VisS (wq.heap.size + 1 + 1 + 1) (wq.heap.size + 1 + 1) 136 #[ptr' (wq.heap.size + 1)] W ∧ BackS (wq.heap.size + 1) (.slice aL n capL) xs W => (⟨⟨(p.1.grow HG2.out).1.only OE (by omega), (p.1.grow HG2.out).2.only OE (by omega)⟩, (p.2.grow HG2.out).1.only OE (by omega), (p.2.grow HG2.out).2.only OE (fun ad h => by have := HGA.out ad h; omega)⟩ : VisS (wq.heap.size + 1 + 1 + 1) (wq.heap.size + 1 + 1) 136 #[ptr' (wq.heap.size + 1)] _ ∧ BackS (wq.heap.size + 1) (.slice aL n capL) xs _)
      exact ⟨OE.low _ _, ⟨by first | exact KP | exact fun p q => KP ⟨p, q⟩, (HG2.out.keeps _).trans (OE.keeps (fun k h => by omega))⟩, df, db, dq, ⟨_, do', by rw [List.length_append]; have q := HQR.out; rw [← HIK.out] at q ⊢; exact padd_skip q hi2⟩, HB2.out, by omega⟩
  case done =>
    rintro D W hD ⟨h1, h2, h4, ⟨zs, h6, h7⟩, h8, h9⟩ hK
    have k0 := h4.cell (i := 0) rfl
    have zk := h4.lt
    gi_wp2
    refine ⟨by simp, .inl ⟨_, _, rfl, run_takeDeferred hK, ?_⟩⟩
    have hg := (Grow.refl w5.heap.size _).putObj (.deferred none) hD hK rfl
    refine ⟨.slice ac n cc, by simp only [results, Tryd.results79]; go_simp, ?_⟩
    refine ⟨_, rfl, ?_, Below.behind h8 (Nat.le_refl _) hg (by omega)⟩
    have e1 : zs = nums (paddV m xs ys) := by
      rw [ups_len, HNL.out] at h7
      unfold paddV
      rw [HNL.out, HN2.out, Nat.max_eq_left hle]
      refine (h7.congr (fun t ht => ?_)).done
      by_cases e : t < n2
      · rw [if_pos ⟨ht, e⟩]
      · rw [if_neg (fun h => e h.2), getD_none (xs := ys) (by rw [HN2.out]; omega), addm_zero (getD_lt (by omega) HXS.out t)]
    rw [← e1]
    exact owns_grow (owns_mono h6 (by omega)) hg
  case stop => exact fun _ _ _ _ _ _ h _ => h.elim
theorem padd_any (id : Int) (m inv o s : Nat) (v1 v2 : Value) (xs ys : List Nat) (w : World) (hF : Hid (FieldOK m inv)) (hS1 : NumSl w v1 xs) (hS2 : NumSl w v2 ys) (hxs : ∀ y ∈ xs, y < m) (hys : ∀ y ∈ ys, y < m) (hl1 : xs.length < 1000000) (hl2 : ys.length < 1000000) :
    Calls Tryd.prog 79 #[.pointer none, fld id m inv o s, v1, v2] w (RetOwn 29 4 (max xs.length ys.length) (nums (paddV m xs ys)) w) := by
  have h1 := hS1
  have h2 := hS2
  obtain ⟨a1, c1, rfl, _, _⟩ := h1
  obtain ⟨a2, c2, rfl, _, _⟩ := h2
  by_cases hm : xs.length < ys.length
  · rw [paddV_comm, Nat.max_eq_right (by omega)]
    exact padd_lt id m inv o s ys.length xs.length c2 c1 a2 a1 ys xs w hF hS2 hS1 hys hxs rfl rfl hl2 hm
  · rw [Nat.max_eq_left (by omega)]
    exact padd_ge id m inv o s xs.length ys.length c1 c2 a1 a2 xs ys w hF hS1 hS2 hxs hys rfl rfl hl1 hm
end Go.Proofs.YtogenbggjodcnaaDoor
/-
  The reference's product of two polynomials.
-/
namespace Go.Proofs.YtogenbggjodcnaaDoor
open Go.RowKit

set_option maxRecDepth 100000 in
set_option maxHeartbeats 2000000 in
theorem rpmul_pos (p n1 n2 cap1 cap2 : Nat) (a1 a2 : Option Addr) (xs ys : List Nat) (w : World) (hp : p < B256) (h1 : 1 < p) (hS1 : NumSl w (.slice a1 (n1 + 1) cap1) xs) (hS2 : NumSl w (.slice a2 (n2 + 1) cap2) ys) (hxs : Hid (∀ y ∈ xs, y < p)) (hys : Hid (∀ y ∈ ys, y < p)) (hn1 : xs.length = n1 + 1) (hn2 : ys.length = n2 + 1) (hl1 : n1 < 100000) (hl2 : n2 < 100000) :
    Calls Tryd.prog 78 #[vec p, .slice a1 (n1 + 1) cap1, .slice a2 (n2 + 1) cap2] w (RetOwn 28 4 (n1 + n2 + 1) (nums (pmulV p xs ys)) w) := by
  obtain ⟨i0, hi, hz0, hz1, hz2⟩ := info_parts info_v4
  have hx0 : xs ≠ [] := fun e => by rw [e] at hn1; cases hn1
  have hy0 : ys ≠ [] := fun e => by rw [e] at hn2; cases hn2
  obtain ⟨c, hc⟩ : ∃ c, n1 + n2 + 1 = c := ⟨_, rfl⟩
  obtain ⟨g1, off1, ha1, hat1⟩ : ∃ g off, a1 = some ⟨g, off, none⟩ ∧ NumsAt w g off xs := by
    obtain ⟨a', c', e, _, h | h⟩ := hS1
    · exact absurd h hx0
    · simp only [Value.slice.injEq] at e; rw [e.1]; exact h
  obtain ⟨g2, off2, ha2, hat2⟩ : ∃ g off, a2 = some ⟨g, off, none⟩ ∧ NumsAt w g off ys := by
    obtain ⟨a', c', e, _, h | h⟩ := hS2
    · exact absurd h hy0
    · simp only [Value.slice.injEq] at e; rw [e.1]; exact h
  subst ha1 ha2
  obtain ⟨N1, hN1⟩ : ∃ N, n1 + 1 = N := ⟨_, rfl⟩
  obtain ⟨N2, hN2⟩ : ∃ N, n2 + 1 = N := ⟨_, rfl⟩
  rw [hN1, hN2, hc]
  have hd1 : ((N1 : Int) == 0) = false := by simp; omega
  have hd2 : ((N2 : Int) == 0) = false := by simp; omega
  have hsum : (N1 : Int) + (N2 : Int) - 1 = (c : Int) := by omega
  have HAT1 := hid hat1
  have HAT2 := hid hat2
  have HN1 := hid (show xs.length = N1 by omega)
  have HN2 := hid (show ys.length = N2 by omega)
  have HX0 := hid hx0
  have HY0 := hid hy0
  have HP := hid hp
  have H1 := hid h1
  clear hS1 hS2 hat1 hat2 hn1 hn2 hx0 hy0 hp h1
  go_enter Tryd.func78, Tryd.ntmps78
  go_wp2_with (at_make; refine wpList_make_full _ rfl _ _ 23 rfl (w.heap.size + 1) 28 i0 _ 4 Tryd.underlying23 hi hz0 hz1 .i64 .i64 _ _ c rfl rfl (by first | rfl | omega) (by first | rfl | omega) (by rw [hz2]; omega) (by unfold maxLen; omega) (by simp) ?_; intro w1 hown1 hgrow1)
  have B1 := hid (Below.grown ((Below.refl w.heap.size w).alloc (Nat.le_refl _) (.cells #[.int .u64 (limb p 0 : Int), .int .u64 (limb p 1 : Int), .int .u64 (limb p 2 : Int), .int .u64 (limb p 3 : Int)] 28)) hgrow1 (by simp) (fun j hj => by cases hj))
  have F1 := hid (show Blk w1 w.heap.size 28 [.int .u64 (limb p 0 : Int), .int .u64 (limb p 1 : Int), .int .u64 (limb p 2 : Int), .int .u64 (limb p 3 : Int)] from Blk.grown (Blk.new rfl) hgrow1 (by simp))
  have hw0 : (w.alloc (.cells #[.int .u64 (limb p 0 : Int), .int .u64 (limb p 1 : Int), .int .u64 (limb p 2 : Int), .int .u64 (limb p 3 : Int)] 28)).heap.size = w.heap.size + 1 := by simp
  rw [hw0] at hown1
  have O1 := hid hown1
  have P1 := hid ((FRow.zero c _ (by rw [Array.length_toList]; exact size_madeCells _ _) (fun t j ht hj => made_zeros c t j ht hj)).congr (g := fun t => rowV p xs ys 0 0 t (paccV p xs ys 0 t)) (fun t _ => by rw [rowV_zero]; rfl))
  clear hown1 hgrow1 hi hz0 hz1 hz2 hd1 hd2 hsum
  clear hw0
  go_loopw [8] (fun x wr => ∃ (i : Nat) (zs : List Value), i ≤ N1 ∧ x = .int .i64 (i : Int) ∧ Blk wr w.heap.size 28 [.int .u64 (limb p 0 : Int), .int .u64 (limb p 1 : Int), .int .u64 (limb p 2 : Int), .int .u64 (limb p 3 : Int)] ∧ wr.ownsRow (w.heap.size + 1) 28 4 (.slice (some ⟨w.heap.size + 1, 0, none⟩) c c) c zs ∧ FRow c (fun t => rowV p xs ys i 0 t (paccV p xs ys i t)) zs ∧ Below w.heap.size w wr) (fun x _ => N1 - (intOf x).toNat)
  case atStart => exact ⟨0, _, Nat.zero_le _, rfl, F1.out, O1.out, P1.out, B1.out⟩
  case round =>
    obtain ⟨i, zs, hiN, rfl, hp9, hown, hpr, hB⟩ := hrel
    have zB := hB.size
    have HB0 := hid hB
    have HPR0 := hid hpr
    clear hB hpr
    by_cases hlt : i < N1
    · obtain ⟨x, hx⟩ : ∃ x, xs[i]? = some x := ⟨xs[i]'(by rw [HN1.out]; exact hlt), List.getElem?_eq_getElem _⟩
      have hxm := hxs.out x (List.mem_of_getElem? hx)
      have HXD := hid (show xs.getD i 0 = x from getD_some hx)
      have HXA := hid (HAT1.out i x hx)
      clear hx
      go_wp2
      go_loopw [9] (fun y wy => ∃ (k : Nat) (zs : List Value), k ≤ N2 ∧ y = .int .i64 (k : Int) ∧ Blk wy w.heap.size 28 [.int .u64 (limb p 0 : Int), .int .u64 (limb p 1 : Int), .int .u64 (limb p 2 : Int), .int .u64 (limb p 3 : Int)] ∧ wy.ownsRow (w.heap.size + 1) 28 4 (.slice (some ⟨w.heap.size + 1, 0, none⟩) c c) c zs ∧ FRow c (fun t => rowV p xs ys i k t (paccV p xs ys i t)) zs ∧ Below w.heap.size w wy) (fun y _ => N2 - (intOf y).toNat)
      case atStart => exact ⟨0, zs, Nat.zero_le _, rfl, hp9, hown, HPR0.out, HB0.out⟩
      case round =>
        clear hp9 hown zB HB0 HPR0
        obtain ⟨k, zs, hkN, rfl, hp9, hown, hpr, hB⟩ := hrel
        have zB := hB.size
        have HB := hid hB
        have HPR := hid hpr
        clear hB hpr
        by_cases hlk : k < N2
        · obtain ⟨y, hy⟩ : ∃ y, ys[k]? = some y := ⟨ys[k]'(by rw [HN2.out]; exact hlk), List.getElem?_eq_getElem _⟩
          have hym := hys.out y (List.mem_of_getElem? hy)
          have HYD := hid (show ys.getD k 0 = y from getD_some hy)
          obtain ⟨_, x0, x1, x2, x3⟩ := HXA.out
          have hg1 : g1 < w.heap.size := World.block_lt_of_cell? w _ x0
          have hgr := Nat.lt_of_lt_of_le hg1 zB
          have d0 := (HB.out.cell (p := ⟨g1, off1 + i * 4, none⟩) hg1).trans x0
          have d1 := (HB.out.cell (p := ⟨g1, off1 + i * 4 + 1, none⟩) hg1).trans x1
          have d2 := (HB.out.cell (p := ⟨g1, off1 + i * 4 + 2, none⟩) hg1).trans x2
          have d3 := (HB.out.cell (p := ⟨g1, off1 + i * 4 + 3, none⟩) hg1).trans x3
          obtain ⟨_, e0, e1, e2, e3⟩ := HAT2.out k y hy
          have hg2 : g2 < w.heap.size := World.block_lt_of_cell? w _ e0
          have hgr2 := Nat.lt_of_lt_of_le hg2 zB
          have dd0 := (HB.out.cell (p := ⟨g2, off2 + k * 4, none⟩) hg2).trans e0
          have dd1 := (HB.out.cell (p := ⟨g2, off2 + k * 4 + 1, none⟩) hg2).trans e1
          have dd2 := (HB.out.cell (p := ⟨g2, off2 + k * 4 + 2, none⟩) hg2).trans e2
          have dd3 := (HB.out.cell (p := ⟨g2, off2 + k * 4 + 3, none⟩) hg2).trans e3
          obtain ⟨u, hu⟩ : ∃ u, i + k = u := ⟨_, rfl⟩
          have zu : (i : Int) + (k : Int) = (u : Int) := by omega
          have zuc : (u : Int) < (c : Int) := by omega
          have zuc2 : u < c := by omega
          have zwu : IntKind.i64.wrap (u : Int) = (u : Int) := by rw [IntKind.wrap_i64]; omega
          have HUU := hid hu
          obtain ⟨r, hr⟩ : ∃ r, rowV p xs ys i k u (paccV p xs ys i u) = r := ⟨_, rfl⟩
          have HRV := hid hr
          have hrm : r < p := by rw [← hr]; exact rowV_lt _ _ _ _ _ (by omega) (paccV_lt _ _ (by omega) _ _)
          have M1 := hid (rmul_any p x y HP.out hxm (by have := HP.out; omega))
          have M2 := hid (radd_any p r (mulm p x y) HP.out hrm (mulm_lt _ _ (by omega)))
          clear e0 e1 e2 e3 x0 x1 x2 x3 hy hr
          have zo : w.heap.size + 1 < wr.heap.size := (hown.lt _ rfl).2
          have zp := hp9.lt
          have p0 := hp9.cell (i := 0) rfl
          have p1 := hp9.cell (i := 1) rfl
          have p2 := hp9.cell (i := 2) rfl
          have p3 := hp9.cell (i := 3) rfl
          have hrow : ∀ j, j < 4 → zs[u * 4 + j]? = some (.int .u64 (limb r j : Int)) := fun j hj => by have q := HPR.out.2 u j (by omega) hj; rw [← HRV.out]; exact q
          have r0 : wr.cell? ⟨w.heap.size + 1, u * 4, none⟩ = some (.int .u64 (limb r 0 : Int)) := (hown.cellAt (u * 4) (by omega)).trans (hrow 0 (by omega))
          have r1 : wr.cell? ⟨w.heap.size + 1, u * 4 + 1, none⟩ = some (.int .u64 (limb r 1 : Int)) := (hown.cellAt (u * 4 + 1) (by omega)).trans (hrow 1 (by omega))
          have r2 : wr.cell? ⟨w.heap.size + 1, u * 4 + 2, none⟩ = some (.int .u64 (limb r 2 : Int)) := (hown.cellAt (u * 4 + 2) (by omega)).trans (hrow 2 (by omega))
          have r3 : wr.cell? ⟨w.heap.size + 1, u * 4 + 3, none⟩ = some (.int .u64 (limb r 3 : Int)) := (hown.cellAt (u * 4 + 3) (by omega)).trans (hrow 3 (by omega))
          have HROW := hid hrow
          clear hrow
          go_wp2
          refine wp_region_soft (C := fun W' => Below wr.heap.size wr W') 22 (by kernel_rfl) (by kernel_rfl) ((Below.refl _ _).drew) ?_
          simp only [List.take_succ_cons, List.take_zero, List.drop_succ_cons, List.drop_zero]
          refine wpQuiet_step (fun K hK => ?_)
          rw [if_pos (by rfl)]
          refine ⟨.slice (some ⟨w.heap.size + 1, 0, none⟩) c c, fun W' hW => ?_, hK _ ?_⟩
          · go_simp
          clear hK K
          simp only [Act.put, List.setIfInBounds_toArray, List.set_cons_zero, List.set_cons_succ]
          refine wpQuiet_step (fun K hK => ?_)
          rw [if_pos (by rfl)]
          refine ⟨.int .i64 (i : Int), fun W' hW => ?_, hK _ ?_⟩
          · go_simp
          clear hK K
          simp only [Act.put, List.setIfInBounds_toArray, List.set_cons_zero, List.set_cons_succ]
          refine wpQuiet_step (fun K hK => ?_)
          rw [if_pos (by rfl)]
          refine ⟨.int .i64 (k : Int), fun W' hW => ?_, hK _ ?_⟩
          · go_simp
          clear hK K
          simp only [Act.put, List.setIfInBounds_toArray, List.set_cons_zero, List.set_cons_succ]
          refine wpQuiet_step (fun K hK => ?_)
          rw [if_pos (by rfl)]
          refine ⟨.int .i64 (u : Int), fun W' hW => ?_, hK _ ?_⟩
          · go_simp
          clear hK K
          simp only [Act.put, List.setIfInBounds_toArray, List.set_cons_zero, List.set_cons_succ]
          refine wpQuiet_step (fun K hK => ?_)
          rw [if_pos (by rfl)]
          refine ⟨vec p, fun W' hW => ?_, hK _ ?_⟩
          · have e0 := (hW.cell (p := ⟨w.heap.size, 0, none⟩) zp).trans p0
            have e1 := (hW.cell (p := ⟨w.heap.size, 1, none⟩) zp).trans p1
            have e2 := (hW.cell (p := ⟨w.heap.size, 2, none⟩) zp).trans p2
            have e3 := (hW.cell (p := ⟨w.heap.size, 3, none⟩) zp).trans p3
            go_simp
          clear hK K
          simp only [Act.put, List.setIfInBounds_toArray, List.set_cons_zero, List.set_cons_succ]
          refine wpQuiet_step (fun K hK => ?_)
          rw [if_pos (by rfl)]
          refine ⟨.slice (some ⟨w.heap.size + 1, 0, none⟩) c c, fun W' hW => ?_, hK _ ?_⟩
          · go_simp
          clear hK K
          simp only [Act.put, List.setIfInBounds_toArray, List.set_cons_zero, List.set_cons_succ]
          refine wpQuiet_step (fun K hK => ?_)
          rw [if_pos (by rfl)]
          refine ⟨.int .i64 (i : Int), fun W' hW => ?_, hK _ ?_⟩
          · go_simp
          clear hK K
          simp only [Act.put, List.setIfInBounds_toArray, List.set_cons_zero, List.set_cons_succ]
          refine wpQuiet_step (fun K hK => ?_)
          rw [if_pos (by rfl)]
          refine ⟨.int .i64 (k : Int), fun W' hW => ?_, hK _ ?_⟩
          · go_simp
          clear hK K
          simp only [Act.put, List.setIfInBounds_toArray, List.set_cons_zero, List.set_cons_succ]
          refine wpQuiet_step (fun K hK => ?_)
          rw [if_pos (by rfl)]
          refine ⟨.int .i64 (u : Int), fun W' hW => ?_, hK _ ?_⟩
          · go_simp
          clear hK K
          simp only [Act.put, List.setIfInBounds_toArray, List.set_cons_zero, List.set_cons_succ]
          refine wpQuiet_step (fun K hK => ?_)
          rw [if_pos (by rfl)]
          refine ⟨.pointer (some ⟨w.heap.size + 1, u * 4, none⟩), fun W' hW => ?_, hK _ ?_⟩
          · go_simp
          clear hK K
          simp only [Act.put, List.setIfInBounds_toArray, List.set_cons_zero, List.set_cons_succ]
          refine wpQuiet_step (fun K hK => ?_)
          rw [if_pos (by rfl)]
          refine ⟨vec r, fun W' hW => ?_, hK _ ?_⟩
          · have e0 := (hW.cell (p := ⟨w.heap.size + 1, u * 4, none⟩) zo).trans r0
            have e1 := (hW.cell (p := ⟨w.heap.size + 1, u * 4 + 1, none⟩) zo).trans r1
            have e2 := (hW.cell (p := ⟨w.heap.size + 1, u * 4 + 2, none⟩) zo).trans r2
            have e3 := (hW.cell (p := ⟨w.heap.size + 1, u * 4 + 3, none⟩) zo).trans r3
            go_simp
          clear hK K
          simp only [Act.put, List.setIfInBounds_toArray, List.set_cons_zero, List.set_cons_succ]
          refine wpQuiet_step (fun K hK => ?_)
          rw [if_pos (by rfl)]
          refine ⟨vec p, fun W' hW => ?_, hK _ ?_⟩
          · have e0 := (hW.cell (p := ⟨w.heap.size, 0, none⟩) zp).trans p0
            have e1 := (hW.cell (p := ⟨w.heap.size, 1, none⟩) zp).trans p1
            have e2 := (hW.cell (p := ⟨w.heap.size, 2, none⟩) zp).trans p2
            have e3 := (hW.cell (p := ⟨w.heap.size, 3, none⟩) zp).trans p3
            go_simp
          clear hK K
          simp only [Act.put, List.setIfInBounds_toArray, List.set_cons_zero, List.set_cons_succ]
          refine wpQuiet_step (fun K hK => ?_)
          rw [if_pos (by rfl)]
          refine ⟨.slice (some ⟨g1, off1, none⟩) N1 cap1, fun W' hW => ?_, hK _ ?_⟩
          · go_simp
          clear hK K
          simp only [Act.put, List.setIfInBounds_toArray, List.set_cons_zero, List.set_cons_succ]
          refine wpQuiet_step (fun K hK => ?_)
          rw [if_pos (by rfl)]
          refine ⟨.int .i64 (i : Int), fun W' hW => ?_, hK _ ?_⟩
          · go_simp
          clear hK K
          simp only [Act.put, List.setIfInBounds_toArray, List.set_cons_zero, List.set_cons_succ]
          refine wpQuiet_step (fun K hK => ?_)
          rw [if_pos (by rfl)]
          refine ⟨.pointer (some ⟨g1, off1 + i * 4, none⟩), fun W' hW => ?_, hK _ ?_⟩
          · go_simp
          clear hK K
          simp only [Act.put, List.setIfInBounds_toArray, List.set_cons_zero, List.set_cons_succ]
          refine wpQuiet_step (fun K hK => ?_)
          rw [if_pos (by rfl)]
          refine ⟨vec x, fun W' hW => ?_, hK _ ?_⟩
          · have e0 := (hW.cell (p := ⟨g1, off1 + i * 4, none⟩) hgr).trans d0
            have e1 := (hW.cell (p := ⟨g1, off1 + i * 4 + 1, none⟩) hgr).trans d1
            have e2 := (hW.cell (p := ⟨g1, off1 + i * 4 + 2, none⟩) hgr).trans d2
            have e3 := (hW.cell (p := ⟨g1, off1 + i * 4 + 3, none⟩) hgr).trans d3
            go_simp
          clear hK K
          simp only [Act.put, List.setIfInBounds_toArray, List.set_cons_zero, List.set_cons_succ]
          refine wpQuiet_step (fun K hK => ?_)
          rw [if_pos (by rfl)]
          refine ⟨.slice (some ⟨g2, off2, none⟩) N2 cap2, fun W' hW => ?_, hK _ ?_⟩
          · go_simp
          clear hK K
          simp only [Act.put, List.setIfInBounds_toArray, List.set_cons_zero, List.set_cons_succ]
          refine wpQuiet_step (fun K hK => ?_)
          rw [if_pos (by rfl)]
          refine ⟨.int .i64 (k : Int), fun W' hW => ?_, hK _ ?_⟩
          · go_simp
          clear hK K
          simp only [Act.put, List.setIfInBounds_toArray, List.set_cons_zero, List.set_cons_succ]
          refine wpQuiet_step (fun K hK => ?_)
          rw [if_pos (by rfl)]
          refine ⟨.pointer (some ⟨g2, off2 + k * 4, none⟩), fun W' hW => ?_, hK _ ?_⟩
          · go_simp
          clear hK K
          simp only [Act.put, List.setIfInBounds_toArray, List.set_cons_zero, List.set_cons_succ]
          refine wpQuiet_step (fun K hK => ?_)
          rw [if_pos (by rfl)]
          refine ⟨vec y, fun W' hW => ?_, hK _ ?_⟩
          · have e0 := (hW.cell (p := ⟨g2, off2 + k * 4, none⟩) hgr2).trans dd0
            have e1 := (hW.cell (p := ⟨g2, off2 + k * 4 + 1, none⟩) hgr2).trans dd1
            have e2 := (hW.cell (p := ⟨g2, off2 + k * 4 + 2, none⟩) hgr2).trans dd2
            have e3 := (hW.cell (p := ⟨g2, off2 + k * 4 + 3, none⟩) hgr2).trans dd3
            go_simp
          clear hK K
          simp only [Act.put, List.setIfInBounds_toArray, List.set_cons_zero, List.set_cons_succ]
          refine wpQuiet_step (fun K hK => ?_)
          rw [if_pos (by rfl)]
          refine ⟨vec (mulm p x y), fun W' hW => ?_, hK _ ?_⟩
          · go_simp
            refine (M1.out _).mono ?_
            rintro e w' ⟨rfl, b⟩
            exact ⟨rfl, hW.trans (b.mono hW.size)⟩
          clear hK K
          simp only [Act.put, List.setIfInBounds_toArray, List.set_cons_zero, List.set_cons_succ]
          refine wpQuiet_step (fun K hK => ?_)
          rw [if_pos (by rfl)]
          refine ⟨vec (addm p r (mulm p x y)), fun W' hW => ?_, hK _ ?_⟩
          · go_simp
            refine (M2.out _).mono ?_
            rintro e w' ⟨rfl, b⟩
            exact ⟨rfl, hW.trans (b.mono hW.size)⟩
          clear hK K
          simp only [Act.put, List.setIfInBounds_toArray, List.set_cons_zero, List.set_cons_succ]
          refine wpQuiet_nil ?_
          intro W3 hW3
          have kp := hp9.below hW3 zp
          have ko := owns_keep hown hW3
          have B3 := hid (HB.out.trans (hW3.mono zB))
          have zW3 := hW3.size
          have zo3 : w.heap.size + 1 < W3.heap.size := (ko.lt _ rfl).2
          have t0 : W3.cell? ⟨w.heap.size + 1, u * 4, none⟩ = some (.int .u64 (limb r 0 : Int)) := (ko.cellAt (u * 4) (by omega)).trans (HROW.out 0 (by omega))
          have t1 : W3.cell? ⟨w.heap.size + 1, u * 4 + 1, none⟩ = some (.int .u64 (limb r 1 : Int)) := (ko.cellAt (u * 4 + 1) (by omega)).trans (HROW.out 1 (by omega))
          have t2 : W3.cell? ⟨w.heap.size + 1, u * 4 + 2, none⟩ = some (.int .u64 (limb r 2 : Int)) := (ko.cellAt (u * 4 + 2) (by omega)).trans (HROW.out 2 (by omega))
          have t3 : W3.cell? ⟨w.heap.size + 1, u * 4 + 3, none⟩ = some (.int .u64 (limb r 3 : Int)) := (ko.cellAt (u * 4 + 3) (by omega)).trans (HROW.out 3 (by omega))
          have v0 := ko.frozenAt (u * 4)
          have v1 := ko.frozenAt (u * 4 + 1)
          have v2 := ko.frozenAt (u * 4 + 2)
          have v3 := ko.frozenAt (u * 4 + 3)
          obtain ⟨r2, hr2⟩ : ∃ r2, addm p r (mulm p x y) = r2 := ⟨_, rfl⟩
          have HR2 := hid hr2
          rw [hr2]
          clear hr2
          go_wp2
          go_roundw
          case rel => exact ⟨k + 1, _, by omega, by go_num, (((kp.other _ _ (by dsimp only; omega)).other _ _ (by dsimp only; omega)).other _ _ (by dsimp only; omega)).other _ _ (by dsimp only; omega), ((((ko.stored (u * 4) _).1.stored (u * 4 + 1) _).1.stored (u * 4 + 2) _).1.stored (u * 4 + 3) _).1, rowV_store HPR.out HUU.out (by omega) HRV.out HXD.out HYD.out HR2.out, (((B3.out.setCell (by dsimp only; omega) _).setCell (by dsimp only; omega) _).setCell (by dsimp only; omega) _).setCell (by dsimp only; omega) _⟩
          case measure => simp [intOf]; omega
        · obtain rfl : k = N2 := by omega
          have HPN := hid (HPR.out.congr (g := fun t => rowV p xs ys (i + 1) 0 t (paccV p xs ys (i + 1) t)) (fun t _ => by rw [rowV_zero, ← HN2.out]; rfl))
          go_wp2
          go_roundw
          case rel => exact ⟨i + 1, zs, by omega, by go_num, hp9, hown, HPN.out, HB.out⟩
          case measure => simp [intOf]; omega
    · obtain rfl : i = N1 := by omega
      have HDN := hid (show zs = nums (pmulV p xs ys) by
        rw [pmulV_eq HX0.out HY0.out, HN1.out, HN2.out, show i + N2 - 1 = c by omega]
        exact (HPR0.out.congr (g := paccV p xs ys i) (fun t _ => by rw [rowV_zero])).done)
      have HOW := hid hown
      clear hown
      go_wp2
      go_ret
      refine ⟨_, rfl, ?_, HB0.out⟩
      rw [← HDN.out]
      exact owns_mono HOW.out (by omega)
end Go.Proofs.YtogenbggjodcnaaDoor
/-
  The reference's sum of two polynomials.
-/
namespace Go.Proofs.YtogenbggjodcnaaDoor
open Go.RowKit

theorem copy_store {c k x : Nat} {xs : List Nat} {zs : List Value} (h : FRow c (fun t => if t < k then xs.getD t 0 else 0) zs) (hc : k < c) (hx : xs.getD k 0 = x) :
    FRow c (fun t => if t < k + 1 then xs.getD t 0 else 0) ((((zs.set (k * 4) (.int .u64 (limb x 0 : Int))).set (k * 4 + 1) (.int .u64 (limb x 1 : Int))).set (k * 4 + 2) (.int .u64 (limb x 2 : Int))).set (k * 4 + 3) (.int .u64 (limb x 3 : Int))) := by
  refine h.store hc x (fun t _ => ?_)
  by_cases e : t = k
  · rw [if_pos e, if_pos (by omega), e, hx]
  · rw [if_neg e]
    by_cases l : t < k
    · rw [if_pos l, if_pos (by omega)]
    · rw [if_neg l, if_neg (by omega)]
theorem add_store {p c k x y z : Nat} {xs ys : List Nat} {zs : List Value} (h : FRow c (fun t => if t < k then addm p (xs.getD t 0) (ys.getD t 0) else xs.getD t 0) zs) (hc : k < c) (hx : xs.getD k 0 = x) (hy : ys.getD k 0 = y) (hz : addm p x y = z) :
    FRow c (fun t => if t < k + 1 then addm p (xs.getD t 0) (ys.getD t 0) else xs.getD t 0) ((((zs.set (k * 4) (.int .u64 (limb z 0 : Int))).set (k * 4 + 1) (.int .u64 (limb z 1 : Int))).set (k * 4 + 2) (.int .u64 (limb z 2 : Int))).set (k * 4 + 3) (.int .u64 (limb z 3 : Int))) := by
  refine h.store hc z (fun t _ => ?_)
  by_cases e : t = k
  · rw [if_pos e, if_pos (by omega), e, hx, hy, hz]
  · rw [if_neg e]
    by_cases l : t < k
    · rw [if_pos l, if_pos (by omega)]
    · rw [if_neg l, if_neg (by omega)]
set_option maxRecDepth 100000 in
set_option maxHeartbeats 2000000 in
theorem rpadd_lt (p : Nat) (v1 v2 : Value) (xs ys : List Nat) (w : World) (hp : p < B256) (h1 : 1 < p) (hS1 : NumSl w v1 xs) (hS2 : NumSl w v2 ys) (hxs : Hid (∀ y ∈ xs, y < p)) (hys : Hid (∀ y ∈ ys, y < p)) (hl1 : xs.length < 100000) (hl2 : ys.length < 100000) (hm : xs.length < ys.length) :
    Calls Tryd.prog 82 #[vec p, v1, v2] w (RetOwn 28 4 (max xs.length ys.length) (nums (paddV p xs ys)) w) := by
  obtain ⟨i0, hi, hz0, hz1, hz2⟩ := info_parts info_v4
  obtain ⟨a1, cap1, rfl, _, hr1⟩ := hS1
  obtain ⟨a2, cap2, rfl, _, hr2⟩ := hS2
  obtain ⟨n1, hn1⟩ : ∃ N, xs.length = N := ⟨_, rfl⟩
  obtain ⟨n2, hn2⟩ : ∃ N, ys.length = N := ⟨_, rfl⟩
  rw [hn1] at hl1 ⊢
  rw [hn2] at hl2 ⊢
  rw [hn1, hn2] at hm
  obtain ⟨c, hc⟩ : ∃ c, max n1 n2 = c := ⟨_, rfl⟩
  have hmax : max (n1 : Int) (n2 : Int) = (c : Int) := by omega
  have hn1c : n1 ≤ c := by omega
  have hn2c : n2 ≤ c := by omega
  have HR1 := hid hr1
  have HR2 := hid hr2
  have HN1 := hid hn1
  have HN2 := hid hn2
  have HP := hid hp
  have H1 := hid h1
  have HPD := hid (show paddV p xs ys = (List.range c).map fun i => addm p (xs.getD i 0) (ys.getD i 0) by unfold paddV; rw [hn1, hn2, hc])
  rw [hc]
  clear hr1 hr2 hn1 hn2 hp h1
  go_enter Tryd.func82, Tryd.ntmps82
  go_wp2_with (at_make; refine wpList_make_full _ rfl _ _ 23 rfl (w.heap.size + 1) 28 i0 _ 4 Tryd.underlying23 hi hz0 hz1 .i64 .i64 _ _ c rfl rfl (by first | rfl | omega) (by first | rfl | omega) (by rw [hz2]; omega) (by unfold maxLen; omega) (by simp) ?_; intro w1 hown1 hgrow1)
  have B1 := hid (Below.grown ((Below.refl w.heap.size w).alloc (Nat.le_refl _) (.cells #[.int .u64 (limb p 0 : Int), .int .u64 (limb p 1 : Int), .int .u64 (limb p 2 : Int), .int .u64 (limb p 3 : Int)] 28)) hgrow1 (by simp) (fun j hj => by cases hj))
  have F1 := hid (show Blk w1 w.heap.size 28 [.int .u64 (limb p 0 : Int), .int .u64 (limb p 1 : Int), .int .u64 (limb p 2 : Int), .int .u64 (limb p 3 : Int)] from Blk.grown (Blk.new rfl) hgrow1 (by simp))
  have hw0 : (w.alloc (.cells #[.int .u64 (limb p 0 : Int), .int .u64 (limb p 1 : Int), .int .u64 (limb p 2 : Int), .int .u64 (limb p 3 : Int)] 28)).heap.size = w.heap.size + 1 := by simp
  rw [hw0] at hown1
  have O1 := hid hown1
  have P1 := hid ((FRow.zero c _ (by rw [Array.length_toList]; exact size_madeCells _ _) (fun t j ht hj => made_zeros c t j ht hj)).congr (g := fun t => if t < 0 then xs.getD t 0 else 0) (fun t _ => by simp))
  clear hown1 hgrow1 hi hz0 hz1 hz2 hmax hc hw0
  go_loopw [8] (fun x wr => ∃ (k : Nat) (zs : List Value), k ≤ n1 ∧ x = .int .i64 (k : Int) ∧ Blk wr w.heap.size 28 [.int .u64 (limb p 0 : Int), .int .u64 (limb p 1 : Int), .int .u64 (limb p 2 : Int), .int .u64 (limb p 3 : Int)] ∧ wr.ownsRow (w.heap.size + 1) 28 4 (.slice (some ⟨w.heap.size + 1, 0, none⟩) c c) c zs ∧ FRow c (fun t => if t < k then xs.getD t 0 else 0) zs ∧ Below w.heap.size w wr) (fun x _ => n1 - (intOf x).toNat)
  case atStart => exact ⟨0, _, Nat.zero_le _, rfl, F1.out, O1.out, P1.out, B1.out⟩
  case round =>
    obtain ⟨k, zs, hk, rfl, hp9, hown, hpr, hB⟩ := hrel
    have zB := hB.size
    have HB := hid hB
    have HPR := hid hpr
    clear hB hpr
    by_cases hlt : k < n1
    · obtain ⟨x1, hx1⟩ : ∃ x, xs[k]? = some x := ⟨xs[k]'(by rw [HN1.out]; exact hlt), List.getElem?_eq_getElem _⟩
      have HXD := hid (show xs.getD k 0 = x1 from getD_some hx1)
      obtain ⟨g1, off1, ha1, hat1⟩ : ∃ g off, a1 = some ⟨g, off, none⟩ ∧ NumsAt w g off xs := by
        rcases HR1.out with h | h
        · rw [h] at hx1; cases hx1
        · exact h
      subst ha1
      obtain ⟨_, e0, e1, e2, e3⟩ := hat1 k x1 hx1
      have hg1 : g1 < w.heap.size := World.block_lt_of_cell? w _ e0
      have hgr1 := Nat.lt_of_lt_of_le hg1 zB
      have d1_0 := (HB.out.cell (p := ⟨g1, off1 + k * 4, none⟩) hg1).trans e0
      have d1_1 := (HB.out.cell (p := ⟨g1, off1 + k * 4 + 1, none⟩) hg1).trans e1
      have d1_2 := (HB.out.cell (p := ⟨g1, off1 + k * 4 + 2, none⟩) hg1).trans e2
      have d1_3 := (HB.out.cell (p := ⟨g1, off1 + k * 4 + 3, none⟩) hg1).trans e3
      clear e0 e1 e2 e3 hat1
      clear hx1
      have zo : w.heap.size + 1 < wr.heap.size := (hown.lt _ rfl).2
      have zkc : (k : Int) < (c : Int) := by omega
      have zkc2 : k < c := by omega
      have t0 : wr.cell? ⟨w.heap.size + 1, k * 4, none⟩ = some (.int .u64 (limb 0 0 : Int)) := (hown.cellAt (k * 4) (by omega)).trans (by have q := HPR.out.2 k 0 (by omega) (by omega); simp only [Nat.lt_irrefl, if_false] at q; exact q)
      have t1 : wr.cell? ⟨w.heap.size + 1, k * 4 + 1, none⟩ = some (.int .u64 (limb 0 1 : Int)) := (hown.cellAt (k * 4 + 1) (by omega)).trans (by have q := HPR.out.2 k 1 (by omega) (by omega); simp only [Nat.lt_irrefl, if_false] at q; exact q)
      have t2 : wr.cell? ⟨w.heap.size + 1, k * 4 + 2, none⟩ = some (.int .u64 (limb 0 2 : Int)) := (hown.cellAt (k * 4 + 2) (by omega)).trans (by have q := HPR.out.2 k 2 (by omega) (by omega); simp only [Nat.lt_irrefl, if_false] at q; exact q)
      have t3 : wr.cell? ⟨w.heap.size + 1, k * 4 + 3, none⟩ = some (.int .u64 (limb 0 3 : Int)) := (hown.cellAt (k * 4 + 3) (by omega)).trans (by have q := HPR.out.2 k 3 (by omega) (by omega); simp only [Nat.lt_irrefl, if_false] at q; exact q)
      have v0 := hown.frozenAt (k * 4)
      have v1 := hown.frozenAt (k * 4 + 1)
      have v2 := hown.frozenAt (k * 4 + 2)
      have v3 := hown.frozenAt (k * 4 + 3)
      go_wp2
      go_roundw
      case rel => exact ⟨k + 1, _, by omega, by go_num, (((hp9.other _ _ (by dsimp only; omega)).other _ _ (by dsimp only; omega)).other _ _ (by dsimp only; omega)).other _ _ (by dsimp only; omega), ((((hown.stored (k * 4) _).1.stored (k * 4 + 1) _).1.stored (k * 4 + 2) _).1.stored (k * 4 + 3) _).1, copy_store HPR.out (by omega) HXD.out, (((HB.out.setCell (by dsimp only; omega) _).setCell (by dsimp only; omega) _).setCell (by dsimp only; omega) _).setCell (by dsimp only; omega) _⟩
      case measure => simp [intOf]; omega
    · obtain rfl : k = n1 := by omega
      have P2 := hid (HPR.out.congr (g := fun t => if t < 0 then addm p (xs.getD t 0) (ys.getD t 0) else xs.getD t 0) (fun t _ => by
        rw [if_neg (by omega)]
        by_cases l : t < k
        · rw [if_pos l]
        · rw [if_neg l, getD_none (by rw [HN1.out]; omega)]))
      clear HPR
      go_wp2
      go_loopw [9] (fun x wr => ∃ (j : Nat) (zs : List Value), j ≤ n2 ∧ x = .int .i64 (j : Int) ∧ Blk wr w.heap.size 28 [.int .u64 (limb p 0 : Int), .int .u64 (limb p 1 : Int), .int .u64 (limb p 2 : Int), .int .u64 (limb p 3 : Int)] ∧ wr.ownsRow (w.heap.size + 1) 28 4 (.slice (some ⟨w.heap.size + 1, 0, none⟩) c c) c zs ∧ FRow c (fun t => if t < j then addm p (xs.getD t 0) (ys.getD t 0) else xs.getD t 0) zs ∧ Below w.heap.size w wr) (fun x _ => n2 - (intOf x).toNat)
      case atStart => exact ⟨0, _, Nat.zero_le _, rfl, hp9, hown, P2.out, HB.out⟩
      case round =>
        clear hp9 hown zB HB P2 zs hlt
        rename_i kk _ _
        obtain ⟨k, zs, hk2, rfl, hp9, hown, hpr, hB⟩ := hrel
        have zB := hB.size
        have HB := hid hB
        have HPR := hid hpr
        clear hB hpr
        by_cases hlt : k < n2
        · obtain ⟨x2, hx2⟩ : ∃ x, ys[k]? = some x := ⟨ys[k]'(by rw [HN2.out]; exact hlt), List.getElem?_eq_getElem _⟩
          have HYD := hid (show ys.getD k 0 = x2 from getD_some hx2)
          have hym := hys.out x2 (List.mem_of_getElem? hx2)
          obtain ⟨r, hr⟩ : ∃ r, xs.getD k 0 = r := ⟨_, rfl⟩
          have HRV := hid hr
          have hrm : r < p := by rw [← hr]; exact getD_lt (by have := H1.out; omega) hxs.out k
          have M2 := hid (radd_any p r x2 HP.out hrm hym)
          clear hr
          obtain ⟨g2, off2, ha2, hat2⟩ : ∃ g off, a2 = some ⟨g, off, none⟩ ∧ NumsAt w g off ys := by
            rcases HR2.out with h | h
            · rw [h] at hx2; cases hx2
            · exact h
          subst ha2
          obtain ⟨_, e0, e1, e2, e3⟩ := hat2 k x2 hx2
          have hg2 : g2 < w.heap.size := World.block_lt_of_cell? w _ e0
          have hgr2 := Nat.lt_of_lt_of_le hg2 zB
          have d2_0 := (HB.out.cell (p := ⟨g2, off2 + k * 4, none⟩) hg2).trans e0
          have d2_1 := (HB.out.cell (p := ⟨g2, off2 + k * 4 + 1, none⟩) hg2).trans e1
          have d2_2 := (HB.out.cell (p := ⟨g2, off2 + k * 4 + 2, none⟩) hg2).trans e2
          have d2_3 := (HB.out.cell (p := ⟨g2, off2 + k * 4 + 3, none⟩) hg2).trans e3
          clear e0 e1 e2 e3 hat2
          clear hx2
          have zo : w.heap.size + 1 < wr.heap.size := (hown.lt _ rfl).2
          have zp := hp9.lt
          have p0 := hp9.cell (i := 0) rfl
          have p1 := hp9.cell (i := 1) rfl
          have p2 := hp9.cell (i := 2) rfl
          have p3 := hp9.cell (i := 3) rfl
          have zkc : (k : Int) < (c : Int) := by omega
          have zkc2 : k < c := by omega
          have hrow : ∀ j, j < 4 → zs[k * 4 + j]? = some (.int .u64 (limb r j : Int)) := fun j hj => by have q := HPR.out.2 k j (by omega) hj; simp only [Nat.lt_irrefl, if_false] at q; rw [← HRV.out]; exact q
          have r0 : wr.cell? ⟨w.heap.size + 1, k * 4, none⟩ = some (.int .u64 (limb r 0 : Int)) := (hown.cellAt (k * 4) (by omega)).trans (hrow 0 (by omega))
          have r1 : wr.cell? ⟨w.heap.size + 1, k * 4 + 1, none⟩ = some (.int .u64 (limb r 1 : Int)) := (hown.cellAt (k * 4 + 1) (by omega)).trans (hrow 1 (by omega))
          have r2 : wr.cell? ⟨w.heap.size + 1, k * 4 + 2, none⟩ = some (.int .u64 (limb r 2 : Int)) := (hown.cellAt (k * 4 + 2) (by omega)).trans (hrow 2 (by omega))
          have r3 : wr.cell? ⟨w.heap.size + 1, k * 4 + 3, none⟩ = some (.int .u64 (limb r 3 : Int)) := (hown.cellAt (k * 4 + 3) (by omega)).trans (hrow 3 (by omega))
          have HROW := hid hrow
          clear hrow
          go_wp2
          refine wp_region_soft (C := fun W' => Below wr.heap.size wr W') 12 (by kernel_rfl) (by kernel_rfl) ((Below.refl _ _).drew) ?_
          simp only [List.take_succ_cons, List.take_zero, List.drop_succ_cons, List.drop_zero]
          refine wpQuiet_step (fun K hK => ?_)
          rw [if_pos (by rfl)]
          refine ⟨.slice (some ⟨w.heap.size + 1, 0, none⟩) c c, fun W' hW => ?_, hK _ ?_⟩
          · go_simp
          clear hK K
          simp only [Act.put, List.setIfInBounds_toArray, List.set_cons_zero, List.set_cons_succ]
          refine wpQuiet_step (fun K hK => ?_)
          rw [if_pos (by rfl)]
          refine ⟨.int .i64 (k : Int), fun W' hW => ?_, hK _ ?_⟩
          · go_simp
          clear hK K
          simp only [Act.put, List.setIfInBounds_toArray, List.set_cons_zero, List.set_cons_succ]
          refine wpQuiet_step (fun K hK => ?_)
          rw [if_pos (by rfl)]
          refine ⟨vec p, fun W' hW => ?_, hK _ ?_⟩
          · have e0 := (hW.cell (p := ⟨w.heap.size, 0, none⟩) zp).trans p0
            have e1 := (hW.cell (p := ⟨w.heap.size, 1, none⟩) zp).trans p1
            have e2 := (hW.cell (p := ⟨w.heap.size, 2, none⟩) zp).trans p2
            have e3 := (hW.cell (p := ⟨w.heap.size, 3, none⟩) zp).trans p3
            go_simp
          clear hK K
          simp only [Act.put, List.setIfInBounds_toArray, List.set_cons_zero, List.set_cons_succ]
          refine wpQuiet_step (fun K hK => ?_)
          rw [if_pos (by rfl)]
          refine ⟨.slice (some ⟨w.heap.size + 1, 0, none⟩) c c, fun W' hW => ?_, hK _ ?_⟩
          · go_simp
          clear hK K
          simp only [Act.put, List.setIfInBounds_toArray, List.set_cons_zero, List.set_cons_succ]
          refine wpQuiet_step (fun K hK => ?_)
          rw [if_pos (by rfl)]
          refine ⟨.int .i64 (k : Int), fun W' hW => ?_, hK _ ?_⟩
          · go_simp
          clear hK K
          simp only [Act.put, List.setIfInBounds_toArray, List.set_cons_zero, List.set_cons_succ]
          refine wpQuiet_step (fun K hK => ?_)
          rw [if_pos (by rfl)]
          refine ⟨.pointer (some ⟨w.heap.size + 1, k * 4, none⟩), fun W' hW => ?_, hK _ ?_⟩
          · go_simp
          clear hK K
          simp only [Act.put, List.setIfInBounds_toArray, List.set_cons_zero, List.set_cons_succ]
          refine wpQuiet_step (fun K hK => ?_)
          rw [if_pos (by rfl)]
          refine ⟨vec r, fun W' hW => ?_, hK _ ?_⟩
          · have e0 := (hW.cell (p := ⟨w.heap.size + 1, k * 4, none⟩) zo).trans r0
            have e1 := (hW.cell (p := ⟨w.heap.size + 1, k * 4 + 1, none⟩) zo).trans r1
            have e2 := (hW.cell (p := ⟨w.heap.size + 1, k * 4 + 2, none⟩) zo).trans r2
            have e3 := (hW.cell (p := ⟨w.heap.size + 1, k * 4 + 3, none⟩) zo).trans r3
            go_simp
          clear hK K
          simp only [Act.put, List.setIfInBounds_toArray, List.set_cons_zero, List.set_cons_succ]
          refine wpQuiet_step (fun K hK => ?_)
          rw [if_pos (by rfl)]
          refine ⟨.slice (some ⟨g2, off2, none⟩) n2 cap2, fun W' hW => ?_, hK _ ?_⟩
          · go_simp
          clear hK K
          simp only [Act.put, List.setIfInBounds_toArray, List.set_cons_zero, List.set_cons_succ]
          refine wpQuiet_step (fun K hK => ?_)
          rw [if_pos (by rfl)]
          refine ⟨.int .i64 (k : Int), fun W' hW => ?_, hK _ ?_⟩
          · go_simp
          clear hK K
          simp only [Act.put, List.setIfInBounds_toArray, List.set_cons_zero, List.set_cons_succ]
          refine wpQuiet_step (fun K hK => ?_)
          rw [if_pos (by rfl)]
          refine ⟨.pointer (some ⟨g2, off2 + k * 4, none⟩), fun W' hW => ?_, hK _ ?_⟩
          · go_simp
          clear hK K
          simp only [Act.put, List.setIfInBounds_toArray, List.set_cons_zero, List.set_cons_succ]
          refine wpQuiet_step (fun K hK => ?_)
          rw [if_pos (by rfl)]
          refine ⟨vec x2, fun W' hW => ?_, hK _ ?_⟩
          · have e0 := (hW.cell (p := ⟨g2, off2 + k * 4, none⟩) hgr2).trans d2_0
            have e1 := (hW.cell (p := ⟨g2, off2 + k * 4 + 1, none⟩) hgr2).trans d2_1
            have e2 := (hW.cell (p := ⟨g2, off2 + k * 4 + 2, none⟩) hgr2).trans d2_2
            have e3 := (hW.cell (p := ⟨g2, off2 + k * 4 + 3, none⟩) hgr2).trans d2_3
            go_simp
          clear hK K
          simp only [Act.put, List.setIfInBounds_toArray, List.set_cons_zero, List.set_cons_succ]
          refine wpQuiet_step (fun K hK => ?_)
          rw [if_pos (by rfl)]
          refine ⟨vec (addm p r x2), fun W' hW => ?_, hK _ ?_⟩
          · go_simp
            refine (M2.out _).mono ?_
            rintro e w' ⟨rfl, b⟩
            exact ⟨rfl, hW.trans (b.mono hW.size)⟩
          clear hK K
          simp only [Act.put, List.setIfInBounds_toArray, List.set_cons_zero, List.set_cons_succ]
          refine wpQuiet_nil ?_
          intro W3 hW3
          have kp := hp9.below hW3 zp
          have ko := owns_keep hown hW3
          have B3 := hid (HB.out.trans (hW3.mono zB))
          have zW3 := hW3.size
          have zo3 : w.heap.size + 1 < W3.heap.size := (ko.lt _ rfl).2
          have t0 : W3.cell? ⟨w.heap.size + 1, k * 4, none⟩ = some (.int .u64 (limb r 0 : Int)) := (ko.cellAt (k * 4) (by omega)).trans (HROW.out 0 (by omega))
          have t1 : W3.cell? ⟨w.heap.size + 1, k * 4 + 1, none⟩ = some (.int .u64 (limb r 1 : Int)) := (ko.cellAt (k * 4 + 1) (by omega)).trans (HROW.out 1 (by omega))
          have t2 : W3.cell? ⟨w.heap.size + 1, k * 4 + 2, none⟩ = some (.int .u64 (limb r 2 : Int)) := (ko.cellAt (k * 4 + 2) (by omega)).trans (HROW.out 2 (by omega))
          have t3 : W3.cell? ⟨w.heap.size + 1, k * 4 + 3, none⟩ = some (.int .u64 (limb r 3 : Int)) := (ko.cellAt (k * 4 + 3) (by omega)).trans (HROW.out 3 (by omega))
          have v0 := ko.frozenAt (k * 4)
          have v1 := ko.frozenAt (k * 4 + 1)
          have v2 := ko.frozenAt (k * 4 + 2)
          have v3 := ko.frozenAt (k * 4 + 3)
          obtain ⟨q2, hr2⟩ : ∃ r2, addm p r x2 = r2 := ⟨_, rfl⟩
          have HR2 := hid hr2
          rw [hr2]
          clear hr2
          go_wp2
          go_roundw
          case rel => exact ⟨k + 1, _, by omega, by go_num, (((kp.other _ _ (by dsimp only; omega)).other _ _ (by dsimp only; omega)).other _ _ (by dsimp only; omega)).other _ _ (by dsimp only; omega), ((((ko.stored (k * 4) _).1.stored (k * 4 + 1) _).1.stored (k * 4 + 2) _).1.stored (k * 4 + 3) _).1, add_store HPR.out (by omega) HRV.out HYD.out HR2.out, (((B3.out.setCell (by dsimp only; omega) _).setCell (by dsimp only; omega) _).setCell (by dsimp only; omega) _).setCell (by dsimp only; omega) _⟩
          case measure => simp [intOf]; omega
        · obtain rfl : k = n2 := by omega
          have HDN := hid (show zs = nums (paddV p xs ys) by
            rw [HPD.out]
            refine (HPR.out.congr (fun t _ => ?_)).done
            by_cases l : t < k
            · rw [if_pos l]
            · rw [if_neg l, getD_none (xs := ys) (by rw [HN2.out]; omega), addm_zero (getD_lt (by have := H1.out; omega) hxs.out t)])
          have HOW := hid hown
          clear hown
          go_wp2
          go_ret
          refine ⟨_, rfl, ?_, HB.out⟩
          rw [← HDN.out]
          exact owns_mono HOW.out (by omega)
set_option maxRecDepth 100000 in
set_option maxHeartbeats 2000000 in
theorem rpadd_ge (p : Nat) (v1 v2 : Value) (xs ys : List Nat) (w : World) (hp : p < B256) (h1 : 1 < p) (hS1 : NumSl w v1 xs) (hS2 : NumSl w v2 ys) (hxs : Hid (∀ y ∈ xs, y < p)) (hys : Hid (∀ y ∈ ys, y < p)) (hl1 : xs.length < 100000) (hl2 : ys.length < 100000) (hm : ¬ xs.length < ys.length) :
    Calls Tryd.prog 82 #[vec p, v1, v2] w (RetOwn 28 4 (max xs.length ys.length) (nums (paddV p xs ys)) w) := by
  obtain ⟨i0, hi, hz0, hz1, hz2⟩ := info_parts info_v4
  obtain ⟨a1, cap1, rfl, _, hr1⟩ := hS1
  obtain ⟨a2, cap2, rfl, _, hr2⟩ := hS2
  obtain ⟨n1, hn1⟩ : ∃ N, xs.length = N := ⟨_, rfl⟩
  obtain ⟨n2, hn2⟩ : ∃ N, ys.length = N := ⟨_, rfl⟩
  rw [hn1] at hl1 ⊢
  rw [hn2] at hl2 ⊢
  rw [hn1, hn2] at hm
  obtain ⟨c, hc⟩ : ∃ c, max n1 n2 = c := ⟨_, rfl⟩
  have hmax : max (n1 : Int) (n2 : Int) = (c : Int) := by omega
  have hn1c : n1 ≤ c := by omega
  have hn2c : n2 ≤ c := by omega
  have HR1 := hid hr1
  have HR2 := hid hr2
  have HN1 := hid hn1
  have HN2 := hid hn2
  have HP := hid hp
  have H1 := hid h1
  have HPD := hid (show paddV p xs ys = (List.range c).map fun i => addm p (xs.getD i 0) (ys.getD i 0) by unfold paddV; rw [hn1, hn2, hc])
  rw [hc]
  clear hr1 hr2 hn1 hn2 hp h1
  go_enter Tryd.func82, Tryd.ntmps82
  go_wp2_with (at_make; refine wpList_make_full _ rfl _ _ 23 rfl (w.heap.size + 1) 28 i0 _ 4 Tryd.underlying23 hi hz0 hz1 .i64 .i64 _ _ c rfl rfl (by first | rfl | omega) (by first | rfl | omega) (by rw [hz2]; omega) (by unfold maxLen; omega) (by simp) ?_; intro w1 hown1 hgrow1)
  have B1 := hid (Below.grown ((Below.refl w.heap.size w).alloc (Nat.le_refl _) (.cells #[.int .u64 (limb p 0 : Int), .int .u64 (limb p 1 : Int), .int .u64 (limb p 2 : Int), .int .u64 (limb p 3 : Int)] 28)) hgrow1 (by simp) (fun j hj => by cases hj))
  have F1 := hid (show Blk w1 w.heap.size 28 [.int .u64 (limb p 0 : Int), .int .u64 (limb p 1 : Int), .int .u64 (limb p 2 : Int), .int .u64 (limb p 3 : Int)] from Blk.grown (Blk.new rfl) hgrow1 (by simp))
  have hw0 : (w.alloc (.cells #[.int .u64 (limb p 0 : Int), .int .u64 (limb p 1 : Int), .int .u64 (limb p 2 : Int), .int .u64 (limb p 3 : Int)] 28)).heap.size = w.heap.size + 1 := by simp
  rw [hw0] at hown1
  have O1 := hid hown1
  have P1 := hid ((FRow.zero c _ (by rw [Array.length_toList]; exact size_madeCells _ _) (fun t j ht hj => made_zeros c t j ht hj)).congr (g := fun t => if t < 0 then xs.getD t 0 else 0) (fun t _ => by simp))
  clear hown1 hgrow1 hi hz0 hz1 hz2 hmax hc hw0
  go_loopw [8] (fun x wr => ∃ (k : Nat) (zs : List Value), k ≤ n1 ∧ x = .int .i64 (k : Int) ∧ Blk wr w.heap.size 28 [.int .u64 (limb p 0 : Int), .int .u64 (limb p 1 : Int), .int .u64 (limb p 2 : Int), .int .u64 (limb p 3 : Int)] ∧ wr.ownsRow (w.heap.size + 1) 28 4 (.slice (some ⟨w.heap.size + 1, 0, none⟩) c c) c zs ∧ FRow c (fun t => if t < k then xs.getD t 0 else 0) zs ∧ Below w.heap.size w wr) (fun x _ => n1 - (intOf x).toNat)
  case atStart => exact ⟨0, _, Nat.zero_le _, rfl, F1.out, O1.out, P1.out, B1.out⟩
  case round =>
    obtain ⟨k, zs, hk, rfl, hp9, hown, hpr, hB⟩ := hrel
    have zB := hB.size
    have HB := hid hB
    have HPR := hid hpr
    clear hB hpr
    by_cases hlt : k < n1
    · obtain ⟨x1, hx1⟩ : ∃ x, xs[k]? = some x := ⟨xs[k]'(by rw [HN1.out]; exact hlt), List.getElem?_eq_getElem _⟩
      have HXD := hid (show xs.getD k 0 = x1 from getD_some hx1)
      obtain ⟨g1, off1, ha1, hat1⟩ : ∃ g off, a1 = some ⟨g, off, none⟩ ∧ NumsAt w g off xs := by
        rcases HR1.out with h | h
        · rw [h] at hx1; cases hx1
        · exact h
      subst ha1
      obtain ⟨_, e0, e1, e2, e3⟩ := hat1 k x1 hx1
      have hg1 : g1 < w.heap.size := World.block_lt_of_cell? w _ e0
      have hgr1 := Nat.lt_of_lt_of_le hg1 zB
      have d1_0 := (HB.out.cell (p := ⟨g1, off1 + k * 4, none⟩) hg1).trans e0
      have d1_1 := (HB.out.cell (p := ⟨g1, off1 + k * 4 + 1, none⟩) hg1).trans e1
      have d1_2 := (HB.out.cell (p := ⟨g1, off1 + k * 4 + 2, none⟩) hg1).trans e2
      have d1_3 := (HB.out.cell (p := ⟨g1, off1 + k * 4 + 3, none⟩) hg1).trans e3
      clear e0 e1 e2 e3 hat1
      clear hx1
      have zo : w.heap.size + 1 < wr.heap.size := (hown.lt _ rfl).2
      have zkc : (k : Int) < (c : Int) := by omega
      have zkc2 : k < c := by omega
      have t0 : wr.cell? ⟨w.heap.size + 1, k * 4, none⟩ = some (.int .u64 (limb 0 0 : Int)) := (hown.cellAt (k * 4) (by omega)).trans (by have q := HPR.out.2 k 0 (by omega) (by omega); simp only [Nat.lt_irrefl, if_false] at q; exact q)
      have t1 : wr.cell? ⟨w.heap.size + 1, k * 4 + 1, none⟩ = some (.int .u64 (limb 0 1 : Int)) := (hown.cellAt (k * 4 + 1) (by omega)).trans (by have q := HPR.out.2 k 1 (by omega) (by omega); simp only [Nat.lt_irrefl, if_false] at q; exact q)
      have t2 : wr.cell? ⟨w.heap.size + 1, k * 4 + 2, none⟩ = some (.int .u64 (limb 0 2 : Int)) := (hown.cellAt (k * 4 + 2) (by omega)).trans (by have q := HPR.out.2 k 2 (by omega) (by omega); simp only [Nat.lt_irrefl, if_false] at q; exact q)
      have t3 : wr.cell? ⟨w.heap.size + 1, k * 4 + 3, none⟩ = some (.int .u64 (limb 0 3 : Int)) := (hown.cellAt (k * 4 + 3) (by omega)).trans (by have q := HPR.out.2 k 3 (by omega) (by omega); simp only [Nat.lt_irrefl, if_false] at q; exact q)
      have v0 := hown.frozenAt (k * 4)
      have v1 := hown.frozenAt (k * 4 + 1)
      have v2 := hown.frozenAt (k * 4 + 2)
      have v3 := hown.frozenAt (k * 4 + 3)
      go_wp2
      go_roundw
      case rel => exact ⟨k + 1, _, by omega, by go_num, (((hp9.other _ _ (by dsimp only; omega)).other _ _ (by dsimp only; omega)).other _ _ (by dsimp only; omega)).other _ _ (by dsimp only; omega), ((((hown.stored (k * 4) _).1.stored (k * 4 + 1) _).1.stored (k * 4 + 2) _).1.stored (k * 4 + 3) _).1, copy_store HPR.out (by omega) HXD.out, (((HB.out.setCell (by dsimp only; omega) _).setCell (by dsimp only; omega) _).setCell (by dsimp only; omega) _).setCell (by dsimp only; omega) _⟩
      case measure => simp [intOf]; omega
    · obtain rfl : k = n1 := by omega
      have P2 := hid (HPR.out.congr (g := fun t => if t < 0 then addm p (xs.getD t 0) (ys.getD t 0) else xs.getD t 0) (fun t _ => by
        rw [if_neg (by omega)]
        by_cases l : t < k
        · rw [if_pos l]
        · rw [if_neg l, getD_none (by rw [HN1.out]; omega)]))
      clear HPR
      go_wp2
      go_loopw [9] (fun x wr => ∃ (j : Nat) (zs : List Value), j ≤ n2 ∧ x = .int .i64 (j : Int) ∧ Blk wr w.heap.size 28 [.int .u64 (limb p 0 : Int), .int .u64 (limb p 1 : Int), .int .u64 (limb p 2 : Int), .int .u64 (limb p 3 : Int)] ∧ wr.ownsRow (w.heap.size + 1) 28 4 (.slice (some ⟨w.heap.size + 1, 0, none⟩) c c) c zs ∧ FRow c (fun t => if t < j then addm p (xs.getD t 0) (ys.getD t 0) else xs.getD t 0) zs ∧ Below w.heap.size w wr) (fun x _ => n2 - (intOf x).toNat)
      case atStart => exact ⟨0, _, Nat.zero_le _, rfl, hp9, hown, P2.out, HB.out⟩
      case round =>
        clear hp9 hown zB HB P2 zs hlt
        rename_i kk _ _
        obtain ⟨k, zs, hk2, rfl, hp9, hown, hpr, hB⟩ := hrel
        have zB := hB.size
        have HB := hid hB
        have HPR := hid hpr
        clear hB hpr
        by_cases hlt : k < n2
        · obtain ⟨x2, hx2⟩ : ∃ x, ys[k]? = some x := ⟨ys[k]'(by rw [HN2.out]; exact hlt), List.getElem?_eq_getElem _⟩
          have HYD := hid (show ys.getD k 0 = x2 from getD_some hx2)
          have hym := hys.out x2 (List.mem_of_getElem? hx2)
          obtain ⟨r, hr⟩ : ∃ r, xs.getD k 0 = r := ⟨_, rfl⟩
          have HRV := hid hr
          have hrm : r < p := by rw [← hr]; exact getD_lt (by have := H1.out; omega) hxs.out k
          have M2 := hid (radd_any p r x2 HP.out hrm hym)
          clear hr
          obtain ⟨g2, off2, ha2, hat2⟩ : ∃ g off, a2 = some ⟨g, off, none⟩ ∧ NumsAt w g off ys := by
            rcases HR2.out with h | h
            · rw [h] at hx2; cases hx2
            · exact h
          subst ha2
          obtain ⟨_, e0, e1, e2, e3⟩ := hat2 k x2 hx2
          have hg2 : g2 < w.heap.size := World.block_lt_of_cell? w _ e0
          have hgr2 := Nat.lt_of_lt_of_le hg2 zB
          have d2_0 := (HB.out.cell (p := ⟨g2, off2 + k * 4, none⟩) hg2).trans e0
          have d2_1 := (HB.out.cell (p := ⟨g2, off2 + k * 4 + 1, none⟩) hg2).trans e1
          have d2_2 := (HB.out.cell (p := ⟨g2, off2 + k * 4 + 2, none⟩) hg2).trans e2
          have d2_3 := (HB.out.cell (p := ⟨g2, off2 + k * 4 + 3, none⟩) hg2).trans e3
          clear e0 e1 e2 e3 hat2
          clear hx2
          have zo : w.heap.size + 1 < wr.heap.size := (hown.lt _ rfl).2
          have zp := hp9.lt
          have p0 := hp9.cell (i := 0) rfl
          have p1 := hp9.cell (i := 1) rfl
          have p2 := hp9.cell (i := 2) rfl
          have p3 := hp9.cell (i := 3) rfl
          have zkc : (k : Int) < (c : Int) := by omega
          have zkc2 : k < c := by omega
          have hrow : ∀ j, j < 4 → zs[k * 4 + j]? = some (.int .u64 (limb r j : Int)) := fun j hj => by have q := HPR.out.2 k j (by omega) hj; simp only [Nat.lt_irrefl, if_false] at q; rw [← HRV.out]; exact q
          have r0 : wr.cell? ⟨w.heap.size + 1, k * 4, none⟩ = some (.int .u64 (limb r 0 : Int)) := (hown.cellAt (k * 4) (by omega)).trans (hrow 0 (by omega))
          have r1 : wr.cell? ⟨w.heap.size + 1, k * 4 + 1, none⟩ = some (.int .u64 (limb r 1 : Int)) := (hown.cellAt (k * 4 + 1) (by omega)).trans (hrow 1 (by omega))
          have r2 : wr.cell? ⟨w.heap.size + 1, k * 4 + 2, none⟩ = some (.int .u64 (limb r 2 : Int)) := (hown.cellAt (k * 4 + 2) (by omega)).trans (hrow 2 (by omega))
          have r3 : wr.cell? ⟨w.heap.size + 1, k * 4 + 3, none⟩ = some (.int .u64 (limb r 3 : Int)) := (hown.cellAt (k * 4 + 3) (by omega)).trans (hrow 3 (by omega))
          have HROW := hid hrow
          clear hrow
          go_wp2
          refine wp_region_soft (C := fun W' => Below wr.heap.size wr W') 12 (by kernel_rfl) (by kernel_rfl) ((Below.refl _ _).drew) ?_
          simp only [List.take_succ_cons, List.take_zero, List.drop_succ_cons, List.drop_zero]
          refine wpQuiet_step (fun K hK => ?_)
          rw [if_pos (by rfl)]
          refine ⟨.slice (some ⟨w.heap.size + 1, 0, none⟩) c c, fun W' hW => ?_, hK _ ?_⟩
          · go_simp
          clear hK K
          simp only [Act.put, List.setIfInBounds_toArray, List.set_cons_zero, List.set_cons_succ]
          refine wpQuiet_step (fun K hK => ?_)
          rw [if_pos (by rfl)]
          refine ⟨.int .i64 (k : Int), fun W' hW => ?_, hK _ ?_⟩
          · go_simp
          clear hK K
          simp only [Act.put, List.setIfInBounds_toArray, List.set_cons_zero, List.set_cons_succ]
          refine wpQuiet_step (fun K hK => ?_)
          rw [if_pos (by rfl)]
          refine ⟨vec p, fun W' hW => ?_, hK _ ?_⟩
          · have e0 := (hW.cell (p := ⟨w.heap.size, 0, none⟩) zp).trans p0
            have e1 := (hW.cell (p := ⟨w.heap.size, 1, none⟩) zp).trans p1
            have e2 := (hW.cell (p := ⟨w.heap.size, 2, none⟩) zp).trans p2
            have e3 := (hW.cell (p := ⟨w.heap.size, 3, none⟩) zp).trans p3
            go_simp
          clear hK K
          simp only [Act.put, List.setIfInBounds_toArray, List.set_cons_zero, List.set_cons_succ]
          refine wpQuiet_step (fun K hK => ?_)
          rw [if_pos (by rfl)]
          refine ⟨.slice (some ⟨w.heap.size + 1, 0, none⟩) c c, fun W' hW => ?_, hK _ ?_⟩
          · go_simp
          clear hK K
          simp only [Act.put, List.setIfInBounds_toArray, List.set_cons_zero, List.set_cons_succ]
          refine wpQuiet_step (fun K hK => ?_)
          rw [if_pos (by rfl)]
          refine ⟨.int .i64 (k : Int), fun W' hW => ?_, hK _ ?_⟩
          · go_simp
          clear hK K
          simp only [Act.put, List.setIfInBounds_toArray, List.set_cons_zero, List.set_cons_succ]
          refine wpQuiet_step (fun K hK => ?_)
          rw [if_pos (by rfl)]
          refine ⟨.pointer (some ⟨w.heap.size + 1, k * 4, none⟩), fun W' hW => ?_, hK _ ?_⟩
          · go_simp
          clear hK K
          simp only [Act.put, List.setIfInBounds_toArray, List.set_cons_zero, List.set_cons_succ]
          refine wpQuiet_step (fun K hK => ?_)
          rw [if_pos (by rfl)]
          refine ⟨vec r, fun W' hW => ?_, hK _ ?_⟩
          · have e0 := (hW.cell (p := ⟨w.heap.size + 1, k * 4, none⟩) zo).trans r0
            have e1 := (hW.cell (p := ⟨w.heap.size + 1, k * 4 + 1, none⟩) zo).trans r1
            have e2 := (hW.cell (p := ⟨w.heap.size + 1, k * 4 + 2, none⟩) zo).trans r2
            have e3 := (hW.cell (p := ⟨w.heap.size + 1, k * 4 + 3, none⟩) zo).trans r3
            go_simp
          clear hK K
          simp only [Act.put, List.setIfInBounds_toArray, List.set_cons_zero, List.set_cons_succ]
          refine wpQuiet_step (fun K hK => ?_)
          rw [if_pos (by rfl)]
          refine ⟨.slice (some ⟨g2, off2, none⟩) n2 cap2, fun W' hW => ?_, hK _ ?_⟩
          · go_simp
          clear hK K
          simp only [Act.put, List.setIfInBounds_toArray, List.set_cons_zero, List.set_cons_succ]
          refine wpQuiet_step (fun K hK => ?_)
          rw [if_pos (by rfl)]
          refine ⟨.int .i64 (k : Int), fun W' hW => ?_, hK _ ?_⟩
          · go_simp
          clear hK K
          simp only [Act.put, List.setIfInBounds_toArray, List.set_cons_zero, List.set_cons_succ]
          refine wpQuiet_step (fun K hK => ?_)
          rw [if_pos (by rfl)]
          refine ⟨.pointer (some ⟨g2, off2 + k * 4, none⟩), fun W' hW => ?_, hK _ ?_⟩
          · go_simp
          clear hK K
          simp only [Act.put, List.setIfInBounds_toArray, List.set_cons_zero, List.set_cons_succ]
          refine wpQuiet_step (fun K hK => ?_)
          rw [if_pos (by rfl)]
          refine ⟨vec x2, fun W' hW => ?_, hK _ ?_⟩
          · have e0 := (hW.cell (p := ⟨g2, off2 + k * 4, none⟩) hgr2).trans d2_0
            have e1 := (hW.cell (p := ⟨g2, off2 + k * 4 + 1, none⟩) hgr2).trans d2_1
            have e2 := (hW.cell (p := ⟨g2, off2 + k * 4 + 2, none⟩) hgr2).trans d2_2
            have e3 := (hW.cell (p := ⟨g2, off2 + k * 4 + 3, none⟩) hgr2).trans d2_3
            go_simp
          clear hK K
          simp only [Act.put, List.setIfInBounds_toArray, List.set_cons_zero, List.set_cons_succ]
          refine wpQuiet_step (fun K hK => ?_)
          rw [if_pos (by rfl)]
          refine ⟨vec (addm p r x2), fun W' hW => ?_, hK _ ?_⟩
          · go_simp
            refine (M2.out _).mono ?_
            rintro e w' ⟨rfl, b⟩
            exact ⟨rfl, hW.trans (b.mono hW.size)⟩
          clear hK K
          simp only [Act.put, List.setIfInBounds_toArray, List.set_cons_zero, List.set_cons_succ]
          refine wpQuiet_nil ?_
          intro W3 hW3
          have kp := hp9.below hW3 zp
          have ko := owns_keep hown hW3
          have B3 := hid (HB.out.trans (hW3.mono zB))
          have zW3 := hW3.size
          have zo3 : w.heap.size + 1 < W3.heap.size := (ko.lt _ rfl).2
          have t0 : W3.cell? ⟨w.heap.size + 1, k * 4, none⟩ = some (.int .u64 (limb r 0 : Int)) := (ko.cellAt (k * 4) (by omega)).trans (HROW.out 0 (by omega))
          have t1 : W3.cell? ⟨w.heap.size + 1, k * 4 + 1, none⟩ = some (.int .u64 (limb r 1 : Int)) := (ko.cellAt (k * 4 + 1) (by omega)).trans (HROW.out 1 (by omega))
          have t2 : W3.cell? ⟨w.heap.size + 1, k * 4 + 2, none⟩ = some (.int .u64 (limb r 2 : Int)) := (ko.cellAt (k * 4 + 2) (by omega)).trans (HROW.out 2 (by omega))
          have t3 : W3.cell? ⟨w.heap.size + 1, k * 4 + 3, none⟩ = some (.int .u64 (limb r 3 : Int)) := (ko.cellAt (k * 4 + 3) (by omega)).trans (HROW.out 3 (by omega))
          have v0 := ko.frozenAt (k * 4)
          have v1 := ko.frozenAt (k * 4 + 1)
          have v2 := ko.frozenAt (k * 4 + 2)
          have v3 := ko.frozenAt (k * 4 + 3)
          obtain ⟨q2, hr2⟩ : ∃ r2, addm p r x2 = r2 := ⟨_, rfl⟩
          have HR2 := hid hr2
          rw [hr2]
          clear hr2
          go_wp2
          go_roundw
          case rel => exact ⟨k + 1, _, by omega, by go_num, (((kp.other _ _ (by dsimp only; omega)).other _ _ (by dsimp only; omega)).other _ _ (by dsimp only; omega)).other _ _ (by dsimp only; omega), ((((ko.stored (k * 4) _).1.stored (k * 4 + 1) _).1.stored (k * 4 + 2) _).1.stored (k * 4 + 3) _).1, add_store HPR.out (by omega) HRV.out HYD.out HR2.out, (((B3.out.setCell (by dsimp only; omega) _).setCell (by dsimp only; omega) _).setCell (by dsimp only; omega) _).setCell (by dsimp only; omega) _⟩
          case measure => simp [intOf]; omega
        · obtain rfl : k = n2 := by omega
          have HDN := hid (show zs = nums (paddV p xs ys) by
            rw [HPD.out]
            refine (HPR.out.congr (fun t _ => ?_)).done
            by_cases l : t < k
            · rw [if_pos l]
            · rw [if_neg l, getD_none (xs := ys) (by rw [HN2.out]; omega), addm_zero (getD_lt (by have := H1.out; omega) hxs.out t)])
          have HOW := hid hown
          clear hown
          go_wp2
          go_ret
          refine ⟨_, rfl, ?_, HB.out⟩
          rw [← HDN.out]
          exact owns_mono HOW.out (by omega)
theorem rpadd_any (p : Nat) (v1 v2 : Value) (xs ys : List Nat) (w : World) (hp : p < B256) (h1 : 1 < p) (hS1 : NumSl w v1 xs) (hS2 : NumSl w v2 ys) (hxs : Hid (∀ y ∈ xs, y < p)) (hys : Hid (∀ y ∈ ys, y < p)) (hl1 : xs.length < 100000) (hl2 : ys.length < 100000) :
    Calls Tryd.prog 82 #[vec p, v1, v2] w (RetOwn 28 4 (max xs.length ys.length) (nums (paddV p xs ys)) w) := by
  by_cases hm : xs.length < ys.length
  · exact rpadd_lt p v1 v2 xs ys w hp h1 hS1 hS2 hxs hys hl1 hl2 hm
  · exact rpadd_ge p v1 v2 xs ys w hp h1 hS1 hS2 hxs hys hl1 hl2 hm
end Go.Proofs.YtogenbggjodcnaaDoor
/-
  Sums, products and multiples of polynomials: their results as slices of numbers.
-/
namespace Go.Proofs.YtogenbggjodcnaaDoor
open Go.RowKit

/-- A slice of numbers; what was there stays. -/
def RetSl (zs : List Nat) (w : World) : Ending → World → Prop := fun e w' => ∃ v, e = .returned v ∧ NumSl w' v zs ∧ Below w.heap.size w w'
theorem NumSl.nil (w : World) : NumSl w (.slice none 0 0) [] := ⟨none, 0, rfl, Nat.le_refl _, .inl rfl⟩
theorem RetSl.own {t : TypeId} {n : Nat} {zs : List Nat} {w : World} {e : Ending} {w' : World} (h : RetOwn t 4 n (nums zs) w e w') (hn : zs.length = n) (hz : ∀ z ∈ zs, z < B256) : RetSl zs w e w' := by
  obtain ⟨v, rfl, h1, h2⟩ := h
  exact ⟨v, rfl, nums_own (by rw [hn]; exact h1) hz, h2⟩
theorem pmulF_lt {m : Nat} (xs ys : List Nat) (hm : 0 < m) : ∀ y ∈ pmulF m xs ys, y < m := by
  intro y hy
  unfold pmulF at hy
  split at hy
  · cases hy
  · obtain ⟨t, _, rfl⟩ := List.mem_map.1 hy; exact pacc_lt _ _ hm _ _
theorem pmulF_len {m : Nat} {xs ys : List Nat} (hx : xs ≠ []) (hy : ys ≠ []) : (pmulF m xs ys).length = xs.length + ys.length - 1 := by
  unfold pmulF; rw [if_neg (fun h => h.elim hx hy)]; simp
theorem pmulV_len {m : Nat} {xs ys : List Nat} (hx : xs ≠ []) (hy : ys ≠ []) : (pmulV m xs ys).length = xs.length + ys.length - 1 := by
  rw [pmulV_eq hx hy]; simp
set_option maxRecDepth 100000 in
theorem pmul_nil1 (id : Int) (m inv o s n2 cap1 cap2 : Nat) (a1 a2 : Option Addr) (w : World) :
    Calls Tryd.prog 76 #[.pointer none, fld id m inv o s, .slice a1 0 cap1, .slice a2 n2 cap2] w (RetSl [] w) := by
  go_enter Tryd.func76, Tryd.ntmps76
  go_wp2
  go_ret
  exact ⟨_, rfl, NumSl.nil _, by go_grown⟩
set_option maxRecDepth 100000 in
theorem pmul_nil2 (id : Int) (m inv o s n1 cap1 cap2 : Nat) (a1 a2 : Option Addr) (w : World) (h1 : ((n1 : Int) == 0) = false) :
    Calls Tryd.prog 76 #[.pointer none, fld id m inv o s, .slice a1 n1 cap1, .slice a2 0 cap2] w (RetSl [] w) := by
  go_enter Tryd.func76, Tryd.ntmps76
  go_wp2
  go_ret
  exact ⟨_, rfl, NumSl.nil _, by go_grown⟩
set_option maxRecDepth 100000 in
theorem rpmul_nil1 (p n2 cap1 cap2 : Nat) (a1 a2 : Option Addr) (w : World) :
    Calls Tryd.prog 78 #[vec p, .slice a1 0 cap1, .slice a2 n2 cap2] w (RetSl [] w) := by
  go_enter Tryd.func78, Tryd.ntmps78
  go_wp2
  go_ret
  exact ⟨_, rfl, NumSl.nil _, by go_grown⟩
set_option maxRecDepth 100000 in
theorem rpmul_nil2 (p n1 cap1 cap2 : Nat) (a1 a2 : Option Addr) (w : World) (h1 : ((n1 : Int) == 0) = false) :
    Calls Tryd.prog 78 #[vec p, .slice a1 n1 cap1, .slice a2 0 cap2] w (RetSl [] w) := by
  go_enter Tryd.func78, Tryd.ntmps78
  go_wp2
  go_ret
  exact ⟨_, rfl, NumSl.nil _, by go_grown⟩
theorem pmul_sl (id : Int) (m inv o s : Nat) (v1 v2 : Value) (xs ys : List Nat) (w : World) (hF : Hid (FieldOK m inv)) (hS1 : NumSl w v1 xs) (hS2 : NumSl w v2 ys) (hxs : Hid (∀ y ∈ xs, y < m)) (hys : Hid (∀ y ∈ ys, y < m)) (hl1 : xs.length < 100000) (hl2 : ys.length < 100000) :
    Calls Tryd.prog 76 #[.pointer none, fld id m inv o s, v1, v2] w (RetSl (pmulF m xs ys) w) := by
  have hm2 := hF.out.2.1
  have h1 := hS1
  have h2 := hS2
  obtain ⟨a1, c1, rfl, _, _⟩ := h1
  obtain ⟨a2, c2, rfl, _, _⟩ := h2
  rcases Nat.eq_zero_or_pos xs.length with e1 | e1
  · have hx : xs = [] := List.length_eq_zero_iff.1 e1
    rw [e1, show pmulF m xs ys = [] from by unfold pmulF; rw [if_pos (.inl hx)]]
    exact pmul_nil1 id m inv o s _ _ _ _ _ w
  · have hx : xs ≠ [] := fun e => by rw [e] at e1; exact Nat.lt_irrefl _ e1
    rcases Nat.eq_zero_or_pos ys.length with e2 | e2
    · have hy : ys = [] := List.length_eq_zero_iff.1 e2
      rw [e2, show pmulF m xs ys = [] from by unfold pmulF; rw [if_pos (.inr hy)]]
      exact pmul_nil2 id m inv o s _ _ _ _ _ w (by simp; omega)
    · have hy : ys ≠ [] := fun e => by rw [e] at e2; exact Nat.lt_irrefl _ e2
      obtain ⟨n1, hn1⟩ : ∃ n, xs.length = n + 1 := ⟨xs.length - 1, by omega⟩
      obtain ⟨n2, hn2⟩ : ∃ n, ys.length = n + 1 := ⟨ys.length - 1, by omega⟩
      rw [hn1] at hS1 ⊢
      rw [hn2] at hS2 ⊢
      exact (pmul_pos id m inv o s n1 n2 c1 c2 a1 a2 xs ys w hF hS1 hS2 hxs hys hn1 hn2 (by omega) (by omega)).mono fun e w' h => RetSl.own h rfl (fun z hz => Nat.lt_trans (pmulF_lt xs ys (by omega) z hz) hF.out.1)
theorem rpmul_sl (p : Nat) (v1 v2 : Value) (xs ys : List Nat) (w : World) (hp : p < B256) (hp1 : 1 < p) (hS1 : NumSl w v1 xs) (hS2 : NumSl w v2 ys) (hxs : Hid (∀ y ∈ xs, y < p)) (hys : Hid (∀ y ∈ ys, y < p)) (hl1 : xs.length < 100000) (hl2 : ys.length < 100000) :
    Calls Tryd.prog 78 #[vec p, v1, v2] w (RetSl (pmulV p xs ys) w) := by
  have h1 := hS1
  have h2 := hS2
  obtain ⟨a1, c1, rfl, _, _⟩ := h1
  obtain ⟨a2, c2, rfl, _, _⟩ := h2
  rcases Nat.eq_zero_or_pos xs.length with e1 | e1
  · have hx : xs = [] := List.length_eq_zero_iff.1 e1
    rw [e1, show pmulV p xs ys = [] from by unfold pmulV; rw [if_pos (.inl hx)]]
    exact rpmul_nil1 p _ _ _ _ _ w
  · have hx : xs ≠ [] := fun e => by rw [e] at e1; exact Nat.lt_irrefl _ e1
    rcases Nat.eq_zero_or_pos ys.length with e2 | e2
    · have hy : ys = [] := List.length_eq_zero_iff.1 e2
      rw [e2, show pmulV p xs ys = [] from by unfold pmulV; rw [if_pos (.inr hy)]]
      exact rpmul_nil2 p _ _ _ _ _ w (by simp; omega)
    · have hy : ys ≠ [] := fun e => by rw [e] at e2; exact Nat.lt_irrefl _ e2
      have hlen := pmulV_len (m := p) hx hy
      obtain ⟨n1, hn1⟩ : ∃ n, xs.length = n + 1 := ⟨xs.length - 1, by omega⟩
      obtain ⟨n2, hn2⟩ : ∃ n, ys.length = n + 1 := ⟨ys.length - 1, by omega⟩
      rw [hn1] at hS1 ⊢
      rw [hn2] at hS2 ⊢
      exact (rpmul_pos p n1 n2 c1 c2 a1 a2 xs ys w hp hp1 hS1 hS2 hxs hys hn1 hn2 (by omega) (by omega)).mono fun e w' h => RetSl.own h (by omega) (fun z hz => Nat.lt_trans (pmulV_lt xs ys (by omega) z hz) hp)
theorem padd_sl (id : Int) (m inv o s : Nat) (v1 v2 : Value) (xs ys : List Nat) (w : World) (hF : Hid (FieldOK m inv)) (hS1 : NumSl w v1 xs) (hS2 : NumSl w v2 ys) (hxs : ∀ y ∈ xs, y < m) (hys : ∀ y ∈ ys, y < m) (hl1 : xs.length < 1000000) (hl2 : ys.length < 1000000) :
    Calls Tryd.prog 79 #[.pointer none, fld id m inv o s, v1, v2] w (RetSl (paddV m xs ys) w) :=
  (padd_any id m inv o s v1 v2 xs ys w hF hS1 hS2 hxs hys hl1 hl2).mono fun e w' h => RetSl.own h (paddV_len _ _ _) (fun z hz => Nat.lt_trans (paddV_lt xs ys (by have := hF.out.2.1; omega) z hz) hF.out.1)
theorem rpadd_sl (p : Nat) (v1 v2 : Value) (xs ys : List Nat) (w : World) (hp : p < B256) (h1 : 1 < p) (hS1 : NumSl w v1 xs) (hS2 : NumSl w v2 ys) (hxs : Hid (∀ y ∈ xs, y < p)) (hys : Hid (∀ y ∈ ys, y < p)) (hl1 : xs.length < 100000) (hl2 : ys.length < 100000) :
    Calls Tryd.prog 82 #[vec p, v1, v2] w (RetSl (paddV p xs ys) w) :=
  (rpadd_any p v1 v2 xs ys w hp h1 hS1 hS2 hxs hys hl1 hl2).mono fun e w' h => RetSl.own h (paddV_len _ _ _) (fun z hz => Nat.lt_trans (paddV_lt xs ys (by omega) z hz) hp)
theorem scale_sl (id : Int) (m inv o s x : Nat) (v : Value) (xs : List Nat) (w : World) (hF : Hid (FieldOK m inv)) (hx : Hid (x < m)) (hS : NumSl w v xs) (hxs : ∀ y ∈ xs, y < m) (hl : xs.length < 1000000) :
    Calls Tryd.prog 80 #[.pointer none, fld id m inv o s, v, vec x] w (RetSl (pscl m x xs) w) :=
  (scale_any id m inv o s x v xs w hF hx hS hxs hl).mono fun e w' h => RetSl.own h (by simp [pscl]) (fun z hz => by
    obtain ⟨y, _, rfl⟩ := List.mem_map.1 hz
    exact Nat.lt_trans (mont_lt _ _ (by have := hF.out.2.1; omega)) hF.out.1)
/-- The multiple of forms. -/
theorem pscl_forms {m : Nat} (h : ∃ y, B256 * y % m = 1) (x : Nat) (vs : List Nat) : pscl m (frm m x) (vs.map (frm m)) = (vs.map fun y => mulm m y x).map (frm m) := by
  unfold pscl
  rw [List.map_map, List.map_map]
  exact List.map_congr_left fun y _ => frm_mulm h y x
end Go.Proofs.YtogenbggjodcnaaDoor
