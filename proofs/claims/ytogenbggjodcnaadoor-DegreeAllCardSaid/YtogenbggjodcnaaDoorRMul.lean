/-
  The reference's product of two polynomials.
-/
import Derived.Test.YtogenbggjodcnaaDoorRefV
import Derived.Test.YtogenbggjodcnaaDoorPolys
import Derived.Test.YtogenbggjodcnaaDoorVals08
import Derived.Test.YtogenbggjodcnaaDoorKit
import Derived.OwnWalk
namespace Go.Proofs.YtogenbggjodcnaaDoor
open Go.RowKit

set_option maxRecDepth 100000 in
set_option maxHeartbeats 2000000 in
theorem rpmul_pos (p n1 n2 cap1 cap2 : Nat) (a1 a2 : Option Addr) (xs ys : List Nat) (w : World) (hp : p < B256) (h1 : 1 < p) (hS1 : NumSl w (.slice a1 (n1 + 1) cap1) xs) (hS2 : NumSl w (.slice a2 (n2 + 1) cap2) ys) (hxs : Hid (∀ y ∈ xs, y < p)) (hys : Hid (∀ y ∈ ys, y < p)) (hn1 : xs.length = n1 + 1) (hn2 : ys.length = n2 + 1) (hl1 : n1 < 100000) (hl2 : n2 < 100000) :
    Calls Tryd.prog 78 #[vec p, .slice a1 (n1 + 1) cap1, .slice a2 (n2 + 1) cap2] w (RetOwn 28 4 (n1 + n2 + 1) (nums (pmulV p xs ys)) w) := by
  obtain ⟨i0, hi, hz0, hz1, hz2⟩ := info_parts info_v4
  have hx0 : xs ≠ [] := fun e => by rw [e] at hn1; cases hn1
  have hy0 : ys ≠ [] := fun e => by rw [e] at hn2; cases hn2
  obtain ⟨c, hc⟩ : ∃ c, n1 + n2 + 1 = c := ⟨_, rfl⟩
  obtain ⟨g1, off1, ha1, hat1⟩ : ∃ g off, a1 = some ⟨g, off, none⟩ ∧ NumsAt w g off xs := by
    obtain ⟨a', c', e, _, h | h⟩ := hS1
    · exact absurd h hx0
    · simp only [Value.slice.injEq] at e; rw [e.1]; exact h
  obtain ⟨g2, off2, ha2, hat2⟩ : ∃ g off, a2 = some ⟨g, off, none⟩ ∧ NumsAt w g off ys := by
    obtain ⟨a', c', e, _, h | h⟩ := hS2
    · exact absurd h hy0
    · simp only [Value.slice.injEq] at e; rw [e.1]; exact h
  subst ha1 ha2
  obtain ⟨N1, hN1⟩ : ∃ N, n1 + 1 = N := ⟨_, rfl⟩
  obtain ⟨N2, hN2⟩ : ∃ N, n2 + 1 = N := ⟨_, rfl⟩
  rw [hN1, hN2, hc]
  have hd1 : ((N1 : Int) == 0) = false := by simp; omega
  have hd2 : ((N2 : Int) == 0) = false := by simp; omega
  have hsum : (N1 : Int) + (N2 : Int) - 1 = (c : Int) := by omega
  have HAT1 := hid hat1
  have HAT2 := hid hat2
  have HN1 := hid (show xs.length = N1 by omega)
  have HN2 := hid (show ys.length = N2 by omega)
  have HX0 := hid hx0
  have HY0 := hid hy0
  have HP := hid hp
  have H1 := hid h1
  clear hS1 hS2 hat1 hat2 hn1 hn2 hx0 hy0 hp h1
  go_enter Tryd.func78, Tryd.ntmps78
  go_wp2_with (at_make; refine wpList_make_full _ rfl _ _ 23 rfl (w.heap.size + 1) 28 i0 _ 4 Tryd.underlying23 hi hz0 hz1 .i64 .i64 _ _ c rfl rfl (by first | rfl | omega) (by first | rfl | omega) (by rw [hz2]; omega) (by unfold maxLen; omega) (by simp) ?_; intro w1 hown1 hgrow1)
  have B1 := hid (Below.grown ((Below.refl w.heap.size w).alloc (Nat.le_refl _) (.cells #[.int .u64 (limb p 0 : Int), .int .u64 (limb p 1 : Int), .int .u64 (limb p 2 : Int), .int .u64 (limb p 3 : Int)] 28)) hgrow1 (by simp) (fun j hj => by cases hj))
  have F1 := hid (show Blk w1 w.heap.size 28 [.int .u64 (limb p 0 : Int), .int .u64 (limb p 1 : Int), .int .u64 (limb p 2 : Int), .int .u64 (limb p 3 : Int)] from Blk.grown (Blk.new rfl) hgrow1 (by simp))
  have hw0 : (w.alloc (.cells #[.int .u64 (limb p 0 : Int), .int .u64 (limb p 1 : Int), .int .u64 (limb p 2 : Int), .int .u64 (limb p 3 : Int)] 28)).heap.size = w.heap.size + 1 := by simp
  rw [hw0] at hown1
  have O1 := hid hown1
  have P1 := hid ((FRow.zero c _ (by rw [Array.length_toList]; exact size_madeCells _ _) (fun t j ht hj => made_zeros c t j ht hj)).congr (g := fun t => rowV p xs ys 0 0 t (paccV p xs ys 0 t)) (fun t _ => by rw [rowV_zero]; rfl))
  clear hown1 hgrow1 hi hz0 hz1 hz2 hd1 hd2 hsum
  clear hw0
  go_loopw [8] (fun x wr => ∃ (i : Nat) (zs : List Value), i ≤ N1 ∧ x = .int .i64 (i : Int) ∧ Blk wr w.heap.size 28 [.int .u64 (limb p 0 : Int), .int .u64 (limb p 1 : Int), .int .u64 (limb p 2 : Int), .int .u64 (limb p 3 : Int)] ∧ wr.ownsRow (w.heap.size + 1) 28 4 (.slice (some ⟨w.heap.size + 1, 0, none⟩) c c) c zs ∧ FRow c (fun t => rowV p xs ys i 0 t (paccV p xs ys i t)) zs ∧ Below w.heap.size w wr) (fun x _ => N1 - (intOf x).toNat)
  case atStart => exact ⟨0, _, Nat.zero_le _, rfl, F1.out, O1.out, P1.out, B1.out⟩
  case round =>
    obtain ⟨i, zs, hiN, rfl, hp9, hown, hpr, hB⟩ := hrel
    have zB := hB.size
    have HB0 := hid hB
    have HPR0 := hid hpr
    clear hB hpr
    by_cases hlt : i < N1
    · obtain ⟨x, hx⟩ : ∃ x, xs[i]? = some x := ⟨xs[i]'(by rw [HN1.out]; exact hlt), List.getElem?_eq_getElem _⟩
      have hxm := hxs.out x (List.mem_of_getElem? hx)
      have HXD := hid (show xs.getD i 0 = x from getD_some hx)
      have HXA := hid (HAT1.out i x hx)
      clear hx
      go_wp2
      go_loopw [9] (fun y wy => ∃ (k : Nat) (zs : List Value), k ≤ N2 ∧ y = .int .i64 (k : Int) ∧ Blk wy w.heap.size 28 [.int .u64 (limb p 0 : Int), .int .u64 (limb p 1 : Int), .int .u64 (limb p 2 : Int), .int .u64 (limb p 3 : Int)] ∧ wy.ownsRow (w.heap.size + 1) 28 4 (.slice (some ⟨w.heap.size + 1, 0, none⟩) c c) c zs ∧ FRow c (fun t => rowV p xs ys i k t (paccV p xs ys i t)) zs ∧ Below w.heap.size w wy) (fun y _ => N2 - (intOf y).toNat)
      case atStart => exact ⟨0, zs, Nat.zero_le _, rfl, hp9, hown, HPR0.out, HB0.out⟩
      case round =>
        clear hp9 hown zB HB0 HPR0
        obtain ⟨k, zs, hkN, rfl, hp9, hown, hpr, hB⟩ := hrel
        have zB := hB.size
        have HB := hid hB
        have HPR := hid hpr
        clear hB hpr
        by_cases hlk : k < N2
        · obtain ⟨y, hy⟩ : ∃ y, ys[k]? = some y := ⟨ys[k]'(by rw [HN2.out]; exact hlk), List.getElem?_eq_getElem _⟩
          have hym := hys.out y (List.mem_of_getElem? hy)
          have HYD := hid (show ys.getD k 0 = y from getD_some hy)
          obtain ⟨_, x0, x1, x2, x3⟩ := HXA.out
          have hg1 : g1 < w.heap.size := World.block_lt_of_cell? w _ x0
          have hgr := Nat.lt_of_lt_of_le hg1 zB
          have d0 := (HB.out.cell (p := ⟨g1, off1 + i * 4, none⟩) hg1).trans x0
          have d1 := (HB.out.cell (p := ⟨g1, off1 + i * 4 + 1, none⟩) hg1).trans x1
          have d2 := (HB.out.cell (p := ⟨g1, off1 + i * 4 + 2, none⟩) hg1).trans x2
          have d3 := (HB.out.cell (p := ⟨g1, off1 + i * 4 + 3, none⟩) hg1).trans x3
          obtain ⟨_, e0, e1, e2, e3⟩ := HAT2.out k y hy
          have hg2 : g2 < w.heap.size := World.block_lt_of_cell? w _ e0
          have hgr2 := Nat.lt_of_lt_of_le hg2 zB
          have dd0 := (HB.out.cell (p := ⟨g2, off2 + k * 4, none⟩) hg2).trans e0
          have dd1 := (HB.out.cell (p := ⟨g2, off2 + k * 4 + 1, none⟩) hg2).trans e1
          have dd2 := (HB.out.cell (p := ⟨g2, off2 + k * 4 + 2, none⟩) hg2).trans e2
          have dd3 := (HB.out.cell (p := ⟨g2, off2 + k * 4 + 3, none⟩) hg2).trans e3
          obtain ⟨u, hu⟩ : ∃ u, i + k = u := ⟨_, rfl⟩
          have zu : (i : Int) + (k : Int) = (u : Int) := by omega
          have zuc : (u : Int) < (c : Int) := by omega
          have zuc2 : u < c := by omega
          have zwu : IntKind.i64.wrap (u : Int) = (u : Int) := by rw [IntKind.wrap_i64]; omega
          have HUU := hid hu
          obtain ⟨r, hr⟩ : ∃ r, rowV p xs ys i k u (paccV p xs ys i u) = r := ⟨_, rfl⟩
          have HRV := hid hr
          have hrm : r < p := by rw [← hr]; exact rowV_lt _ _ _ _ _ (by omega) (paccV_lt _ _ (by omega) _ _)
          have M1 := hid (rmul_any p x y HP.out hxm (by have := HP.out; omega))
          have M2 := hid (radd_any p r (mulm p x y) HP.out hrm (mulm_lt _ _ (by omega)))
          clear e0 e1 e2 e3 x0 x1 x2 x3 hy hr
          have zo : w.heap.size + 1 < wr.heap.size := (hown.lt _ rfl).2
          have zp := hp9.lt
          have p0 := hp9.cell (i := 0) rfl
          have p1 := hp9.cell (i := 1) rfl
          have p2 := hp9.cell (i := 2) rfl
          have p3 := hp9.cell (i := 3) rfl
          have hrow : ∀ j, j < 4 → zs[u * 4 + j]? = some (.int .u64 (limb r j : Int)) := fun j hj => by have q := HPR.out.2 u j (by omega) hj; rw [← HRV.out]; exact q
          have r0 : wr.cell? ⟨w.heap.size + 1, u * 4, none⟩ = some (.int .u64 (limb r 0 : Int)) := (hown.cellAt (u * 4) (by omega)).trans (hrow 0 (by omega))
          have r1 : wr.cell? ⟨w.heap.size + 1, u * 4 + 1, none⟩ = some (.int .u64 (limb r 1 : Int)) := (hown.cellAt (u * 4 + 1) (by omega)).trans (hrow 1 (by omega))
          have r2 : wr.cell? ⟨w.heap.size + 1, u * 4 + 2, none⟩ = some (.int .u64 (limb r 2 : Int)) := (hown.cellAt (u * 4 + 2) (by omega)).trans (hrow 2 (by omega))
          have r3 : wr.cell? ⟨w.heap.size + 1, u * 4 + 3, none⟩ = some (.int .u64 (limb r 3 : Int)) := (hown.cellAt (u * 4 + 3) (by omega)).trans (hrow 3 (by omega))
          have HROW := hid hrow
          clear hrow
          go_wp2
          refine wp_region_soft (C := fun W' => Below wr.heap.size wr W') 22 (by kernel_rfl) (by kernel_rfl) ((Below.refl _ _).drew) ?_
          simp only [List.take_succ_cons, List.take_zero, List.drop_succ_cons, List.drop_zero]
          refine wpQuiet_step (fun K hK => ?_)
          rw [if_pos (by rfl)]
          refine ⟨.slice (some ⟨w.heap.size + 1, 0, none⟩) c c, fun W' hW => ?_, hK _ ?_⟩
          · go_simp
          clear hK K
          simp only [Act.put, List.setIfInBounds_toArray, List.set_cons_zero, List.set_cons_succ]
          refine wpQuiet_step (fun K hK => ?_)
          rw [if_pos (by rfl)]
          refine ⟨.int .i64 (i : Int), fun W' hW => ?_, hK _ ?_⟩
          · go_simp
          clear hK K
          simp only [Act.put, List.setIfInBounds_toArray, List.set_cons_zero, List.set_cons_succ]
          refine wpQuiet_step (fun K hK => ?_)
          rw [if_pos (by rfl)]
          refine ⟨.int .i64 (k : Int), fun W' hW => ?_, hK _ ?_⟩
          · go_simp
          clear hK K
          simp only [Act.put, List.setIfInBounds_toArray, List.set_cons_zero, List.set_cons_succ]
          refine wpQuiet_step (fun K hK => ?_)
          rw [if_pos (by rfl)]
          refine ⟨.int .i64 (u : Int), fun W' hW => ?_, hK _ ?_⟩
          · go_simp
          clear hK K
          simp only [Act.put, List.setIfInBounds_toArray, List.set_cons_zero, List.set_cons_succ]
          refine wpQuiet_step (fun K hK => ?_)
          rw [if_pos (by rfl)]
          refine ⟨vec p, fun W' hW => ?_, hK _ ?_⟩
          · have e0 := (hW.cell (p := ⟨w.heap.size, 0, none⟩) zp).trans p0
            have e1 := (hW.cell (p := ⟨w.heap.size, 1, none⟩) zp).trans p1
            have e2 := (hW.cell (p := ⟨w.heap.size, 2, none⟩) zp).trans p2
            have e3 := (hW.cell (p := ⟨w.heap.size, 3, none⟩) zp).trans p3
            go_simp
          clear hK K
          simp only [Act.put, List.setIfInBounds_toArray, List.set_cons_zero, List.set_cons_succ]
          refine wpQuiet_step (fun K hK => ?_)
          rw [if_pos (by rfl)]
          refine ⟨.slice (some ⟨w.heap.size + 1, 0, none⟩) c c, fun W' hW => ?_, hK _ ?_⟩
          · go_simp
          clear hK K
          simp only [Act.put, List.setIfInBounds_toArray, List.set_cons_zero, List.set_cons_succ]
          refine wpQuiet_step (fun K hK => ?_)
          rw [if_pos (by rfl)]
          refine ⟨.int .i64 (i : Int), fun W' hW => ?_, hK _ ?_⟩
          · go_simp
          clear hK K
          simp only [Act.put, List.setIfInBounds_toArray, List.set_cons_zero, List.set_cons_succ]
          refine wpQuiet_step (fun K hK => ?_)
          rw [if_pos (by rfl)]
          refine ⟨.int .i64 (k : Int), fun W' hW => ?_, hK _ ?_⟩
          · go_simp
          clear hK K
          simp only [Act.put, List.setIfInBounds_toArray, List.set_cons_zero, List.set_cons_succ]
          refine wpQuiet_step (fun K hK => ?_)
          rw [if_pos (by rfl)]
          refine ⟨.int .i64 (u : Int), fun W' hW => ?_, hK _ ?_⟩
          · go_simp
          clear hK K
          simp only [Act.put, List.setIfInBounds_toArray, List.set_cons_zero, List.set_cons_succ]
          refine wpQuiet_step (fun K hK => ?_)
          rw [if_pos (by rfl)]
          refine ⟨.pointer (some ⟨w.heap.size + 1, u * 4, none⟩), fun W' hW => ?_, hK _ ?_⟩
          · go_simp
          clear hK K
          simp only [Act.put, List.setIfInBounds_toArray, List.set_cons_zero, List.set_cons_succ]
          refine wpQuiet_step (fun K hK => ?_)
          rw [if_pos (by rfl)]
          refine ⟨vec r, fun W' hW => ?_, hK _ ?_⟩
          · have e0 := (hW.cell (p := ⟨w.heap.size + 1, u * 4, none⟩) zo).trans r0
            have e1 := (hW.cell (p := ⟨w.heap.size + 1, u * 4 + 1, none⟩) zo).trans r1
            have e2 := (hW.cell (p := ⟨w.heap.size + 1, u * 4 + 2, none⟩) zo).trans r2
            have e3 := (hW.cell (p := ⟨w.heap.size + 1, u * 4 + 3, none⟩) zo).trans r3
            go_simp
          clear hK K
          simp only [Act.put, List.setIfInBounds_toArray, List.set_cons_zero, List.set_cons_succ]
          refine wpQuiet_step (fun K hK => ?_)
          rw [if_pos (by rfl)]
          refine ⟨vec p, fun W' hW => ?_, hK _ ?_⟩
          · have e0 := (hW.cell (p := ⟨w.heap.size, 0, none⟩) zp).trans p0
            have e1 := (hW.cell (p := ⟨w.heap.size, 1, none⟩) zp).trans p1
            have e2 := (hW.cell (p := ⟨w.heap.size, 2, none⟩) zp).trans p2
            have e3 := (hW.cell (p := ⟨w.heap.size, 3, none⟩) zp).trans p3
            go_simp
          clear hK K
          simp only [Act.put, List.setIfInBounds_toArray, List.set_cons_zero, List.set_cons_succ]
          refine wpQuiet_step (fun K hK => ?_)
          rw [if_pos (by rfl)]
          refine ⟨.slice (some ⟨g1, off1, none⟩) N1 cap1, fun W' hW => ?_, hK _ ?_⟩
          · go_simp
          clear hK K
          simp only [Act.put, List.setIfInBounds_toArray, List.set_cons_zero, List.set_cons_succ]
          refine wpQuiet_step (fun K hK => ?_)
          rw [if_pos (by rfl)]
          refine ⟨.int .i64 (i : Int), fun W' hW => ?_, hK _ ?_⟩
          · go_simp
          clear hK K
          simp only [Act.put, List.setIfInBounds_toArray, List.set_cons_zero, List.set_cons_succ]
          refine wpQuiet_step (fun K hK => ?_)
          rw [if_pos (by rfl)]
          refine ⟨.pointer (some ⟨g1, off1 + i * 4, none⟩), fun W' hW => ?_, hK _ ?_⟩
          · go_simp
          clear hK K
          simp only [Act.put, List.setIfInBounds_toArray, List.set_cons_zero, List.set_cons_succ]
          refine wpQuiet_step (fun K hK => ?_)
          rw [if_pos (by rfl)]
          refine ⟨vec x, fun W' hW => ?_, hK _ ?_⟩
          · have e0 := (hW.cell (p := ⟨g1, off1 + i * 4, none⟩) hgr).trans d0
            have e1 := (hW.cell (p := ⟨g1, off1 + i * 4 + 1, none⟩) hgr).trans d1
            have e2 := (hW.cell (p := ⟨g1, off1 + i * 4 + 2, none⟩) hgr).trans d2
            have e3 := (hW.cell (p := ⟨g1, off1 + i * 4 + 3, none⟩) hgr).trans d3
            go_simp
          clear hK K
          simp only [Act.put, List.setIfInBounds_toArray, List.set_cons_zero, List.set_cons_succ]
          refine wpQuiet_step (fun K hK => ?_)
          rw [if_pos (by rfl)]
          refine ⟨.slice (some ⟨g2, off2, none⟩) N2 cap2, fun W' hW => ?_, hK _ ?_⟩
          · go_simp
          clear hK K
          simp only [Act.put, List.setIfInBounds_toArray, List.set_cons_zero, List.set_cons_succ]
          refine wpQuiet_step (fun K hK => ?_)
          rw [if_pos (by rfl)]
          refine ⟨.int .i64 (k : Int), fun W' hW => ?_, hK _ ?_⟩
          · go_simp
          clear hK K
          simp only [Act.put, List.setIfInBounds_toArray, List.set_cons_zero, List.set_cons_succ]
          refine wpQuiet_step (fun K hK => ?_)
          rw [if_pos (by rfl)]
          refine ⟨.pointer (some ⟨g2, off2 + k * 4, none⟩), fun W' hW => ?_, hK _ ?_⟩
          · go_simp
          clear hK K
          simp only [Act.put, List.setIfInBounds_toArray, List.set_cons_zero, List.set_cons_succ]
          refine wpQuiet_step (fun K hK => ?_)
          rw [if_pos (by rfl)]
          refine ⟨vec y, fun W' hW => ?_, hK _ ?_⟩
          · have e0 := (hW.cell (p := ⟨g2, off2 + k * 4, none⟩) hgr2).trans dd0
            have e1 := (hW.cell (p := ⟨g2, off2 + k * 4 + 1, none⟩) hgr2).trans dd1
            have e2 := (hW.cell (p := ⟨g2, off2 + k * 4 + 2, none⟩) hgr2).trans dd2
            have e3 := (hW.cell (p := ⟨g2, off2 + k * 4 + 3, none⟩) hgr2).trans dd3
            go_simp
          clear hK K
          simp only [Act.put, List.setIfInBounds_toArray, List.set_cons_zero, List.set_cons_succ]
          refine wpQuiet_step (fun K hK => ?_)
          rw [if_pos (by rfl)]
          refine ⟨vec (mulm p x y), fun W' hW => ?_, hK _ ?_⟩
          · go_simp
            refine (M1.out _).mono ?_
            rintro e w' ⟨rfl, b⟩
            exact ⟨rfl, hW.trans (b.mono hW.size)⟩
          clear hK K
          simp only [Act.put, List.setIfInBounds_toArray, List.set_cons_zero, List.set_cons_succ]
          refine wpQuiet_step (fun K hK => ?_)
          rw [if_pos (by rfl)]
          refine ⟨vec (addm p r (mulm p x y)), fun W' hW => ?_, hK _ ?_⟩
          · go_simp
            refine (M2.out _).mono ?_
            rintro e w' ⟨rfl, b⟩
            exact ⟨rfl, hW.trans (b.mono hW.size)⟩
          clear hK K
          simp only [Act.put, List.setIfInBounds_toArray, List.set_cons_zero, List.set_cons_succ]
          refine wpQuiet_nil ?_
          intro W3 hW3
          have kp := hp9.below hW3 zp
          have ko := owns_keep hown hW3
          have B3 := hid (HB.out.trans (hW3.mono zB))
          have zW3 := hW3.size
          have zo3 : w.heap.size + 1 < W3.heap.size := (ko.lt _ rfl).2
          have t0 : W3.cell? ⟨w.heap.size + 1, u * 4, none⟩ = some (.int .u64 (limb r 0 : Int)) := (ko.cellAt (u * 4) (by omega)).trans (HROW.out 0 (by omega))
          have t1 : W3.cell? ⟨w.heap.size + 1, u * 4 + 1, none⟩ = some (.int .u64 (limb r 1 : Int)) := (ko.cellAt (u * 4 + 1) (by omega)).trans (HROW.out 1 (by omega))
          have t2 : W3.cell? ⟨w.heap.size + 1, u * 4 + 2, none⟩ = some (.int .u64 (limb r 2 : Int)) := (ko.cellAt (u * 4 + 2) (by omega)).trans (HROW.out 2 (by omega))
          have t3 : W3.cell? ⟨w.heap.size + 1, u * 4 + 3, none⟩ = some (.int .u64 (limb r 3 : Int)) := (ko.cellAt (u * 4 + 3) (by omega)).trans (HROW.out 3 (by omega))
          have v0 := ko.frozenAt (u * 4)
          have v1 := ko.frozenAt (u * 4 + 1)
          have v2 := ko.frozenAt (u * 4 + 2)
          have v3 := ko.frozenAt (u * 4 + 3)
          obtain ⟨r2, hr2⟩ : ∃ r2, addm p r (mulm p x y) = r2 := ⟨_, rfl⟩
          have HR2 := hid hr2
          rw [hr2]
          clear hr2
          go_wp2
          go_roundw
          case rel => exact ⟨k + 1, _, by omega, by go_num, (((kp.other _ _ (by dsimp only; omega)).other _ _ (by dsimp only; omega)).other _ _ (by dsimp only; omega)).other _ _ (by dsimp only; omega), ((((ko.stored (u * 4) _).1.stored (u * 4 + 1) _).1.stored (u * 4 + 2) _).1.stored (u * 4 + 3) _).1, rowV_store HPR.out HUU.out (by omega) HRV.out HXD.out HYD.out HR2.out, (((B3.out.setCell (by dsimp only; omega) _).setCell (by dsimp only; omega) _).setCell (by dsimp only; omega) _).setCell (by dsimp only; omega) _⟩
          case measure => simp [intOf]; omega
        · obtain rfl : k = N2 := by omega
          have HPN := hid (HPR.out.congr (g := fun t => rowV p xs ys (i + 1) 0 t (paccV p xs ys (i + 1) t)) (fun t _ => by rw [rowV_zero, ← HN2.out]; rfl))
          go_wp2
          go_roundw
          case rel => exact ⟨i + 1, zs, by omega, by go_num, hp9, hown, HPN.out, HB.out⟩
          case measure => simp [intOf]; omega
    · obtain rfl : i = N1 := by omega
      have HDN := hid (show zs = nums (pmulV p xs ys) by
        rw [pmulV_eq HX0.out HY0.out, HN1.out, HN2.out, show i + N2 - 1 = c by omega]
        exact (HPR0.out.congr (g := paccV p xs ys i) (fun t _ => by rw [rowV_zero])).done)
      have HOW := hid hown
      clear hown
      go_wp2
      go_ret
      refine ⟨_, rfl, ?_, HB0.out⟩
      rw [← HDN.out]
      exact owns_mono HOW.out (by omega)
end Go.Proofs.YtogenbggjodcnaaDoor
