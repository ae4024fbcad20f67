/-
  Equality of slices of elements.
-/
import Derived.Test.YtogenbggjodcnaaDoorKit
import Derived.Test.YtogenbggjodcnaaDoorSetB
import Derived.Test.YtogenbggjodcnaaDoorGetB
import Derived.Deep.RegionHeld3
import Derived.Deep.DeepCutAuto
import Derived.Deep.QuietTactic
namespace Go.Proofs.YtogenbggjodcnaaDoor
open Go.RowKit

set_option maxRecDepth 100000 in
set_option maxHeartbeats 4000000 in
theorem equale_same (v1 v2 : Value) (xs : List Nat) (hl : xs.length < 1000000) (w : World) (h1 : NumSl w v1 xs) (h2 : NumSl w v2 xs) :
    Calls Tryd.prog 44 #[v1, v2] w (Ret (.bool true) w) := by
  have BW := hid (Below.refl w.heap.size w)
  have N_x := hid h1
  have N_y := hid h2
  obtain ⟨a, c, rfl, _, _⟩ := h1
  obtain ⟨a2, c2, rfl, _, _⟩ := h2
  obtain ⟨n, hn⟩ : ∃ n, xs.length = n := ⟨_, rfl⟩
  have HN := hid hn
  rw [hn] at N_x N_y hl ⊢
  clear hn
  go_enter Tryd.func44, Tryd.ntmps44
  go_wp2_with fail
  go_loopw [13] (fun i wr => ∃ k : Nat, k ≤ n ∧ i = .int .i64 (k : Int) ∧ Below w.heap.size w wr) (fun i _ => n - (intOf i).toNat)
  case atStart => exact ⟨0, Nat.zero_le _, rfl, Below.refl _ _⟩
  case round =>
    obtain ⟨k, hk, rfl, hB⟩ := hrel
    have HB := hid hB
    have zB := hB.size
    by_cases hlt : k < n
    · skip
      replace N_x := hid (N_x.out.below hB)
      replace N_y := hid (N_y.out.below hB)
      replace BW := hid (BW.out.trans (hB.mono BW.out.size))
      clear hB
      obtain ⟨x, hx⟩ : ∃ x, xs[k]? = some x := ⟨xs[k]'(by rw [HN.out]; exact hlt), List.getElem?_eq_getElem _⟩
      obtain ⟨g, off, rfl, hg, d0, d1, d2, d3⟩ := N_x.out.at4 hx
      obtain ⟨g2, off2, rfl, hg2, u0, u1, u2, u3⟩ := N_y.out.at4 hx
      have heq := fun W : World => eq_same_el (limb x 0 : Int) (limb x 1 : Int) (limb x 2 : Int) (limb x 3 : Int) W
      have hki : (k : Int) < (n : Int) := by omega
      have hk0 : (0 : Int) ≤ (k : Int) := by omega
      clear hx
      go_wp2_with fail
      refine wp_region_soft (C := fun W' => Below wr.heap.size wr W') 8 (by kernel_rfl) (by kernel_rfl) ((Below.refl _ _).drew) ?_
      simp only [List.take_succ_cons, List.take_zero, List.drop_succ_cons, List.drop_zero]
      refine wpQuiet_step (fun K hK => ?_)
      rw [if_pos (by rfl)]
      refine ⟨.slice (some ⟨g, off, none⟩) n c, fun W' hW => ?_, hK _ ?_⟩
      · go_simp
      clear hK K
      simp only [Act.put, List.setIfInBounds_toArray, List.set_cons_zero, List.set_cons_succ]
      refine wpQuiet_step (fun K hK => ?_)
      rw [if_pos (by rfl)]
      refine ⟨.int .i64 (k : Int), fun W' hW => ?_, hK _ ?_⟩
      · go_simp
      clear hK K
      simp only [Act.put, List.setIfInBounds_toArray, List.set_cons_zero, List.set_cons_succ]
      refine wpQuiet_step (fun K hK => ?_)
      rw [if_pos (by rfl)]
      refine ⟨.pointer (some ⟨g, off + k * 4, none⟩), fun W' hW => ?_, hK _ ?_⟩
      · go_simp
      clear hK K
      simp only [Act.put, List.setIfInBounds_toArray, List.set_cons_zero, List.set_cons_succ]
      refine wpQuiet_step (fun K hK => ?_)
      rw [if_pos (by rfl)]
      refine ⟨vec x, fun W' hW => ?_, hK _ ?_⟩
      · have e_0 := (hW.cell (p := ⟨g, off + k * 4, none⟩) hg).trans d0
        have e_1 := (hW.cell (p := ⟨g, off + k * 4 + 1, none⟩) hg).trans d1
        have e_2 := (hW.cell (p := ⟨g, off + k * 4 + 2, none⟩) hg).trans d2
        have e_3 := (hW.cell (p := ⟨g, off + k * 4 + 3, none⟩) hg).trans d3
        go_simp
      clear hK K
      simp only [Act.put, List.setIfInBounds_toArray, List.set_cons_zero, List.set_cons_succ]
      refine wpQuiet_step (fun K hK => ?_)
      rw [if_pos (by rfl)]
      refine ⟨.slice (some ⟨g2, off2, none⟩) n c2, fun W' hW => ?_, hK _ ?_⟩
      · go_simp
      clear hK K
      simp only [Act.put, List.setIfInBounds_toArray, List.set_cons_zero, List.set_cons_succ]
      refine wpQuiet_step (fun K hK => ?_)
      rw [if_pos (by rfl)]
      refine ⟨.int .i64 (k : Int), fun W' hW => ?_, hK _ ?_⟩
      · go_simp
      clear hK K
      simp only [Act.put, List.setIfInBounds_toArray, List.set_cons_zero, List.set_cons_succ]
      refine wpQuiet_step (fun K hK => ?_)
      rw [if_pos (by rfl)]
      refine ⟨.pointer (some ⟨g2, off2 + k * 4, none⟩), fun W' hW => ?_, hK _ ?_⟩
      · go_simp
      clear hK K
      simp only [Act.put, List.setIfInBounds_toArray, List.set_cons_zero, List.set_cons_succ]
      refine wpQuiet_step (fun K hK => ?_)
      rw [if_pos (by rfl)]
      refine ⟨vec x, fun W' hW => ?_, hK _ ?_⟩
      · have e_0 := (hW.cell (p := ⟨g2, off2 + k * 4, none⟩) hg2).trans u0
        have e_1 := (hW.cell (p := ⟨g2, off2 + k * 4 + 1, none⟩) hg2).trans u1
        have e_2 := (hW.cell (p := ⟨g2, off2 + k * 4 + 2, none⟩) hg2).trans u2
        have e_3 := (hW.cell (p := ⟨g2, off2 + k * 4 + 3, none⟩) hg2).trans u3
        go_simp
      clear hK K
      simp only [Act.put, List.setIfInBounds_toArray, List.set_cons_zero, List.set_cons_succ]
      refine wpQuiet_nil ?_
      intro ws0 hW9
      replace N_x := hid (N_x.out.below hW9)
      replace N_y := hid (N_y.out.below hW9)
      replace BW := hid (BW.out.trans (hW9.mono BW.out.size))
      clear hW9
      replace HB := hid BW.out
      go_wp2
      go_roundw
      case rel => exact ⟨k + 1, by omega, by go_num, by first | exact Below.drewN' (HB.out.alloc HB.out.size _) _ | exact HB.out.alloc HB.out.size _ | exact HB.out | (have := HB.out; go_grown)⟩
      case measure => simp [intOf]; omega
    · skip
      obtain rfl : n = k := by omega
      replace N_x := hid (N_x.out.below hB)
      replace N_y := hid (N_y.out.below hB)
      replace BW := hid (BW.out.trans (hB.mono BW.out.size))
      clear hB
      clear HB zB hlt
      go_wp2
      go_ret
      exact ⟨rfl, BW.out⟩
end Go.Proofs.YtogenbggjodcnaaDoor
