/-
  The reference of layer 4: Modulus, Radix, Pow, Inverse.
-/
import Derived.Test.YtfaicnileghjiaaDoorRef4d
import Derived.Test.YtfaicnileghjiaaDoorNum2
namespace Go.Proofs.YtfaicnileghjiaaDoor
open Go.RowKit

theorem rmodulus_1 (w : World) : Calls Tryd.prog 36 #[.int .i64 1] w (Ret (vec P1) w) := by
  go_enter Tryd.func36, Tryd.ntmps36
  go_wp2
  refine bodyPost_ret (by simp only [results, Tryd.results36]; go_simp; try rfl) rfl ?_
  exact ⟨by rw [← vec_P1], by go_grown⟩
theorem rmodulus_2 (w : World) : Calls Tryd.prog 36 #[.int .i64 2] w (Ret (vec P2) w) := by
  go_enter Tryd.func36, Tryd.ntmps36
  go_wp2
  refine bodyPost_ret (by simp only [results, Tryd.results36]; go_simp; try rfl) rfl ?_
  exact ⟨by rw [← vec_P2], by go_grown⟩
theorem rmodulus_0 (i : Int) (h1 : i ≠ 1) (h2 : i ≠ 2) (w : World) : Calls Tryd.prog 36 #[.int .i64 i] w (Ret (vec 0) w) := by
  have d1 : (i == 1) = false := by simp [h1]
  have d2 : (i == 2) = false := by simp [h2]
  clear h1 h2
  go_enter Tryd.func36, Tryd.ntmps36
  go_wp2
  refine bodyPost_ret (by simp only [results, Tryd.results36]; go_simp; try rfl) rfl ?_
  exact ⟨by rw [← vec_zero], by go_grown⟩

set_option maxRecDepth 100000 in
set_option maxHeartbeats 1000000 in
theorem rradix_any (p : Nat) (hp : p < B256) (h1 : 1 < p) (w : World) :
    Calls Tryd.prog 55 #[vec p] w (Ret (vec (powm p 2 256)) w) := by
  have o0 := hid (congrArg (fun n => limbs n) (powm_zero 2 h1)).symm
  have o1 := hid vec_one
  go_enter Tryd.func55, Tryd.ntmps55
  go_wp2_with (go_at_call 37; refine (rone_any _).mono ?_; rintro e w' ⟨rfl, rfl⟩)
  go_loopw [4] (fun i wr => ∃ k : Nat, k ≤ 256 ∧ i = .int .i64 (k : Int) ∧ Below w.heap.size w wr ∧
      Blk wr (w.heap.size) 24 [.int .u64 (limb p 0 : Int), .int .u64 (limb p 1 : Int), .int .u64 (limb p 2 : Int), .int .u64 (limb p 3 : Int)] ∧ Blk wr (w.heap.size + 1) 24 [.int .u64 0, .int .u64 0, .int .u64 0, .int .u64 0] ∧ Blk wr (w.heap.size + 1 + 1 + 1) 24 [.int .u64 (limb (powm p 2 k) 0 : Int), .int .u64 (limb (powm p 2 k) 1 : Int), .int .u64 (limb (powm p 2 k) 2 : Int), .int .u64 (limb (powm p 2 k) 3 : Int)])
    (fun i _ => 256 - (intOf i).toNat)
  case atStart =>
    have e0 := powm_zero 2 h1
    exact ⟨0, by omega, rfl, by go_grown, Blk.alloc (Blk.alloc (Blk.alloc (Blk.new (by simp)) _) _) _, Blk.alloc (Blk.alloc (Blk.new (by simp)) _) _, by rw [e0]; exact Blk.new (by simp)⟩
  case round =>
    obtain ⟨k, hk, rfl, hB, h_p, h_r, h_o⟩ := hrel
    clear o0 o1
    have zB := hB.size
    by_cases hlt : k < 256
    · have B0 : Below w.heap.size w wr := hB
      have z_p := h_p.lt
      have c_p0 := h_p.cell (i := 0) rfl
      have c_p1 := h_p.cell (i := 1) rfl
      have c_p2 := h_p.cell (i := 2) rfl
      have c_p3 := h_p.cell (i := 3) rfl
      have z_r := h_r.lt
      have z_o := h_o.lt
      have c_o0 := h_o.cell (i := 0) rfl
      have c_o1 := h_o.cell (i := 1) rfl
      have c_o2 := h_o.cell (i := 2) rfl
      have c_o3 := h_o.cell (i := 3) rfl
      go_wp2_with fail
      refine (radd_any p (powm p 2 k) (powm p 2 k) hp (powm_lt _ _ (by omega)) (powm_lt _ _ (by omega)) _).mono ?_
      rintro e w1 ⟨rfl, hb1⟩
      clear z_p c_p0 c_p1 c_p2 c_p3 z_r z_o c_o0 c_o1 c_o2 c_o3
      replace h_p := Blk.keep (h_p) hb1
      replace h_r := Blk.keep (h_r) hb1
      replace h_o := Blk.keep (h_o) hb1
      have B1 : Below w.heap.size w w1 := Below.call (by go_grown) hb1
      have zB1 := B1.size
      rw [powm_two]
      have z_p := h_p.lt
      have z_r := h_r.lt
      have z_o := h_o.lt
      have c_o0 := h_o.cell (i := 0) rfl
      have c_o1 := h_o.cell (i := 1) rfl
      have c_o2 := h_o.cell (i := 2) rfl
      have c_o3 := h_o.cell (i := 3) rfl
      have f_o0 := h_o.frozen 0
      have f_o1 := h_o.frozen 1
      have f_o2 := h_o.frozen 2
      have f_o3 := h_o.frozen 3
      go_wp2
      have h_p := h_p.other4 (c := w.heap.size + 1 + 1 + 1) (by omega) (.int .u64 (limb (powm p 2 (k + 1)) 0 : Int)) (.int .u64 (limb (powm p 2 (k + 1)) 1 : Int)) (.int .u64 (limb (powm p 2 (k + 1)) 2 : Int)) (.int .u64 (limb (powm p 2 (k + 1)) 3 : Int))
      have h_r := h_r.other4 (c := w.heap.size + 1 + 1 + 1) (by omega) (.int .u64 (limb (powm p 2 (k + 1)) 0 : Int)) (.int .u64 (limb (powm p 2 (k + 1)) 1 : Int)) (.int .u64 (limb (powm p 2 (k + 1)) 2 : Int)) (.int .u64 (limb (powm p 2 (k + 1)) 3 : Int))
      have h_o := h_o.set4 (.int .u64 (limb (powm p 2 (k + 1)) 0 : Int)) (.int .u64 (limb (powm p 2 (k + 1)) 1 : Int)) (.int .u64 (limb (powm p 2 (k + 1)) 2 : Int)) (.int .u64 (limb (powm p 2 (k + 1)) 3 : Int))
      go_roundw
      case rel => exact ⟨k + 1, by omega, by go_num, by go_grown, h_p, h_r, h_o⟩
      case measure => simp [intOf] <;> omega
    · obtain rfl : k = 256 := by omega
      have z_p := h_p.lt
      have z_r := h_r.lt
      have c_r0 := h_r.cell (i := 0) rfl
      have c_r1 := h_r.cell (i := 1) rfl
      have c_r2 := h_r.cell (i := 2) rfl
      have c_r3 := h_r.cell (i := 3) rfl
      have f_r0 := h_r.frozen 0
      have f_r1 := h_r.frozen 1
      have f_r2 := h_r.frozen 2
      have f_r3 := h_r.frozen 3
      have z_o := h_o.lt
      have c_o0 := h_o.cell (i := 0) rfl
      have c_o1 := h_o.cell (i := 1) rfl
      have c_o2 := h_o.cell (i := 2) rfl
      have c_o3 := h_o.cell (i := 3) rfl
      go_wp2
      refine bodyPost_ret (by simp only [results, Tryd.results55]; go_simp; try rfl) rfl ?_
      exact ⟨rfl, by go_grown⟩

end Go.Proofs.YtfaicnileghjiaaDoor
