/-
  The reference of layer 3: one bit of a number.
-/
import Derived.Test.YtfaicnileghjiaaDoorBase
import Derived.LoopN
namespace Go.Proofs.YtfaicnileghjiaaDoor
open Go.RowKit

set_option maxHeartbeats 1000000 in
theorem rbit_low (a : Nat) (i : Nat) (hi : i ≤ 255) (w : World) :
    Calls Tryd.prog 46 #[vec a, .int .i64 (i : Int)] w (Ret (.int .u64 (bit a i : Int)) w) := by
  have hq : i / 64 < 4 := by omega
  have hL := limb_lt a (i / 64)
  have e1 : ((i : Int) / 64).toNat = i / 64 := by omega
  have hcell : (limbs a)[i / 64]? = some (.int .u64 (limb a (i / 64) : Int)) := limbs_get a hq
  go_enter Tryd.func46, Tryd.ntmps46
  go_wp2
  go_loop [5, 6] (fun x k => ∃ j : Nat, j ≤ i % 64 ∧ k = .int .i64 j ∧ x = .int .u64 (shr (limb a (i / 64)) j : Int)) (fun _ k => i % 64 - (intOf k).toNat)
  case atStart => exact ⟨0, by omega, rfl, by rw [shr_zero]; simpa using (List.getElem?_eq_some_iff.1 hcell).2⟩
  case round =>
    obtain ⟨j, hj, rfl, rfl⟩ := hrel
    have hS := shr_lt j hL
    have hS2 : (shr (limb a (i / 64)) j : Int) ≤ 18446744073709551615 := by unfold B64 at hS; omega
    clear hS hcell
    by_cases hlt : j < i % 64
    · go_wp2
      go_round
      case rel => exact ⟨j + 1, by omega, by go_num, by rw [shr_succ]; go_num⟩
      case measure => simp [intOf]; omega
    · obtain rfl : j = i % 64 := by omega
      go_wp2
      go_ret
      exact ⟨by rw [← bit_limb]; rfl, by go_grown⟩
end Go.Proofs.YtfaicnileghjiaaDoor
