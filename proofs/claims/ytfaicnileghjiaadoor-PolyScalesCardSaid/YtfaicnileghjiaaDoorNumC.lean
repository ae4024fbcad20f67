/-
  The constants of the two fields, reckoned: plain arithmetic, no program.
-/
import Derived.Test.YtfaicnileghjiaaDoorNum2
import Derived.Laws.Bits64
namespace Go.Proofs.YtfaicnileghjiaaDoor
/-- The approximations of an inverse modulo 2^64. -/
def newton (p : Int) : Nat → Int
  | 0 => 1
  | k + 1 => IntKind.u64.wrap (newton p k * IntKind.u64.wrap (2 - IntKind.u64.wrap (p * newton p k)))
theorem newton_P1 : IntKind.u64.wrap (-(newton (limb P1 0 : Int) 6)) = (I1 : Int) := by rw [← limbs_P1.1]; decide
theorem newton_P2 : IntKind.u64.wrap (-(newton (limb P2 0 : Int) 6)) = (I2 : Int) := by rw [← limbs_P2.1]; decide
theorem radix_P1 : powm P1 2 256 = O1 := by rw [powm_eq]; decide
theorem radix_P2 : powm P2 2 256 = O2 := by rw [powm_eq]; decide
theorem square_P1 : mulm P1 O1 O1 = S1 := by rw [mulm_eq]; decide
theorem square_P2 : mulm P2 O2 O2 = S2 := by rw [mulm_eq]; decide
theorem limb_P1_pos : ((limb P1 0 : Int) == 0) = false := by rw [← limbs_P1.1]; decide
theorem limb_P2_pos : ((limb P2 0 : Int) == 0) = false := by rw [← limbs_P2.1]; decide
end Go.Proofs.YtfaicnileghjiaaDoor
