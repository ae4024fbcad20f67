/-
  A field's Contains and Subtract.
-/
import Derived.Test.YticpjaooegpipaaDoorLimb
namespace Go.Proofs.YticpjaooegpipaaDoor
open Go.RowKit

set_option maxHeartbeats 1000000 in
theorem contains_any {id i o0 o1 o2 o3 s0 s1 s2 s3 : Int} (m : Nat) (a : Nat) (hm : m < B256) (ha : a < B256) (w : World) :
    Calls Tryd.prog 30 #[.agg #[.int .i64 id, .int .u64 (limb m 0 : Int), .int .u64 (limb m 1 : Int), .int .u64 (limb m 2 : Int), .int .u64 (limb m 3 : Int), .int .u64 i, .int .u64 o0, .int .u64 o1, .int .u64 o2, .int .u64 o3, .int .u64 s0, .int .u64 s1, .int .u64 s2, .int .u64 s3], vec a] w (Ret (.int .u64 (msk (brw a m) : Int)) w) := by
  go_enter Tryd.func30, Tryd.ntmps30
  go_wp2_with fail
  refine (lless_any a m ha hm _).mono ?_
  rintro e w1 ⟨rfl, hb1⟩
  have B1 : Below w.heap.size w w1 := Below.call (by go_grown) hb1
  have zB1 := B1.size
  go_wp2
  go_ret
  exact ⟨rfl, by go_grown⟩

end Go.Proofs.YticpjaooegpipaaDoor
