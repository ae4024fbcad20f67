/-
  Quotient and Eval; no tape.
-/
import Derived.Test.YtlinfbhiogdiaaaDoorPolys
import Derived.Test.YtlinfbhiogdiaaaDoorMont
import Derived.Test.YtlinfbhiogdiaaaDoorLimbs
import Derived.OwnWalk
import Derived.Test.YtlinfbhiogdiaaaDoorKit
namespace Go.Proofs.YtlinfbhiogdiaaaDoor
open Go.RowKit Go.Shelf

attribute [local go_sem] Oper.semAt_some

theorem info_el : (Tryd.prog.info? 24).map (fun i => (i.zero, i.size, i.bytes)) = some (some (.agg #[.int .u64 0, .int .u64 0, .int .u64 0, .int .u64 0]), 4, 32) := by kernel_rfl
theorem limbs_zero : limbs 0 = [.int .u64 0, .int .u64 0, .int .u64 0, .int .u64 0] := by
  have e : ∀ i, limb 0 i = 0 := fun i => by rw [limb_eq]; simp
  show [Value.int .u64 (limb 0 0 : Int), .int .u64 (limb 0 1 : Int), .int .u64 (limb 0 2 : Int), .int .u64 (limb 0 3 : Int)] = _
  rw [e, e, e, e]; rfl
/-- The quotient and the remainder. -/
def RetQuo (m x : Nat) (xs : List Nat) (w : World) : Ending → World → Prop := fun e w' => ∃ q, e = .returned (.tuple #[q, vec (horP m x (downs xs))]) ∧ w'.ownsRow w.heap.size 24 4 q (xs.length - 1) (nums (quo m x xs)) ∧ Below w.heap.size w w'
end Go.Proofs.YtlinfbhiogdiaaaDoor
