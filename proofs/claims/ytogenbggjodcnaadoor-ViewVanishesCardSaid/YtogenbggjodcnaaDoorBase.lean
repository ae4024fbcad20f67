import Derived.Test.YtogenbggjodcnaaDoorKit
namespace Go.Proofs.YtogenbggjodcnaaDoor
open Go.RowKit

set_option maxRecDepth 100000 in
theorem run_sub64 (x y c : Nat) (hc : c ≤ 1) (w : World) :
    Sem.run Tryd.prog (callFunc 137 #[.int .u64 (x : Int), .int .u64 (y : Int), .int .u64 (c : Int)]) w = .ok (.value (.tuple #[.int .u64 (nsd x y c : Int), .int .u64 (nsb x y c : Int)])) w := by
  have h : c = 0 ∨ c = 1 := by omega
  rw [nsd_eq, nsb_eq]
  rcases h with rfl | rfl <;> rfl
set_option maxRecDepth 100000 in
theorem run_sub64_0 (x y : Nat) (w : World) :
    Sem.run Tryd.prog (callFunc 137 #[.int .u64 (x : Int), .int .u64 (y : Int), .int .u64 0]) w = .ok (.value (.tuple #[.int .u64 (nsd x y 0 : Int), .int .u64 (nsb x y 0 : Int)])) w := run_sub64 x y 0 (by omega) w

end Go.Proofs.YtogenbggjodcnaaDoor
