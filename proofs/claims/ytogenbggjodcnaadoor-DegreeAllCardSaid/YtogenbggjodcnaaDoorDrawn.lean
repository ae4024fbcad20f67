/-
  For drawn regions with blocks that are made in them.
-/
import Derived.Test.YtogenbggjodcnaaDoorSet4
import Derived.Deep.RegionHeld3
import Derived.Deep.DeepCutAuto
namespace Go.Proofs.YtogenbggjodcnaaDoor
open Go.RowKit
/-- A block that is made where a world stands that grew out of another. -/
theorem newblk_of {n : Nat} {A W : World} (_h : Below n A W) (xs : List Value) (t : TypeId) : Blk (W.alloc (.cells xs.toArray t)) W.heap.size t xs := Blk.new rfl
theorem blk_to {w w' : World} {b : Nat} {t : TypeId} {xs : List Value} (e : w = w') (h : Blk w b t xs) : Blk w' b t xs := e ▸ h
theorem below_to {n : Nat} {a w w' : World} (e : w = w') (h : Below n a w) : Below n a w' := e ▸ h
end Go.Proofs.YtogenbggjodcnaaDoor
