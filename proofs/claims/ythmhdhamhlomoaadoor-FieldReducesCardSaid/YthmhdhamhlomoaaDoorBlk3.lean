/-
  A store of four words elsewhere: what is there reads on as it did.
-/
import Derived.Test.YthmhdhamhlomoaaDoorBlk2
namespace Go.Proofs.YthmhdhamhlomoaaDoor
open Go.RowKit
theorem set4_cell {W : World} {b c o : Nat} {v0 v1 v2 v3 x : Value} (hne : b ≠ c) (h : W.cell? ⟨b, o, none⟩ = some x) :
    ((((W.setCell ⟨c, 0, none⟩ v0).setCell ⟨c, 1, none⟩ v1).setCell ⟨c, 2, none⟩ v2).setCell ⟨c, 3, none⟩ v3).cell? ⟨b, o, none⟩ = some x := by
  have k : ∀ i, (⟨c, i, none⟩ : Addr) ≠ ⟨b, o, none⟩ := fun i e => hne (by cases e; rfl)
  rw [World.cell?_setCell_other (h := k 3), World.cell?_setCell_other (h := k 2), World.cell?_setCell_other (h := k 1), World.cell?_setCell_other (h := k 0)]
  exact h
end Go.Proofs.YthmhdhamhlomoaaDoor
