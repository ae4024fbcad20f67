/-
  A store of four cells: what stays.
-/
import Derived.Test.YtogenbggjodcnaaDoorKit
namespace Go.Proofs.YtogenbggjodcnaaDoor
open Go.RowKit

theorem only_set4 (W : World) (c : Nat) (v0 v1 v2 v3 : Value) : Only (fun k => k = c) W ((((W.setCell ⟨c, 0, none⟩ v0).setCell ⟨c, 1, none⟩ v1).setCell ⟨c, 2, none⟩ v2).setCell ⟨c, 3, none⟩ v3) :=
  (((((Only.refl (fun k => k = c) W).setCell (p := ⟨c, 0, none⟩) (.inl rfl) v0).setCell (p := ⟨c, 1, none⟩) (.inl rfl) v1).setCell (p := ⟨c, 2, none⟩) (.inl rfl) v2).setCell (p := ⟨c, 3, none⟩) (.inl rfl) v3)
theorem below_set4 {n : Nat} {A W : World} (h : Below n A W) {c : Nat} (hc : n ≤ c) (v0 v1 v2 v3 : Value) : Below n A ((((W.setCell ⟨c, 0, none⟩ v0).setCell ⟨c, 1, none⟩ v1).setCell ⟨c, 2, none⟩ v2).setCell ⟨c, 3, none⟩ v3) :=
  ((((h.setCell (p := ⟨c, 0, none⟩) hc v0).setCell (p := ⟨c, 1, none⟩) hc v1).setCell (p := ⟨c, 2, none⟩) hc v2).setCell (p := ⟨c, 3, none⟩) hc v3)
theorem limbs_0 : limbs 0 = [.int .u64 0, .int .u64 0, .int .u64 0, .int .u64 0] := by
  have e : ∀ i, limb 0 i = 0 := fun i => by rw [limb_eq]; simp
  show [Value.int .u64 (limb 0 0 : Int), .int .u64 (limb 0 1 : Int), .int .u64 (limb 0 2 : Int), .int .u64 (limb 0 3 : Int)] = _
  rw [e, e, e, e]; rfl
end Go.Proofs.YtogenbggjodcnaaDoor
