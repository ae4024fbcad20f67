/-
  Slices of integers.
-/
import Derived.Test.YthdjjogdjabflaaDoorKit
namespace Go.Proofs.YthdjjogdjabflaaDoor
open Go.RowKit

section
variable {w w' : World} {v : Value}
/-- Integers in a row. -/
def IntSl (w : World) (v : Value) (l : List Int) : Prop := ∃ a cap, v = .slice a l.length cap ∧ (l = [] ∨ ∃ g off, a = some ⟨g, off, none⟩ ∧ ∀ (j : Nat) (x : Int), l[j]? = some x → w.cell? ⟨g, off + j, none⟩ = some (.int .i64 x))
theorem IntSl.below {l : List Int} (h : IntSl w v l) (hb : Below w.heap.size w w') : IntSl w' v l := by
  obtain ⟨a, cap, hv, h0 | ⟨g, off, ha, he⟩⟩ := h
  · exact ⟨a, cap, hv, .inl h0⟩
  · exact ⟨a, cap, hv, .inr ⟨g, off, ha, fun j x hj => (hb.cell (World.block_lt_of_cell? w _ (he j x hj))).trans (he j x hj)⟩⟩
theorem IntSl.at {l : List Int} {a : Option Addr} {n c k : Nat} {x : Int} (h : IntSl w (.slice a n c) l) (hx : l[k]? = some x) : ∃ g off, a = some ⟨g, off, none⟩ ∧ g < w.heap.size ∧ w.cell? ⟨g, off + k, none⟩ = some (.int .i64 x) := by
  obtain ⟨a', cap, hv, h0 | ⟨g, off, ha, he⟩⟩ := h
  · rw [h0] at hx; cases hx
  · cases hv
    exact ⟨g, off, ha, World.block_lt_of_cell? w _ (he k x hx), he k x hx⟩
end
end Go.Proofs.YthdjjogdjabflaaDoor
