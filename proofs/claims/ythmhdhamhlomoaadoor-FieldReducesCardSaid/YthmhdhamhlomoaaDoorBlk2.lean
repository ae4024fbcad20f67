/-
  More on blocks: what a call leaves as it was, cells and marks together; worlds that only grow.
-/
import Derived.Test.YthmhdhamhlomoaaDoorBase
namespace Go.Proofs.YthmhdhamhlomoaaDoor
open Go.RowKit
theorem bfrozen {W w1 : World} (hb : Below W.heap.size W w1) : ∀ b o, b < W.heap.size → w1.frozen? ⟨b, o, none⟩ = W.frozen? ⟨b, o, none⟩ := fun _ _ h => hb.frozen h
/-- Whatever cell is there reads on as it did. -/
def Ext (W W' : World) : Prop := ∀ a v, W.cell? a = some v → W'.cell? a = some v
theorem Ext.below {W W' : World} (h : Below W.heap.size W W') : Ext W W' := fun a v hv => by
  rw [h.cell (World.block_lt_of_cell? W a hv)]; exact hv
theorem Ext.alloc (w : World) (o : Obj) : Ext w (w.alloc o) := Ext.below ((Below.refl _ w).alloc (Nat.le_refl _) o)
theorem Ext.alloc1 (w : World) (o : Obj) : Ext w.drew (w.alloc o).drew := Ext.alloc w o
theorem Ext.alloc2 (w : World) (o : Obj) : Ext w.drew.drew (w.alloc o).drew.drew := Ext.alloc w o
theorem Ext.alloc3 (w : World) (o : Obj) : Ext w.drew.drew.drew (w.alloc o).drew.drew.drew := Ext.alloc w o
theorem Ext.refl (w : World) : Ext w w := fun _ _ h => h
theorem Ext.trans {a b c : World} (h : Ext a b) (k : Ext b c) : Ext a c := fun x v hv => k x v (h x v hv)
/-- A block's facts behind growth and a call. -/
theorem Blk.keep2 {w W w' : World} {b : Nat} {t : TypeId} {xs : List Value} (h : Blk w b t xs) (g : Below w.heap.size w W) (hb : Below W.heap.size W w') : Blk w' b t xs := (h.keep g).keep hb
end Go.Proofs.YthmhdhamhlomoaaDoor
