/-
  A cell that may be written: what it holds, behind growth, stores elsewhere, its own store. No program.
-/
import Derived.Test.YtbkpiegkiokdlaaGrow
namespace Go.Proofs.Ytbkpiegkiokdlaa
open Go.RowKit

/-- The first cell of block b holds v; it is not frozen. -/
def Cel (W : World) (b : Nat) (v : Value) : Prop := W.cell? ⟨b, 0, none⟩ = some v ∧ W.frozen? ⟨b, 0, none⟩ = false
section
variable {W W' : World} {b B : Nat} {v : Value} {F : Nat → Prop}
theorem Cel.lt (h : Cel W b v) : b < W.heap.size := World.block_lt_of_cell? _ _ h.1
theorem Cel.grow (h : Cel W b v) (g : Grow B W W') : Cel W' b v := by
  obtain ⟨o, ho, hc⟩ := cells_of_cell h.1
  have e := (g.block b o ho (.inr hc)).trans ho.symm
  exact ⟨(World.cell?_of_block (w := W) e).trans h.1, (World.frozen?_of_block (w := W) e).trans h.2⟩
theorem Cel.only (h : Cel W b v) (g : Only F W W') (hF : ¬ F b) : Cel W' b v := ⟨g.cell hF h.1, (g.froz hF h.lt).trans h.2⟩
theorem Cel.set (h : Cel W b v) (u : Value) : Cel (W.setCell ⟨b, 0, none⟩ u) b u :=
  ⟨World.cell?_setCell_same' _ _ _ (by rw [h.1]; rfl), by rw [World.frozen?_setCell]; exact h.2⟩
theorem Cel.other (h : Cel W b v) (a : Addr) (u : Value) (hne : b ≠ a.block) : Cel (W.setCell a u) b v :=
  h.only ((Only.refl (fun k => k = a.block) W).setCell (.inl rfl) u) hne
theorem Cel.alloc (h : Cel W b v) (o : Obj) : Cel (W.alloc o) b v := h.grow ((Grow.refl 0 W).alloc o)
theorem Only.drewN {A : World} (h : Only F A W) (n : Nat) : Only F A (W.drewN n) := ⟨h.os, h.tape, h.output, h.size, h.block⟩
theorem Grow.drewN {A : World} (h : Grow B A W) (n : Nat) : Grow B A (W.drewN n) := ⟨h.os, h.tape, h.output, h.size, h.block⟩
theorem Cel.drewN (h : Cel W b v) (n : Nat) : Cel (W.drewN n) b v := h
theorem Blk.cel {t : TypeId} (h : Blk W b t [v]) : Cel W b v := ⟨h.cell (i := 0) rfl, h.frozen 0⟩
end
theorem Yields.mono {P : Program} {l : Nat} {args : Array Value} {W : World} {R R' : Ending → World → Prop} (h : Yields P l args W R) (hr : ∀ e w, R e w → R' e w) : Yields P l args W R' := fun m => (h m).mono hr
theorem SeqAt.kp {α : Type} {P : Program} {g : Nat} {lb : Array Value} {encs : α → Array Value} {Kp Kp' : World → World → Prop} {xs : List α} {W : World} (h : SeqAt P g lb encs Kp xs W) (hk : ∀ A B, Kp' A B → Kp A B) : SeqAt P g lb encs Kp' xs W :=
  fun l J Jx hJ hJx hY h0 => h l J Jx hJ hJx (fun pre x W1 hj hp => (hY pre x W1 hj hp).mono (fun _ _ hr => hr.imp (fun h => ⟨h.1, h.2.1, hk _ _ h.2.2⟩) id)) h0
end Go.Proofs.Ytbkpiegkiokdlaa
