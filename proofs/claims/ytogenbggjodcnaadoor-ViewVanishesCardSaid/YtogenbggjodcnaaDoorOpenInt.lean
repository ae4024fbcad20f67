/-
  Slices of integers among the arguments.
-/
import Derived.Test.YtogenbggjodcnaaDoorOpenNum
import Derived.Test.YtogenbggjodcnaaDoorLagA
namespace Go.Proofs.YtogenbggjodcnaaDoor
open Go.ChangeShapes Go.WideShapes Go.ChangeAt Go.WideMaps Go.WideElems Go.RowKit
set_option maxRecDepth 100000

section
variable {H : Type} {enc : TypeId × Value → H} {w : World} {base : Nat} {held : Bool}
/-- A slice of integers among the arguments. -/
theorem open_ints {r : Reach} {b0 : Nat} {v : Value} {d : DataW H} {p : List MemPlace} (hv : Value.okWide Tryd.prog w r b0 22 v) (h : DataW.Trod enc Tryd.prog w base (fun _ => true) held 22 v d p) : ∃ l, IntSl w v l := by
  obtain ⟨a0, len, cap, rfl⟩ := okWide_slice Tryd.underlying22 hv
  obtain ⟨fuel, hf⟩ := h
  rcases Go.Deep.open_slice Tryd.underlying22 hf with ⟨hcs, _⟩ | ⟨a, len, cap, m, n, D, Pl, hcs, _, hl, _, hmm, _, hi⟩
  · simp [Value.cells] at hcs
    obtain ⟨rfl, rfl, rfl⟩ := hcs
    exact ⟨[], none, _, rfl, .inl rfl⟩
  · simp [Value.cells] at hcs
    obtain ⟨rfl, rfl, rfl⟩ := hcs
    simp only [if_true] at hmm
    subst hmm
    obtain ⟨l, hll, hp⟩ := list_of (P := fun i (x : Int) => w.cell? (a.add i) = some (.int .i64 x)) len (fun i hil => by
      obtain ⟨cs', hc, ht'⟩ := hi i (by omega)
      obtain ⟨n0, rfl, _, _⟩ := DataW.trod_int Tryd.underlying3 ht'
      rw [cells_int] at hc
      obtain ⟨_, _, hat⟩ := World.cells?_some hc
      refine ⟨n0, ?_⟩
      have := hat 0 (by omega)
      rw [Go.Deep.add_add, Nat.mul_one, Nat.add_zero] at this
      exact this)
    refine ⟨l, some a, _, by rw [hll], ?_⟩
    by_cases h0 : l = []
    · exact .inl h0
    · obtain ⟨x, s, rfl⟩ := List.exists_cons_of_ne_nil h0
      have hs := World.cell?_spot (hp 0 x rfl)
      obtain ⟨b, off, spot⟩ := a
      have hspot : spot = none := by simpa [Addr.add] using hs
      subst hspot
      exact .inr ⟨b, off, rfl, fun i e hie => by
        have := hp i e hie
        rw [addr_add] at this
        exact this⟩
end
end Go.Proofs.YtogenbggjodcnaaDoor
