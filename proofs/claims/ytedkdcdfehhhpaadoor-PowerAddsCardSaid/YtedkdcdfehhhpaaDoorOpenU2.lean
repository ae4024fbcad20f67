/-
  Two words of 32 bits in an array among the arguments.
-/
import Derived.Test.YtedkdcdfehhhpaaDoorOpen
namespace Go.Proofs.YtedkdcdfehhhpaaDoor
open Go.ChangeShapes Go.WideShapes Go.ChangeAt Go.WideMaps Go.WideElems Go.RowKit
set_option maxRecDepth 100000

theorem cells_u2 : Tryd.prog.cellsOf 42 = 2 := by kernel_rfl
theorem cells_u32 : Tryd.prog.cellsOf 41 = 1 := by kernel_rfl
theorem nat_u32 {n : Int} (h : (Lit.int .u32 n).wf = true) : ∃ m : Nat, n = m ∧ m < 4294967296 := by
  have := bounds_u32 h
  exact ⟨n.toNat, by omega, by omega⟩
section
variable {H : Type} {enc : TypeId × Value → H} {w : World} {base : Nat} {sp : Nat → Bool} {held : Bool}
theorem open_u2 {r : Reach} {b0 : Nat} {v : Value} {d : DataW H} {p : List MemPlace} (hv : Value.okWide Tryd.prog w r b0 42 v) (h : DataW.Trod enc Tryd.prog w base sp held 42 v d p) : ∃ d0 d1 : Nat, d0 < 4294967296 ∧ d1 < 4294967296 ∧ v = .agg #[.int .u32 (d0 : Int), .int .u32 (d1 : Int)] := by
  simp only [Value.okWide, Tryd.underlying42] at hv
  obtain ⟨cs, rfl, hsz, _⟩ := hv
  obtain ⟨fuel, hf⟩ := h
  obtain ⟨xs, n, _, hx, hl, hlen, hg⟩ := DataW.trod_array Tryd.underlying42 hf
  rw [cells_u2] at hl
  obtain ⟨c0, c1, rfl⟩ : ∃ c0 c1, cs = #[c0, c1] := by
    have e : cs.toList.length = 2 := hl
    match cs, e with
    | ⟨[a, b]⟩, _ => exact ⟨a, b, rfl⟩
  have g0 := hg 0 (by omega)
  have g1 := hg 1 (by omega)
  rw [cells_u32] at g0 g1
  match xs, hlen with
  | [y0, y1], _ =>
    have h0 : DataW.trod enc Tryd.prog w base sp held n 41 [c0] = some y0 := g0
    have h1 : DataW.trod enc Tryd.prog w base sp held n 41 [c1] = some y1 := g1
    obtain ⟨n0, e0, _, w0⟩ := DataW.trod_int Tryd.underlying41 h0
    obtain ⟨n1, e1, _, w1⟩ := DataW.trod_int Tryd.underlying41 h1
    obtain ⟨m0, rfl, l0⟩ := nat_u32 w0
    obtain ⟨m1, rfl, l1⟩ := nat_u32 w1
    simp only [List.cons.injEq, and_true] at e0 e1
    subst e0 e1
    exact ⟨m0, m1, l0, l1, rfl⟩
end
end Go.Proofs.YtedkdcdfehhhpaaDoor
