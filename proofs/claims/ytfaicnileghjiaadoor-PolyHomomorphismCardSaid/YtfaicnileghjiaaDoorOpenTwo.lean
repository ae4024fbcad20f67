/-
  Two slices of numbers in an array among the arguments.
-/
import Derived.Test.YtfaicnileghjiaaDoorOpenNum
namespace Go.Proofs.YtfaicnileghjiaaDoor
open Go.ChangeShapes Go.WideShapes Go.ChangeAt Go.WideMaps Go.WideElems Go.RowKit
set_option maxRecDepth 100000

theorem cells_two : Tryd.prog.cellsOf 47 = 2 := by kernel_rfl
theorem cells_nsl : Tryd.prog.cellsOf 22 = 1 := by kernel_rfl
section
variable {H : Type} {enc : TypeId × Value → H} {w : World} {base : Nat} {held : Bool}
theorem open_two {r : Reach} {b0 : Nat} {v : Value} {d : DataW H} {p : List MemPlace} (hv : Value.okWide Tryd.prog w r b0 47 v) (h : DataW.Trod enc Tryd.prog w base (fun _ => true) held 47 v d p) : ∃ v1 v2 l1 l2, v = .agg #[v1, v2] ∧ NumSl w v1 l1 ∧ NumSl w v2 l2 := by
  simp only [Value.okWide, Tryd.underlying47] at hv
  obtain ⟨cs, rfl, hsz, _⟩ := hv
  obtain ⟨fuel, hf⟩ := h
  obtain ⟨xs, n, _, hx, hl, hlen, hg⟩ := DataW.trod_array Tryd.underlying47 hf
  rw [cells_two] at hl
  obtain ⟨c0, c1, rfl⟩ : ∃ c0 c1, cs = #[c0, c1] := by
    have e : cs.toList.length = 2 := hl
    match cs, e with
    | ⟨[a, b]⟩, _ => exact ⟨a, b, rfl⟩
  have g0 := hg 0 (by omega)
  have g1 := hg 1 (by omega)
  rw [cells_nsl] at g0 g1
  match xs, hlen with
  | [y0, y1], _ =>
    have h0 : DataW.trod enc Tryd.prog w base (fun _ => true) held n 22 [c0] = some y0 := g0
    have h1 : DataW.trod enc Tryd.prog w base (fun _ => true) held n 22 [c1] = some y1 := g1
    obtain ⟨v0, l0, e0, s0⟩ := trod_nums h0
    obtain ⟨v1, l1, e1, s1⟩ := trod_nums h1
    obtain rfl : c0 = v0 := (List.cons.inj e0).1
    obtain rfl : c1 = v1 := (List.cons.inj e1).1
    exact ⟨_, _, l0, l1, rfl, s0, s1⟩
end
end Go.Proofs.YtfaicnileghjiaaDoor
