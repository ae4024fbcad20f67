/-
  Parameters among the arguments.
-/
import Derived.Test.YticpjaooegpipaaDoorOpen
namespace Go.Proofs.YticpjaooegpipaaDoor
open Go.ChangeShapes Go.WideShapes Go.ChangeAt Go.WideMaps Go.WideElems Go.RowKit

theorem cells_par : Tryd.prog.cellsOf 23 = 4 := by kernel_rfl
section
variable {H : Type} {enc : TypeId × Value → H} {w : World} {base : Nat} {sp : Nat → Bool} {held : Bool}
theorem trod_par {fuel : Nat} {cs : List Value} {x : DataW H × List MemPlace} (h : DataW.trod enc Tryd.prog w base sp held fuel 23 cs = some x) : ∃ f t s n : Int, cs = [.int .i64 f, .int .i64 t, .int .i64 s, .int .i64 n] := by
  obtain ⟨xs, n, _, _, hl, hlen, hf⟩ := DataW.trod_struct Tryd.underlying23 h
  rw [cells_par] at hl
  match cs, hl with
  | [c0, c1, c2, c3], _ =>
    match xs, hlen with
    | [y0, y1, y2, y3], _ =>
      have h0 : DataW.trod enc Tryd.prog w base sp held n 3 [c0] = some y0 := by
        have := hf 0 _ rfl
        have e : (([c0, c1, c2, c3] : List Value).drop 0).take (Tryd.prog.cellsOf 3) = [c0] := by rw [cells_int]; rfl
        rw [← e]; exact this
      have h1 : DataW.trod enc Tryd.prog w base sp held n 3 [c1] = some y1 := by
        have := hf 1 _ rfl
        have e : (([c0, c1, c2, c3] : List Value).drop 1).take (Tryd.prog.cellsOf 3) = [c1] := by rw [cells_int]; rfl
        rw [← e]; exact this
      have h2 : DataW.trod enc Tryd.prog w base sp held n 3 [c2] = some y2 := by
        have := hf 2 _ rfl
        have e : (([c0, c1, c2, c3] : List Value).drop 2).take (Tryd.prog.cellsOf 3) = [c2] := by rw [cells_int]; rfl
        rw [← e]; exact this
      have h3 : DataW.trod enc Tryd.prog w base sp held n 3 [c3] = some y3 := by
        have := hf 3 _ rfl
        have e : (([c0, c1, c2, c3] : List Value).drop 3).take (Tryd.prog.cellsOf 3) = [c3] := by rw [cells_int]; rfl
        rw [← e]; exact this
      obtain ⟨n0, e0, _, _⟩ := DataW.trod_int Tryd.underlying3 h0
      obtain ⟨n1, e1, _, _⟩ := DataW.trod_int Tryd.underlying3 h1
      obtain ⟨n2, e2, _, _⟩ := DataW.trod_int Tryd.underlying3 h2
      obtain ⟨n3, e3, _, _⟩ := DataW.trod_int Tryd.underlying3 h3
      simp only [List.cons.injEq, and_true] at e0 e1 e2 e3
      subst e0 e1 e2 e3
      exact ⟨n0, n1, n2, n3, rfl⟩
/-- Parameters among the arguments. -/
theorem open_par {r : Reach} {b0 : Nat} {v : Value} {d : DataW H} {p : List MemPlace} (hv : Value.okWide Tryd.prog w r b0 23 v) (h : DataW.Trod enc Tryd.prog w base sp held 23 v d p) : ∃ f t s n : Int, v = .agg #[.int .i64 f, .int .i64 t, .int .i64 s, .int .i64 n] := by
  simp only [Value.okWide, Tryd.underlying23] at hv
  obtain ⟨cs, rfl, hsz, _⟩ := hv
  obtain ⟨fuel, hf⟩ := h
  obtain ⟨f, t, s, n, e⟩ := trod_par hf
  exact ⟨f, t, s, n, by rw [← e]; rfl⟩
end
end Go.Proofs.YticpjaooegpipaaDoor
