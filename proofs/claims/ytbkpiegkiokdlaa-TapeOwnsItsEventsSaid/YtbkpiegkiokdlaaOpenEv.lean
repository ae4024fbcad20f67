/-
  What the rows' proofs share: a slice of events among the arguments.
-/
import Derived.Test.YtbkpiegkiokdlaaTapeNew
import Derived.ProofKit
import Derived.OpenShut
import Derived.ChangeSlices
import Derived.JoinedOf
import Derived.JoinedAt
import Derived.Deep.Slices
import Derived.Stop.Joined
namespace Go.Proofs.Ytbkpiegkiokdlaa
open Go.ChangeShapes Go.WideShapes Go.ChangeAt Go.WideMaps Go.WideElems Go.RowKit

theorem own : ownKnob Try.prog.godebug = none := by kernel_rfl
theorem laidOut : laidOutB Try.prog = true := by kernel_rfl
theorem cells_int : Try.prog.cellsOf 3 = 1 := by kernel_rfl
theorem cells_ev : Try.prog.cellsOf 41 = 3 := by kernel_rfl
theorem addr_add (b off j : Nat) : (⟨b, off, none⟩ : Addr).add j = ⟨b, off + j, none⟩ := by unfold Addr.add; split <;> simp_all
theorem list_of {α : Type} {P : Nat → α → Prop} : ∀ n, (∀ i, i < n → ∃ e, P i e) → ∃ l : List α, l.length = n ∧ ∀ i e, l[i]? = some e → P i e
  | 0, _ => ⟨[], rfl, fun i e h => by cases h⟩
  | n + 1, h => by
    obtain ⟨l, hl, hp⟩ := list_of n (fun i hi => h i (by omega))
    obtain ⟨e, he⟩ := h n (by omega)
    refine ⟨l ++ [e], by simp [hl], fun i x hx => ?_⟩
    rcases Nat.lt_or_ge i n with hi | hi
    · exact hp i x (by rwa [List.getElem?_append_left (by omega)] at hx)
    · rw [List.getElem?_append_right (by omega)] at hx
      by_cases hin : i = n
      · subst hin; rw [hl] at hx; simp at hx; subst hx; exact he
      · rw [List.getElem?_eq_none (by simp; omega)] at hx; cases hx
section
variable {H : Type} {enc : TypeId × Value → H} {w : World} {base : Nat} {sp : Nat → Bool} {held : Bool}
theorem trod_ev {fuel : Nat} {cs : List Value} {x : DataW H × List MemPlace} (h : DataW.trod enc Try.prog w base sp held fuel 41 cs = some x) : ∃ e : Ev, cs = e.cells := by
  obtain ⟨xs, n, _, _, hl, hlen, hf⟩ := DataW.trod_struct Try.underlying41 h
  rw [cells_ev] at hl
  match cs, hl with
  | [c0, c1, c2], _ =>
    match xs, hlen with
    | [y0, y1, y2], _ =>
      have h0 : DataW.trod enc Try.prog w base sp held n 3 [c0] = some y0 := by
        have := hf 0 _ rfl
        have e : (([c0, c1, c2] : List Value).drop 0).take (Try.prog.cellsOf 3) = [c0] := by rw [cells_int]; rfl
        rw [← e]; exact this
      have h1 : DataW.trod enc Try.prog w base sp held n 3 [c1] = some y1 := by
        have := hf 1 _ rfl
        have e : (([c0, c1, c2] : List Value).drop 1).take (Try.prog.cellsOf 3) = [c1] := by rw [cells_int]; rfl
        rw [← e]; exact this
      have h2 : DataW.trod enc Try.prog w base sp held n 3 [c2] = some y2 := by
        have := hf 2 _ rfl
        have e : (([c0, c1, c2] : List Value).drop 2).take (Try.prog.cellsOf 3) = [c2] := by rw [cells_int]; rfl
        rw [← e]; exact this
      obtain ⟨n0, e0, _, _⟩ := DataW.trod_int Try.underlying3 h0
      obtain ⟨n1, e1, _, _⟩ := DataW.trod_int Try.underlying3 h1
      obtain ⟨n2, e2, _, _⟩ := DataW.trod_int Try.underlying3 h2
      simp only [List.cons.injEq, and_true] at e0 e1 e2
      subst e0 e1 e2
      exact ⟨⟨n0, n1, n2⟩, rfl⟩
/-- A slice of events among the arguments. -/
theorem open_ev {r : Reach} {b0 : Nat} {v : Value} {d : DataW H} {p : List MemPlace} (hv : Value.okWide Try.prog w r b0 22 v) (h : DataW.Trod enc Try.prog w base (fun _ => true) held 22 v d p) : ∃ l, EvSl w v l := by
  obtain ⟨a0, len, cap, rfl⟩ := okWide_slice Try.underlying22 hv
  obtain ⟨fuel, hf⟩ := h
  rcases Go.Deep.open_slice Try.underlying22 hf with ⟨hcs, _⟩ | ⟨a, len', cap', m, n, D, Pl, hcs, _, hl, _, hmm, _, hi⟩
  · simp [Value.cells] at hcs
    obtain ⟨rfl, rfl, rfl⟩ := hcs
    exact ⟨[], none, 0, rfl, Nat.le_refl _, .inl rfl⟩
  · simp [Value.cells] at hcs
    obtain ⟨rfl, rfl, rfl⟩ := hcs
    simp only [if_true] at hmm
    subst hmm
    obtain ⟨l, hll, hp⟩ := list_of (P := fun i (e : Ev) => w.cell? (a.add (i * 3)) = some (.int .i64 e.k) ∧ w.cell? (a.add (i * 3 + 1)) = some (.int .i64 e.a) ∧ w.cell? (a.add (i * 3 + 2)) = some (.int .i64 e.b)) len (fun i hil => by
      obtain ⟨cs', hc, ht'⟩ := hi i (by omega)
      obtain ⟨e, rfl⟩ := trod_ev ht'
      rw [cells_ev] at hc
      obtain ⟨_, _, hat⟩ := World.cells?_some hc
      refine ⟨e, ?_, ?_, ?_⟩
      · have := hat 0 (by omega); rw [Go.Deep.add_add] at this; exact this
      · have := hat 1 (by omega); rw [Go.Deep.add_add] at this; exact this
      · have := hat 2 (by omega); rw [Go.Deep.add_add] at this; exact this)
    refine ⟨l, some a, _, by rw [hll], by rw [hll]; exact hl, ?_⟩
    by_cases h0 : l = []
    · exact .inl h0
    · obtain ⟨x, s, rfl⟩ := List.exists_cons_of_ne_nil h0
      have hs := World.cell?_spot (hp 0 x rfl).1
      obtain ⟨b, off, spot⟩ := a
      have hspot : spot = none := by simpa [Addr.add] using hs
      subst hspot
      exact .inr ⟨b, off, rfl, fun i e hie => by
        have := hp i e hie
        rw [addr_add, addr_add, addr_add, ← Nat.add_assoc, ← Nat.add_assoc] at this
        exact this⟩
end
end Go.Proofs.Ytbkpiegkiokdlaa
