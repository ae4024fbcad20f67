/-
  Slices of bytes and of integers among the arguments.
-/
import Derived.Test.YtaakdmjmanbggaaDoorOpen
import Derived.Test.YtaakdmjmanbggaaDoorSrcU
import Derived.ChangeSlices
import Derived.JoinedOf
import Derived.JoinedAt
import Derived.Deep.Slices
namespace Go.Proofs.YtaakdmjmanbggaaDoor
open Go.ChangeShapes Go.WideShapes Go.ChangeAt Go.WideMaps Go.WideElems Go.RowKit
set_option maxRecDepth 100000

theorem addr_add (b off j : Nat) : (⟨b, off, none⟩ : Addr).add j = ⟨b, off + j, none⟩ := by unfold Addr.add; split <;> simp_all
theorem list_of {α : Type} {P : Nat → α → Prop} : ∀ n, (∀ i, i < n → ∃ e, P i e) → ∃ l : List α, l.length = n ∧ ∀ i e, l[i]? = some e → P i e
  | 0, _ => ⟨[], rfl, fun i e h => by cases h⟩
  | n + 1, h => by
    obtain ⟨l, hl, hp⟩ := list_of n (fun i hi => h i (by omega))
    obtain ⟨e, he⟩ := h n (by omega)
    refine ⟨l ++ [e], by simp [hl], fun i x hx => ?_⟩
    rcases Nat.lt_or_ge i n with hi | hi
    · exact hp i x (by rwa [List.getElem?_append_left (by omega)] at hx)
    · rw [List.getElem?_append_right (by omega)] at hx
      by_cases hin : i = n
      · subst hin; rw [hl] at hx; simp at hx; subst hx; exact he
      · rw [List.getElem?_eq_none (by simp; omega)] at hx; cases hx
theorem cells_u8 : Tryd.prog.cellsOf 5 = 1 := by kernel_rfl
theorem cells_y2 : Tryd.prog.cellsOf 60 = 2 := by kernel_rfl
theorem nat_u8 {n : Int} (h : (Lit.int .u8 n).wf = true) : ∃ m : Nat, n = m ∧ m < 256 := by
  have := bounds_u8 h
  exact ⟨n.toNat, by omega, by omega⟩
section
variable {H : Type} {enc : TypeId × Value → H} {w : World} {base : Nat} {held : Bool}
/-- A slice of bytes among the arguments. -/
theorem open_bytes {r : Reach} {b0 : Nat} {v : Value} {d : DataW H} {p : List MemPlace} (hv : Value.okWide Tryd.prog w r b0 22 v) (h : DataW.Trod enc Tryd.prog w base (fun _ => true) held 22 v d p) : ∃ l, ByteSl w v l := by
  obtain ⟨a0, len, cap, rfl⟩ := okWide_slice Tryd.underlying22 hv
  obtain ⟨fuel, hf⟩ := h
  rcases Go.Deep.open_slice Tryd.underlying22 hf with ⟨hcs, _⟩ | ⟨a, len, cap, m, n, D, Pl, hcs, _, hl, _, hmm, _, hi⟩
  · simp [Value.cells] at hcs
    obtain ⟨rfl, rfl, rfl⟩ := hcs
    exact ⟨[], none, _, rfl, Nat.le_refl _, .inl rfl⟩
  · simp [Value.cells] at hcs
    obtain ⟨rfl, rfl, rfl⟩ := hcs
    simp only [if_true] at hmm
    subst hmm
    obtain ⟨l, hll, hp⟩ := list_of (P := fun i (x : Nat) => x < 256 ∧ w.cell? (a.add i) = some (.int .u8 (x : Int))) len (fun i hil => by
      obtain ⟨cs', hc, ht'⟩ := hi i (by omega)
      obtain ⟨n0, rfl, _, w0⟩ := DataW.trod_int Tryd.underlying5 ht'
      rw [cells_u8] at hc
      obtain ⟨_, _, hat⟩ := World.cells?_some hc
      obtain ⟨m0, rfl, l0⟩ := nat_u8 w0
      refine ⟨m0, l0, ?_⟩
      have := hat 0 (by omega)
      rw [Go.Deep.add_add, Nat.mul_one, Nat.add_zero] at this
      exact this)
    refine ⟨l, some a, _, by rw [hll], by rw [hll]; exact hl, ?_⟩
    by_cases h0 : l = []
    · exact .inl h0
    · obtain ⟨x, s, rfl⟩ := List.exists_cons_of_ne_nil h0
      have hs := World.cell?_spot (hp 0 x rfl).2
      obtain ⟨b, off, spot⟩ := a
      have hspot : spot = none := by simpa [Addr.add] using hs
      subst hspot
      exact .inr ⟨b, off, rfl, fun i e hie => by
        have := hp i e hie
        rw [addr_add] at this
        exact this⟩
/-- A slice of integers among the arguments. -/
theorem open_ints {r : Reach} {b0 : Nat} {v : Value} {d : DataW H} {p : List MemPlace} (hv : Value.okWide Tryd.prog w r b0 23 v) (h : DataW.Trod enc Tryd.prog w base (fun _ => true) held 23 v d p) : ∃ l, IntSl w v l := by
  obtain ⟨a0, len, cap, rfl⟩ := okWide_slice Tryd.underlying23 hv
  obtain ⟨fuel, hf⟩ := h
  rcases Go.Deep.open_slice Tryd.underlying23 hf with ⟨hcs, _⟩ | ⟨a, len, cap, m, n, D, Pl, hcs, _, hl, _, hmm, _, hi⟩
  · simp [Value.cells] at hcs
    obtain ⟨rfl, rfl, rfl⟩ := hcs
    exact ⟨[], none, _, rfl, .inl rfl⟩
  · simp [Value.cells] at hcs
    obtain ⟨rfl, rfl, rfl⟩ := hcs
    simp only [if_true] at hmm
    subst hmm
    obtain ⟨l, hll, hp⟩ := list_of (P := fun i (x : Int) => w.cell? (a.add i) = some (.int .i64 x)) len (fun i hil => by
      obtain ⟨cs', hc, ht'⟩ := hi i (by omega)
      obtain ⟨n0, rfl, _, _⟩ := DataW.trod_int Tryd.underlying3 ht'
      rw [cells_int] at hc
      obtain ⟨_, _, hat⟩ := World.cells?_some hc
      refine ⟨n0, ?_⟩
      have := hat 0 (by omega)
      rw [Go.Deep.add_add, Nat.mul_one, Nat.add_zero] at this
      exact this)
    refine ⟨l, some a, _, by rw [hll], ?_⟩
    by_cases h0 : l = []
    · exact .inl h0
    · obtain ⟨x, s, rfl⟩ := List.exists_cons_of_ne_nil h0
      have hs := World.cell?_spot (hp 0 x rfl)
      obtain ⟨b, off, spot⟩ := a
      have hspot : spot = none := by simpa [Addr.add] using hs
      subst hspot
      exact .inr ⟨b, off, rfl, fun i e hie => by
        have := hp i e hie
        rw [addr_add] at this
        exact this⟩
variable {sp : Nat → Bool}
theorem open_y2 {r : Reach} {b0 : Nat} {v : Value} {d : DataW H} {p : List MemPlace} (hv : Value.okWide Tryd.prog w r b0 60 v) (h : DataW.Trod enc Tryd.prog w base sp held 60 v d p) : ∃ d0 d1 : Nat, d0 < 256 ∧ d1 < 256 ∧ v = .agg #[.int .u8 (d0 : Int), .int .u8 (d1 : Int)] := by
  simp only [Value.okWide, Tryd.underlying60] at hv
  obtain ⟨cs, rfl, hsz, _⟩ := hv
  obtain ⟨fuel, hf⟩ := h
  obtain ⟨xs, n, _, hx, hl, hlen, hg⟩ := DataW.trod_array Tryd.underlying60 hf
  rw [cells_y2] at hl
  obtain ⟨c0, c1, rfl⟩ : ∃ c0 c1, cs = #[c0, c1] := by
    have e : cs.toList.length = 2 := hl
    match cs, e with
    | ⟨[a, b]⟩, _ => exact ⟨a, b, rfl⟩
  have g0 := hg 0 (by omega)
  have g1 := hg 1 (by omega)
  rw [cells_u8] at g0 g1
  match xs, hlen with
  | [y0, y1], _ =>
    have h0 : DataW.trod enc Tryd.prog w base sp held n 5 [c0] = some y0 := g0
    have h1 : DataW.trod enc Tryd.prog w base sp held n 5 [c1] = some y1 := g1
    obtain ⟨n0, e0, _, w0⟩ := DataW.trod_int Tryd.underlying5 h0
    obtain ⟨n1, e1, _, w1⟩ := DataW.trod_int Tryd.underlying5 h1
    obtain ⟨m0, rfl, l0⟩ := nat_u8 w0
    obtain ⟨m1, rfl, l1⟩ := nat_u8 w1
    simp only [List.cons.injEq, and_true] at e0 e1
    subst e0 e1
    exact ⟨m0, m1, l0, l1, rfl⟩
end
end Go.Proofs.YtaakdmjmanbggaaDoor
