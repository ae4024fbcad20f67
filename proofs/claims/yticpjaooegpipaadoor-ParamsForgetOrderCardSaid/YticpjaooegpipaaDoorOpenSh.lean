/-
  Shares among the arguments.
-/
import Derived.Test.YticpjaooegpipaaDoorOpen
import Derived.Test.YticpjaooegpipaaDoorParList
import Derived.ChangeSlices
import Derived.JoinedOf
import Derived.JoinedAt
import Derived.Deep.Slices
namespace Go.Proofs.YticpjaooegpipaaDoor
open Go.ChangeShapes Go.WideShapes Go.ChangeAt Go.WideMaps Go.WideElems Go.RowKit

theorem cells_sh : Tryd.prog.cellsOf 31 = 5 := by kernel_rfl
theorem cells_es : Tryd.prog.cellsOf 29 = 1 := by kernel_rfl
theorem addr_add (b off j : Nat) : (⟨b, off, none⟩ : Addr).add j = ⟨b, off + j, none⟩ := by unfold Addr.add; split <;> simp_all
theorem list_of {α : Type} {P : Nat → α → Prop} : ∀ n, (∀ i, i < n → ∃ e, P i e) → ∃ l : List α, l.length = n ∧ ∀ i e, l[i]? = some e → P i e
  | 0, _ => ⟨[], rfl, fun i e h => by cases h⟩
  | n + 1, h => by
    obtain ⟨l, hl, hp⟩ := list_of n (fun i hi => h i (by omega))
    obtain ⟨e, he⟩ := h n (by omega)
    refine ⟨l ++ [e], by simp [hl], fun i x hx => ?_⟩
    rcases Nat.lt_or_ge i n with hi | hi
    · exact hp i x (by rwa [List.getElem?_append_left (by omega)] at hx)
    · rw [List.getElem?_append_right (by omega)] at hx
      by_cases hin : i = n
      · subst hin; rw [hl] at hx; simp at hx; subst hx; exact he
      · rw [List.getElem?_eq_none (by simp; omega)] at hx; cases hx
section
variable {H : Type} {enc : TypeId × Value → H} {w : World} {base : Nat} {held : Bool}
/-- A slice of elements as it is read. -/
theorem trod_pay {fuel : Nat} {cs : List Value} {x : DataW H × List MemPlace} (h : DataW.trod enc Tryd.prog w base (fun _ => true) held fuel 29 cs = some x) : ∃ v ps, cs = [v] ∧ PaySl w v ps := by
  rcases Go.Deep.open_slice Tryd.underlying29 h with ⟨hcs, _⟩ | ⟨a, len, cap, m, n, D, Pl, hcs, _, hl, _, hmm, _, hi⟩
  · exact ⟨_, [], hcs, none, 0, rfl, Nat.le_refl _, .inl rfl⟩
  · simp only [if_true] at hmm
    subst hmm
    obtain ⟨l, hll, hp⟩ := list_of (P := fun i (x : Nat) => x < B256 ∧ w.cell? (a.add (i * 4)) = some (.int .u64 (limb x 0 : Int)) ∧ w.cell? (a.add (i * 4 + 1)) = some (.int .u64 (limb x 1 : Int)) ∧ w.cell? (a.add (i * 4 + 2)) = some (.int .u64 (limb x 2 : Int)) ∧ w.cell? (a.add (i * 4 + 3)) = some (.int .u64 (limb x 3 : Int))) len (fun i hil => by
      obtain ⟨cs', hc, ht'⟩ := hi i (by omega)
      obtain ⟨q0, q1, q2, q3, l0, l1, l2, l3, rfl, _⟩ := trod_vec Tryd.underlying46 cells_elem ht'
      rw [cells_elem] at hc
      obtain ⟨_, _, hat⟩ := World.cells?_some hc
      obtain ⟨e0, e1, e2, e3⟩ := limb_val4 l0 l1 l2 l3
      refine ⟨val4 q0 q1 q2 q3, val4_lt l0 l1 l2 l3, ?_, ?_, ?_, ?_⟩
      · have := hat 0 (by omega); rw [Go.Deep.add_add] at this; rw [e0]; exact this
      · have := hat 1 (by omega); rw [Go.Deep.add_add] at this; rw [e1]; exact this
      · have := hat 2 (by omega); rw [Go.Deep.add_add] at this; rw [e2]; exact this
      · have := hat 3 (by omega); rw [Go.Deep.add_add] at this; rw [e3]; exact this)
    refine ⟨_, l, hcs, some a, _, by rw [hll], by rw [hll]; exact hl, ?_⟩
    by_cases h0 : l = []
    · exact .inl h0
    · obtain ⟨x, s, rfl⟩ := List.exists_cons_of_ne_nil h0
      have hs := World.cell?_spot (hp 0 x rfl).2.1
      obtain ⟨b, off, spot⟩ := a
      have hspot : spot = none := by simpa [Addr.add] using hs
      subst hspot
      exact .inr ⟨b, off, rfl, fun i e hie => by
        have := hp i e hie
        rw [addr_add, addr_add, addr_add, addr_add, ← Nat.add_assoc, ← Nat.add_assoc, ← Nat.add_assoc] at this
        exact this⟩
theorem trod_sh {fuel : Nat} {cs : List Value} {x : DataW H × List MemPlace} (h : DataW.trod enc Tryd.prog w base (fun _ => true) held fuel 31 cs = some x) : ∃ s : Shr, cs = s.cells ∧ PaySl w s.v s.ps := by
  obtain ⟨xs, n, _, _, hl, hlen, hf⟩ := DataW.trod_struct Tryd.underlying31 h
  rw [cells_sh] at hl
  match cs, hl with
  | [c0, c1, c2, c3, c4], _ =>
    match xs, hlen with
    | [y0, y1, y2, y3, y4], _ =>
      have h0 : DataW.trod enc Tryd.prog w base (fun _ => true) held n 3 [c0] = some y0 := by
        have := hf 0 _ rfl
        have e : (([c0, c1, c2, c3, c4] : List Value).drop 0).take (Tryd.prog.cellsOf 3) = [c0] := by rw [cells_int]; rfl
        rw [← e]; exact this
      have h1 : DataW.trod enc Tryd.prog w base (fun _ => true) held n 3 [c1] = some y1 := by
        have := hf 1 _ rfl
        have e : (([c0, c1, c2, c3, c4] : List Value).drop 1).take (Tryd.prog.cellsOf 3) = [c1] := by rw [cells_int]; rfl
        rw [← e]; exact this
      have h2 : DataW.trod enc Tryd.prog w base (fun _ => true) held n 3 [c2] = some y2 := by
        have := hf 2 _ rfl
        have e : (([c0, c1, c2, c3, c4] : List Value).drop 2).take (Tryd.prog.cellsOf 3) = [c2] := by rw [cells_int]; rfl
        rw [← e]; exact this
      have h3 : DataW.trod enc Tryd.prog w base (fun _ => true) held n 3 [c3] = some y3 := by
        have := hf 3 _ rfl
        have e : (([c0, c1, c2, c3, c4] : List Value).drop 3).take (Tryd.prog.cellsOf 3) = [c3] := by rw [cells_int]; rfl
        rw [← e]; exact this
      have h4 : DataW.trod enc Tryd.prog w base (fun _ => true) held n 29 [c4] = some y4 := by
        have := hf 4 _ rfl
        have e : (([c0, c1, c2, c3, c4] : List Value).drop 4).take (Tryd.prog.cellsOf 29) = [c4] := by rw [cells_es]; rfl
        rw [← e]; exact this
      obtain ⟨n0, e0, _, _⟩ := DataW.trod_int Tryd.underlying3 h0
      obtain ⟨n1, e1, _, _⟩ := DataW.trod_int Tryd.underlying3 h1
      obtain ⟨n2, e2, _, _⟩ := DataW.trod_int Tryd.underlying3 h2
      obtain ⟨n3, e3, _, _⟩ := DataW.trod_int Tryd.underlying3 h3
      obtain ⟨v, ps, e4, hp⟩ := trod_pay h4
      simp only [List.cons.injEq, and_true] at e0 e1 e2 e3 e4
      subst e0 e1 e2 e3 e4
      exact ⟨⟨n0, n1, n2, n3, c4, ps⟩, rfl, hp⟩
/-- A share among the arguments. -/
theorem open_sh {r : Reach} {b0 : Nat} {v : Value} {d : DataW H} {p : List MemPlace} (hv : Value.okWide Tryd.prog w r b0 31 v) (h : DataW.Trod enc Tryd.prog w base (fun _ => true) held 31 v d p) : ∃ s : Shr, v = .agg #[.int .i64 s.f, .int .i64 s.t, .int .i64 s.i, .int .i64 s.n, s.v] ∧ PaySl w s.v s.ps := by
  simp only [Value.okWide, Tryd.underlying31] at hv
  obtain ⟨cs, rfl, hsz, _⟩ := hv
  obtain ⟨fuel, hf⟩ := h
  obtain ⟨s, e, hp⟩ := trod_sh hf
  exact ⟨s, by rw [show (#[.int .i64 s.f, .int .i64 s.t, .int .i64 s.i, .int .i64 s.n, s.v] : Array Value) = s.cells.toArray from rfl, ← e]; rfl, hp⟩
/-- A slice of shares among the arguments. -/
theorem open_shs {r : Reach} {b0 : Nat} {v : Value} {d : DataW H} {p : List MemPlace} (hv : Value.okWide Tryd.prog w r b0 33 v) (h : DataW.Trod enc Tryd.prog w base (fun _ => true) held 33 v d p) : ∃ l, ShSl w v l := by
  obtain ⟨a0, len, cap, rfl⟩ := okWide_slice Tryd.underlying33 hv
  obtain ⟨fuel, hf⟩ := h
  rcases Go.Deep.open_slice Tryd.underlying33 hf with ⟨hcs, _⟩ | ⟨a, len', cap', m, n, D, Pl, hcs, _, hl, _, hmm, _, hi⟩
  · simp [Value.cells] at hcs
    obtain ⟨rfl, rfl, rfl⟩ := hcs
    exact ⟨[], none, 0, rfl, Nat.le_refl _, .inl rfl⟩
  · simp [Value.cells] at hcs
    obtain ⟨rfl, rfl, rfl⟩ := hcs
    simp only [if_true] at hmm
    subst hmm
    obtain ⟨l, hll, hp⟩ := list_of (P := fun i (s : Shr) => PaySl w s.v s.ps ∧ w.cell? (a.add (i * 5)) = some (.int .i64 s.f) ∧ w.cell? (a.add (i * 5 + 1)) = some (.int .i64 s.t) ∧ w.cell? (a.add (i * 5 + 2)) = some (.int .i64 s.i) ∧ w.cell? (a.add (i * 5 + 3)) = some (.int .i64 s.n) ∧ w.cell? (a.add (i * 5 + 4)) = some s.v) len (fun i hil => by
      obtain ⟨cs', hc, ht'⟩ := hi i (by omega)
      obtain ⟨e, rfl, hpay⟩ := trod_sh ht'
      rw [cells_sh] at hc
      obtain ⟨_, _, hat⟩ := World.cells?_some hc
      refine ⟨e, hpay, ?_, ?_, ?_, ?_, ?_⟩
      · have := hat 0 (by omega); rw [Go.Deep.add_add] at this; exact this
      · have := hat 1 (by omega); rw [Go.Deep.add_add] at this; exact this
      · have := hat 2 (by omega); rw [Go.Deep.add_add] at this; exact this
      · have := hat 3 (by omega); rw [Go.Deep.add_add] at this; exact this
      · have := hat 4 (by omega); rw [Go.Deep.add_add] at this; exact this)
    refine ⟨l, some a, _, by rw [hll], by rw [hll]; exact hl, ?_⟩
    by_cases h0 : l = []
    · exact .inl h0
    · obtain ⟨x, s, rfl⟩ := List.exists_cons_of_ne_nil h0
      have hs := World.cell?_spot (hp 0 x rfl).2.1
      obtain ⟨b, off, spot⟩ := a
      have hspot : spot = none := by simpa [Addr.add] using hs
      subst hspot
      exact .inr ⟨b, off, rfl, fun i e hie => by
        have := hp i e hie
        rw [addr_add, addr_add, addr_add, addr_add, addr_add, ← Nat.add_assoc, ← Nat.add_assoc, ← Nat.add_assoc, ← Nat.add_assoc] at this
        exact this⟩
end
end Go.Proofs.YticpjaooegpipaaDoor
