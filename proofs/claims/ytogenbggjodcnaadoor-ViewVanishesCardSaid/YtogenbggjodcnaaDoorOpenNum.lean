/-
  Slices of numbers among the arguments.
-/
import Derived.Test.YtogenbggjodcnaaDoorOpen
import Derived.Test.YtogenbggjodcnaaDoorKit
import Derived.ChangeSlices
import Derived.JoinedOf
import Derived.JoinedAt
import Derived.Deep.Slices
namespace Go.Proofs.YtogenbggjodcnaaDoor
open Go.ChangeShapes Go.WideShapes Go.ChangeAt Go.WideMaps Go.WideElems Go.RowKit
set_option maxRecDepth 100000

theorem addr_add (b off j : Nat) : (⟨b, off, none⟩ : Addr).add j = ⟨b, off + j, none⟩ := by unfold Addr.add; split <;> simp_all
theorem list_of {α : Type} {P : Nat → α → Prop} : ∀ n, (∀ i, i < n → ∃ e, P i e) → ∃ l : List α, l.length = n ∧ ∀ i e, l[i]? = some e → P i e
  | 0, _ => ⟨[], rfl, fun i e h => by cases h⟩
  | n + 1, h => by
    obtain ⟨l, hl, hp⟩ := list_of n (fun i hi => h i (by omega))
    obtain ⟨e, he⟩ := h n (by omega)
    refine ⟨l ++ [e], by simp [hl], fun i x hx => ?_⟩
    rcases Nat.lt_or_ge i n with hi | hi
    · exact hp i x (by rwa [List.getElem?_append_left (by omega)] at hx)
    · rw [List.getElem?_append_right (by omega)] at hx
      by_cases hin : i = n
      · subst hin; rw [hl] at hx; simp at hx; subst hx; exact he
      · rw [List.getElem?_eq_none (by simp; omega)] at hx; cases hx
section
variable {H : Type} {enc : TypeId × Value → H} {w : World} {base : Nat} {held : Bool}
/-- A slice of numbers as it is read. -/
theorem trod_nums {fuel : Nat} {cs : List Value} {x : DataW H × List MemPlace} (h : DataW.trod enc Tryd.prog w base (fun _ => true) held fuel 23 cs = some x) : ∃ v ps, cs = [v] ∧ NumSl w v ps := by
  rcases Go.Deep.open_slice Tryd.underlying23 h with ⟨hcs, _⟩ | ⟨a, len, cap, m, n, D, Pl, hcs, _, hl, _, hmm, _, hi⟩
  · exact ⟨_, [], hcs, none, 0, rfl, Nat.le_refl _, .inl rfl⟩
  · simp only [if_true] at hmm
    subst hmm
    obtain ⟨l, hll, hp⟩ := list_of (P := fun i (x : Nat) => x < B256 ∧ w.cell? (a.add (i * 4)) = some (.int .u64 (limb x 0 : Int)) ∧ w.cell? (a.add (i * 4 + 1)) = some (.int .u64 (limb x 1 : Int)) ∧ w.cell? (a.add (i * 4 + 2)) = some (.int .u64 (limb x 2 : Int)) ∧ w.cell? (a.add (i * 4 + 3)) = some (.int .u64 (limb x 3 : Int))) len (fun i hil => by
      obtain ⟨cs', hc, ht'⟩ := hi i (by omega)
      obtain ⟨q0, q1, q2, q3, l0, l1, l2, l3, rfl, _⟩ := trod_vec Tryd.underlying28 cells_vec ht'
      rw [cells_vec] at hc
      obtain ⟨_, _, hat⟩ := World.cells?_some hc
      obtain ⟨e0, e1, e2, e3⟩ := limb_val4 l0 l1 l2 l3
      refine ⟨val4 q0 q1 q2 q3, val4_lt l0 l1 l2 l3, ?_, ?_, ?_, ?_⟩
      · have := hat 0 (by omega); rw [Go.Deep.add_add] at this; rw [e0]; exact this
      · have := hat 1 (by omega); rw [Go.Deep.add_add] at this; rw [e1]; exact this
      · have := hat 2 (by omega); rw [Go.Deep.add_add] at this; rw [e2]; exact this
      · have := hat 3 (by omega); rw [Go.Deep.add_add] at this; rw [e3]; exact this)
    refine ⟨_, l, hcs, some a, _, by rw [hll], by rw [hll]; exact hl, ?_⟩
    by_cases h0 : l = []
    · exact .inl h0
    · obtain ⟨x, s, rfl⟩ := List.exists_cons_of_ne_nil h0
      have hs := World.cell?_spot (hp 0 x rfl).2.1
      obtain ⟨b, off, spot⟩ := a
      have hspot : spot = none := by simpa [Addr.add] using hs
      subst hspot
      exact .inr ⟨b, off, rfl, fun i e hie => by
        have := hp i e hie
        rw [addr_add, addr_add, addr_add, addr_add, ← Nat.add_assoc, ← Nat.add_assoc, ← Nat.add_assoc] at this
        exact this⟩
/-- A slice of numbers among the arguments. -/
theorem open_nums {r : Reach} {b0 : Nat} {v : Value} {d : DataW H} {p : List MemPlace} (hv : Value.okWide Tryd.prog w r b0 23 v) (h : DataW.Trod enc Tryd.prog w base (fun _ => true) held 23 v d p) : ∃ l, NumSl w v l := by
  obtain ⟨a0, len, cap, rfl⟩ := okWide_slice Tryd.underlying23 hv
  obtain ⟨fuel, hf⟩ := h
  obtain ⟨v, l, hcs, hl⟩ := trod_nums hf
  simp [Value.cells] at hcs
  subst hcs
  exact ⟨l, hl⟩
end
end Go.Proofs.YtogenbggjodcnaaDoor
