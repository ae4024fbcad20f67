/-
  Points with values among the arguments: a struct of two slices.
-/
import Derived.Test.YtogenbggjodcnaaDoorOpenInt
namespace Go.Proofs.YtogenbggjodcnaaDoor
open Go.ChangeShapes Go.WideShapes Go.ChangeAt Go.WideMaps Go.WideElems Go.RowKit
set_option maxRecDepth 100000

theorem cells_pts : Tryd.prog.cellsOf 25 = 2 := by kernel_rfl
theorem cells_is : Tryd.prog.cellsOf 22 = 1 := by kernel_rfl
theorem cells_vs : Tryd.prog.cellsOf 23 = 1 := by kernel_rfl
section
variable {H : Type} {enc : TypeId × Value → H} {w : World} {base : Nat} {held : Bool}
theorem trod_ints {fuel : Nat} {cs : List Value} {x : DataW H × List MemPlace} (h : DataW.trod enc Tryd.prog w base (fun _ => true) held fuel 22 cs = some x) : ∃ v l, cs = [v] ∧ IntSl w v l ∧ ∀ a n c, v = .slice a n c → n ≤ c := by
  rcases Go.Deep.open_slice Tryd.underlying22 h with ⟨hcs, _⟩ | ⟨a, len, cap, m, n, D, Pl, hcs, _, hl, _, hmm, _, hi⟩
  · exact ⟨_, [], hcs, ⟨none, 0, rfl, .inl rfl⟩, fun a n c e => by cases e; exact Nat.le_refl _⟩
  · simp only [if_true] at hmm
    subst hmm
    obtain ⟨l, hll, hp⟩ := list_of (P := fun i (x : Int) => w.cell? (a.add i) = some (.int .i64 x)) len (fun i hil => by
      obtain ⟨cs', hc, ht'⟩ := hi i (by omega)
      obtain ⟨n0, rfl, _, _⟩ := DataW.trod_int Tryd.underlying3 ht'
      rw [cells_int] at hc
      obtain ⟨_, _, hat⟩ := World.cells?_some hc
      refine ⟨n0, ?_⟩
      have := hat 0 (by omega)
      rw [Go.Deep.add_add, Nat.mul_one, Nat.add_zero] at this
      exact this)
    refine ⟨_, l, hcs, ⟨some a, _, by rw [hll], ?_⟩, fun a n c e => by cases e; exact hl⟩
    by_cases h0 : l = []
    · exact .inl h0
    · obtain ⟨x, s, rfl⟩ := List.exists_cons_of_ne_nil h0
      have hs := World.cell?_spot (hp 0 x rfl)
      obtain ⟨b, off, spot⟩ := a
      have hspot : spot = none := by simpa [Addr.add] using hs
      subst hspot
      exact .inr ⟨b, off, rfl, fun i e hie => by
        have := hp i e hie
        rw [addr_add] at this
        exact this⟩
/-- A slice of integers among the arguments, with its capacity. -/
theorem open_intsc {r : Reach} {b0 : Nat} {v : Value} {d : DataW H} {p : List MemPlace} (hv : Value.okWide Tryd.prog w r b0 22 v) (h : DataW.Trod enc Tryd.prog w base (fun _ => true) held 22 v d p) : ∃ l, IntSl w v l ∧ ∀ a n c, v = .slice a n c → n ≤ c := by
  obtain ⟨a0, len, cap, rfl⟩ := okWide_slice Tryd.underlying22 hv
  obtain ⟨fuel, hf⟩ := h
  obtain ⟨v, l, hcs, hl, hc⟩ := trod_ints hf
  simp [Value.cells] at hcs
  subst hcs
  exact ⟨l, hl, hc⟩
/-- Points with values among the arguments. -/
theorem open_pts {r : Reach} {b0 : Nat} {v : Value} {d : DataW H} {p : List MemPlace} (hv : Value.okWide Tryd.prog w r b0 25 v) (h : DataW.Trod enc Tryd.prog w base (fun _ => true) held 25 v d p) : ∃ v1 v2 l1 l2, v = .agg #[v1, v2] ∧ IntSl w v1 l1 ∧ NumSl w v2 l2 ∧ ∀ a n c, v1 = .slice a n c → n ≤ c := by
  simp only [Value.okWide, Tryd.underlying25] at hv
  obtain ⟨cs, rfl, hsz, _⟩ := hv
  obtain ⟨fuel, hf⟩ := h
  obtain ⟨xs, n, _, _, hl, hlen, hg⟩ := DataW.trod_struct Tryd.underlying25 hf
  rw [cells_pts] at hl
  obtain ⟨c0, c1, rfl⟩ : ∃ c0 c1, cs = #[c0, c1] := by
    have e : cs.toList.length = 2 := hl
    match cs, e with
    | ⟨[a, b]⟩, _ => exact ⟨a, b, rfl⟩
  match xs, hlen with
  | [y0, y1], _ =>
    have h0 : DataW.trod enc Tryd.prog w base (fun _ => true) held n 22 [c0] = some y0 := by
      have := hg 0 _ rfl
      have e : (([c0, c1] : List Value).drop 0).take (Tryd.prog.cellsOf 22) = [c0] := by rw [cells_is]; rfl
      rw [← e]; exact this
    have h1 : DataW.trod enc Tryd.prog w base (fun _ => true) held n 23 [c1] = some y1 := by
      have := hg 1 _ rfl
      have e : (([c0, c1] : List Value).drop 1).take (Tryd.prog.cellsOf 23) = [c1] := by rw [cells_vs]; rfl
      rw [← e]; exact this
    obtain ⟨u1, l1, e1, i1, k1⟩ := trod_ints h0
    obtain ⟨u2, l2, e2, i2⟩ := trod_nums h1
    simp only [List.cons.injEq, and_true] at e1 e2
    subst e1 e2
    exact ⟨_, _, l1, l2, rfl, i1, i2, k1⟩
end
end Go.Proofs.YtogenbggjodcnaaDoor
