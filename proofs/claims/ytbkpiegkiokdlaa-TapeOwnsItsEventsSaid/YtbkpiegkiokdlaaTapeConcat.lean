/-
  Grow, Concat, Clone of slices of events.
-/
import Derived.Test.YtbkpiegkiokdlaaTapeNil
import Derived.Lib.AppendZerosOnto
import Derived.Lib.AppendZeros
import Derived.Lib.SliceRun
import Derived.WalkSpells
namespace Go.Proofs.Ytbkpiegkiokdlaa
open Go.RowKit

theorem run_append_nothing (base n : Nat) (v : Value) (xs : List Value) (a : Option Addr) (c : Nat) (ty : TypeId) (w : World) (h : w.ownsRow base 41 3 v n xs) :
    (Builtin.append_ #[22, 22] ty #[v, .slice a 0 c]).run Try.prog w = .ok v w := by
  obtain ⟨i0, hi, hz0, hz1, hz2⟩ := info_parts info_ev
  have hf : (Builtin.firstCells 3 0 (.slice a 0 c)).run Try.prog w = .ok #[] w := by
    cases a with
    | none => simp [Builtin.firstCells]
    | some a => simp [Builtin.firstCells, loadCells, loadCellsFrom]
  have ht := Try.underlying22
  obtain ⟨_, ⟨rfl, rfl⟩ | ⟨g, cap, cur, rfl, _, _, hnc, _⟩⟩ := h
  · simp [Builtin.append_, run_underlying ht, sizeOf, typeInfo, hi, hz1, Builtin.lenOf, hf]
  · simp [Builtin.append_, run_underlying ht, sizeOf, typeInfo, hi, hz1, Builtin.lenOf, hf, hnc, storeCells]
theorem run_append_ev (base n : Nat) (v u : Value) (xs : List Value) (m : List Ev) (ty : TypeId) (w : World) (h : w.ownsRow base 41 3 v n xs) (hu : EvSl w u m) (hn : n + m.length < 1000000000) (hb : base ≤ w.heap.size) :
    ∃ v' w', (Builtin.append_ #[22, 22] ty #[v, u]).run Try.prog w = .ok v' w' ∧ w'.ownsRow base 41 3 v' (n + m.length) (xs ++ evs m) ∧ w.grownBy w' v.ownBlock := by
  obtain ⟨i0, hi, hz0, hz1, hz2⟩ := info_parts info_ev
  obtain ⟨a, cap, rfl, _, rfl | ⟨g, off, rfl, he⟩⟩ := hu
  · exact ⟨v, w, run_append_nothing base n v xs a cap ty w h, by simpa [evs] using h, ⟨rfl, rfl, rfl, Nat.le_refl _, fun _ _ _ => rfl⟩⟩
  · have hnews : ∀ j x, (evs m)[j]? = some x → w.cell? ((⟨g, off, none⟩ : Addr).add j) = some x := by
      intro j x hj
      have hjl : j < m.length * 3 := by
        rcases Nat.lt_or_ge j (m.length * 3) with h9 | h9
        · exact h9
        · rw [List.getElem?_eq_none (by rw [evs_len]; exact h9)] at hj; cases hj
      have hadd : (⟨g, off, none⟩ : Addr).add j = ⟨g, off + j, none⟩ := by unfold Addr.add; split <;> simp_all
      rw [hadd]
      obtain ⟨q, r, rfl, hr⟩ : ∃ q r, j = q * 3 + r ∧ r < 3 := ⟨j / 3, j % 3, by omega, by omega⟩
      obtain ⟨e, hq⟩ : ∃ e, m[q]? = some e := ⟨m[q]'(by omega), List.getElem?_eq_getElem _⟩
      obtain ⟨a0, a1, a2⟩ := evs_get m _ e hq
      obtain ⟨b0, b1, b2⟩ := he _ e hq
      have hcase : r = 0 ∨ r = 1 ∨ r = 2 := by omega
      rcases hcase with rfl | rfl | rfl
      · rw [Nat.add_zero] at hj ⊢; rw [a0] at hj; cases hj; exact b0
      · rw [a1] at hj; cases hj; rw [← Nat.add_assoc]; exact b1
      · rw [a2] at hj; cases hj; rw [← Nat.add_assoc]; exact b2
    obtain ⟨v', w', hr, h2, h3, _, _⟩ := run_append_own_at (P := Try.prog) w base 22 ty 41 i0 (.agg #[.int .i64 0, .int .i64 0, .int .i64 0]) 3 24 Try.underlying22 hi hz0 hz1 hz2 rfl (by decide) v n xs h ⟨g, off, none⟩ m.length cap (evs m) (evs_len m) hnews
      (fun x hx => by
        simp only [evs, List.mem_flatMap] at hx
        obtain ⟨e, _, hx⟩ := hx
        simp only [Ev.cells, List.mem_cons, List.not_mem_nil, or_false] at hx
        rcases hx with rfl | rfl | rfl <;> rfl) (by unfold maxLen; omega) (by omega) hb
    exact ⟨v', w', hr, h2, h3⟩
set_option maxHeartbeats 2000000 in
theorem grow_any (n : Nat) (w : World) (hn : n < 1000000000) :
    Calls Try.prog 29 #[.slice none 0 0, .int .i64 (n : Int)] w (RetOwn 41 3 0 [] w) := by
  have h1 : ¬ ((n : Int) < 0) := by omega
  by_cases h0 : n = 0
  · subst h0
    go_enter Try.func29, Try.ntmps29
    go_wp2
    go_ret
    exact ⟨_, rfl, World.ownsRow_nil _ _ _ _, Below.refl _ _⟩
  · obtain ⟨i0, hi, hz0, hz1, hz2⟩ := info_parts info_ev
    have hp : (0 : Int) < (n : Int) := by omega
    have hrz : ∀ ty, (Builtin.append_ #[22, 3] ty #[.slice none 0 0, .int .i64 (n : Int)]).run Try.prog w =
      .ok (.slice (some ⟨w.heap.size, 0, none⟩) n (grownCap w n 0 41)) (w.drew.alloc (.cells ((#[] : Array Value) ++ Builtin.zeroCells (Value.agg #[.int .i64 0, .int .i64 0, .int .i64 0]).cells n ++ Builtin.zeroCells (Value.agg #[.int .i64 0, .int .i64 0, .int .i64 0]).cells (grownCap w n 0 41 - n)) 41)) := fun ty => by
      have h := Lib.run_append_grow_zeros w 22 3 ty 41 i0 _ .i64 .i64 Try.underlying22 Try.underlying3 hi hz0 none 0 0 [] (by simp [Builtin.firstCells]) n (by omega) (by rw [hz1]; decide) (by omega) (by omega) (by rw [hz2]; omega)
        (by rw [hz2, Nat.zero_add]; exact growslice_fits (by omega) (by omega))
      rw [Nat.zero_add] at h
      exact h
    have hge : n ≤ grownCap w n 0 41 := grownCap_ge w _ _ _
    have hle := grownCap_le_maxLen w n 0 41 (by unfold maxLen; omega)
    obtain ⟨G, hG⟩ : ∃ G, G = grownCap w n 0 41 := ⟨_, rfl⟩
    rw [← hG] at hrz hge hle
    have hsz : ((#[] : Array Value) ++ Builtin.zeroCells (Value.agg #[.int .i64 0, .int .i64 0, .int .i64 0]).cells n ++ Builtin.zeroCells (Value.agg #[.int .i64 0, .int .i64 0, .int .i64 0]).cells (G - n)).size = G * 3 := by
      simp only [Array.size_append, size_zeroCells, Value.cells]; simp; omega
    generalize (#[] : Array Value) ++ Builtin.zeroCells (Value.agg #[.int .i64 0, .int .i64 0, .int .i64 0]).cells n ++ Builtin.zeroCells (Value.agg #[.int .i64 0, .int .i64 0, .int .i64 0]).cells (G - n) = cs at hrz hsz
    have hgi : (0 : Int) ≤ (G : Int) := by omega
    have HL := hid hle
    have HS := hid hsz
    clear hG hi hz0 hz1 hz2 hle hsz
    go_enter Try.func29, Try.ntmps29
    go_wp2_with (at_builtin; refine Lib.wpList_append_run _ rfl _ _ _ _ rfl _ _ rfl rfl _ _ (hrz _) ?_)
    go_ret
    have hown : (w.alloc (.cells cs 41)).ownsRow w.heap.size 41 3 (.slice (some ⟨w.heap.size, 0, none⟩) 0 G) 0 [] := World.ownsRow_made w cs G (Nat.le_refl _) HL.out HS.out
    exact ⟨_, rfl, owns_grow hown (Grow.refl 0 _).drew, by go_grown⟩
set_option maxRecDepth 100000 in
set_option maxHeartbeats 2000000 in
theorem concat_two (g c : Nat) (v u : Value) (l m : List Ev) (w : World) (hc0 : w.cell? ⟨g, 0, none⟩ = some v) (hc1 : w.cell? ⟨g, 1, none⟩ = some u) (hv : EvSl w v l) (hu : EvSl w u m) (hn : l.length + m.length < 1000000000) :
    Calls Try.prog 24 #[.slice (some ⟨g, 0, none⟩) 2 c] w (RetOwn 41 3 (l ++ m).length (evs (l ++ m)) w) := by
  have HV := hid hv
  have HU := hid hu
  obtain ⟨a, cap, rfl, _, _⟩ := hv
  obtain ⟨a', cap', rfl, _, _⟩ := hu
  obtain ⟨n1, hn1⟩ : ∃ n, l.length = n := ⟨_, rfl⟩
  obtain ⟨n2, hn2⟩ : ∃ n, m.length = n := ⟨_, rfl⟩
  have N1 := hid hn1
  have N2 := hid hn2
  rw [hn1] at hc0
  rw [hn2] at hc1
  rw [hn1, hn2] at hn
  have hz : World.heap w = w.heap := rfl
  have zg : g < w.heap.size := World.block_lt_of_cell? _ _ hc0
  have d1 : decide ((n1 : Int) < 0) = false := by simp
  have d2 : decide ((n1 : Int) + (n2 : Int) < 0) = false := by simp; omega
  have d3 : ¬ ((n1 : Int) + (n2 : Int) < 0) := by omega
  have HG := hid (grow_any (n1 + n2) w (by omega))
  clear hn1 hn2 hz
  go_enter Try.func24, Try.ntmps24
  go_wp2
  refine wp_loop_rounds 3 ?_
  rw [rounds_succ]
  go_wp2
  rw [rounds_succ]
  go_wp2
  rw [rounds_succ]
  go_wp2_with (go_at_call 29; refine HG.out.mono ?_; rintro e w1 ⟨v0, rfl, h1, b1⟩; have H1 := hid h1; have B1 := hid b1; have e0 := (b1.cell (p := ⟨g, 0, none⟩) zg).trans hc0; have e1 := (b1.cell (p := ⟨g, 1, none⟩) zg).trans hc1; clear h1 b1)
  refine wp_loop_rounds 3 ?_
  rw [rounds_succ]
  obtain ⟨v1, w2, r1, o1, g1⟩ := run_append_ev w.heap.size 0 v0 (.slice a l.length cap) [] l 22 w1 H1.out (HV.out.below B1.out) (by rw [N1.out]; omega) B1.out.size
  have B2 := hid (Below.grown B1.out g1 B1.out.size (fun k e => (H1.out.lt k e).1))
  have f1 := (B2.out.cell (p := ⟨g, 1, none⟩) zg).trans hc1
  have O1 := hid o1
  rw [N1.out] at r1
  clear o1 g1
  go_wp2_with (at_builtin; refine Lib.wpList_append_run _ rfl _ _ _ _ rfl _ _ rfl rfl _ _ r1 ?_)
  rw [rounds_succ]
  obtain ⟨v2, w3, r2, o2, g2⟩ := run_append_ev w.heap.size (0 + l.length) v1 (.slice a' m.length cap') ([] ++ evs l) m 22 w2 O1.out (HU.out.below B2.out) (by rw [N1.out, N2.out]; omega) B2.out.size
  have B3 := hid (Below.grown B2.out g2 B2.out.size (fun k e => (O1.out.lt k e).1))
  have O2 := hid o2
  rw [N2.out] at r2
  clear o2 g2
  go_wp2_with (at_builtin; refine Lib.wpList_append_run _ rfl _ _ _ _ rfl _ _ rfl rfl _ _ r2 ?_)
  rw [rounds_succ]
  go_wp2
  go_ret
  refine ⟨_, rfl, ?_, B3.out⟩
  have e : evs (l ++ m) = [] ++ evs l ++ evs m := by simp [evs]
  rw [e, List.length_append, ← Nat.zero_add (l.length)]
  exact O2.out
set_option maxHeartbeats 2000000 in
theorem clone_any (v : Value) (l : List Ev) (w : World) (hv : EvSl w v l) (hn : l.length < 1000000000) :
    Calls Try.prog 25 #[v] w (RetOwn 41 3 l.length (evs l) w) := by
  have HV := hid hv
  obtain ⟨a, cap, rfl, _, hc⟩ := hv
  cases a with
  | none =>
    have hl : l = [] := by
      rcases hc with h | ⟨g, off, h, _⟩
      · exact h
      · cases h
    subst hl
    have hq : ∀ W : World, (binOp .eql 22 (.slice none 0 cap) (.slice none 0 0)).run Try.prog W = .ok (.bool true) W := fun W => Lib.run_eql_slice_nil W 22 41 none _ _ 0 0 Try.underlying22
    go_enter Try.func25, Try.ntmps25
    go_wp2
    go_ret
    exact ⟨_, rfl, World.ownsRow_nil _ _ _ _, Below.refl _ _⟩
  | some a =>
    have HO : (w.alloc (.cells #[] 41)).ownsRow w.heap.size 41 3 (.slice (some ⟨w.heap.size, 0, none⟩) 0 0) 0 [] := World.ownsRow_made w #[] 0 (Nat.le_refl _) (by unfold maxLen; omega) (by simp)
    have hB : Below w.heap.size w (w.alloc (.cells #[] 41)) := by go_grown
    obtain ⟨v1, w2, r1, o1, g1⟩ := run_append_ev w.heap.size 0 _ (.slice (some a) l.length cap) [] l 22 _ HO (HV.out.below hB) (by omega) hB.size
    have B2 := hid (Below.grown hB g1 hB.size (fun k e => (HO.lt k e).1))
    have O1 := hid o1
    have hq : ∀ W : World, (binOp .eql 22 (.slice (some a) l.length cap) (.slice none 0 0)).run Try.prog W = .ok (.bool false) W := fun W => Lib.run_eql_slice_nil W 22 41 (some a) _ _ 0 0 Try.underlying22
    clear o1 g1 HO hB hc
    go_enter Try.func25, Try.ntmps25
    go_wp2_with (at_builtin; refine Lib.wpList_append_run _ rfl _ _ _ _ rfl _ _ rfl rfl _ _ r1 ?_)
    go_ret
    refine ⟨_, rfl, ?_, B2.out⟩
    have := O1.out
    rw [Nat.zero_add, List.nil_append] at this
    exact this
end Go.Proofs.Ytbkpiegkiokdlaa
