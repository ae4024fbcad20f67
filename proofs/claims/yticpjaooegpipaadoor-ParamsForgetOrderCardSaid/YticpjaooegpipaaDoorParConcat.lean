/-
  Grow and Concat of slices of shares.
-/
import Derived.Test.YticpjaooegpipaaDoorParRow
import Derived.Test.YticpjaooegpipaaDoorParLaw5
import Derived.Lib.AppendZerosOnto
import Derived.Lib.AppendZeros
import Derived.Maps.AppendAt
import Derived.WalkSpells
namespace Go.Proofs.YticpjaooegpipaaDoor
open Go.RowKit

theorem run_append_nothing (base n : Nat) (v : Value) (xs : List Value) (a : Option Addr) (c : Nat) (ty : TypeId) (w : World) (h : w.ownsRow base 31 5 v n xs) :
    (Builtin.append_ #[33, 33] ty #[v, .slice a 0 c]).run Tryd.prog w = .ok v w := by
  obtain ⟨i0, hi, hz0, hz1, hz2⟩ := info_parts info_sh
  have hf : (Builtin.firstCells 5 0 (.slice a 0 c)).run Tryd.prog w = .ok #[] w := by
    cases a with
    | none => simp [Builtin.firstCells]
    | some a => simp [Builtin.firstCells, loadCells, loadCellsFrom]
  have ht := Tryd.underlying33
  obtain ⟨_, ⟨rfl, rfl⟩ | ⟨g, cap, cur, rfl, _, _, hnc, _⟩⟩ := h
  · simp [Builtin.append_, run_underlying ht, sizeOf, typeInfo, hi, hz1, Builtin.lenOf, hf]
  · simp [Builtin.append_, run_underlying ht, sizeOf, typeInfo, hi, hz1, Builtin.lenOf, hf, hnc, storeCells]
theorem run_append_sh (base n : Nat) (v u : Value) (xs : List Value) (m : List Shr) (ty : TypeId) (w : World) (h : w.ownsRow base 31 5 v n xs) (hu : ShSl w u m) (hn : n + m.length < 1000000000) (hb : base ≤ w.heap.size) :
    ∃ v' w', (Builtin.append_ #[33, 33] ty #[v, u]).run Tryd.prog w = .ok v' w' ∧ w'.ownsRow base 31 5 v' (n + m.length) (xs ++ shs m) ∧ w.grownBy w' v.ownBlock := by
  obtain ⟨i0, hi, hz0, hz1, hz2⟩ := info_parts info_sh
  obtain ⟨a, cap, rfl, _, rfl | ⟨g, off, rfl, he⟩⟩ := hu
  · exact ⟨v, w, run_append_nothing base n v xs a cap ty w h, by simpa [shs] using h, ⟨rfl, rfl, rfl, Nat.le_refl _, fun _ _ _ => rfl⟩⟩
  · have hnews : ∀ j x, (shs m)[j]? = some x → w.cell? ((⟨g, off, none⟩ : Addr).add j) = some x := by
      intro j x hj
      have hjl : j < m.length * 5 := by
        rcases Nat.lt_or_ge j (m.length * 5) with h9 | h9
        · exact h9
        · rw [List.getElem?_eq_none (by rw [shs_len]; exact h9)] at hj; cases hj
      have hadd : (⟨g, off, none⟩ : Addr).add j = ⟨g, off + j, none⟩ := by unfold Addr.add; split <;> simp_all
      rw [hadd]
      obtain ⟨q, r, rfl, hr⟩ : ∃ q r, j = q * 5 + r ∧ r < 5 := ⟨j / 5, j % 5, by omega, by omega⟩
      obtain ⟨e, hq⟩ : ∃ e, m[q]? = some e := ⟨m[q]'(by omega), List.getElem?_eq_getElem _⟩
      rw [shs_get m q e hq r hr] at hj
      obtain ⟨_, b0, b1, b2, b3, b4⟩ := he q e hq
      have hcase : r = 0 ∨ r = 1 ∨ r = 2 ∨ r = 3 ∨ r = 4 := by omega
      rw [← Nat.add_assoc]
      rcases hcase with rfl | rfl | rfl | rfl | rfl
      · exact b0.trans hj
      · exact b1.trans hj
      · exact b2.trans hj
      · exact b3.trans hj
      · exact b4.trans hj
    obtain ⟨v', w', hr, h2, h3, _, _⟩ := run_append_own_at (P := Tryd.prog) w base 33 ty 31 i0 (.agg #[.int .i64 0, .int .i64 0, .int .i64 0, .int .i64 0, .slice none 0 0]) 5 56 Tryd.underlying33 hi hz0 hz1 hz2 rfl (by decide) v n xs h ⟨g, off, none⟩ m.length cap (shs m) (shs_len m) hnews
      (shs_one m fun s hs => by obtain ⟨j, hj⟩ := List.mem_iff_getElem?.1 hs; exact pay_one (he j s hj).1) (by unfold maxLen; omega) (by omega) hb
    exact ⟨v', w', hr, h2, h3⟩
set_option maxHeartbeats 2000000 in
theorem growsh_any (n : Nat) (w : World) (hn : n < 1000000000) :
    Calls Tryd.prog 34 #[.slice none 0 0, .int .i64 (n : Int)] w (RetOwn 31 5 0 [] w) := by
  have h1 : ¬ ((n : Int) < 0) := by omega
  by_cases h0 : n = 0
  · subst h0
    go_enter Tryd.func34, Tryd.ntmps34
    go_wp2
    go_ret
    exact ⟨_, rfl, World.ownsRow_nil _ _ _ _, Below.refl _ _⟩
  · obtain ⟨i0, hi, hz0, hz1, hz2⟩ := info_parts info_sh
    have hp : (0 : Int) < (n : Int) := by omega
    have hrz : ∀ ty, (Builtin.append_ #[33, 3] ty #[.slice none 0 0, .int .i64 (n : Int)]).run Tryd.prog w =
      .ok (.slice (some ⟨w.heap.size, 0, none⟩) n (grownCap w n 0 31)) (w.drew.alloc (.cells ((#[] : Array Value) ++ Builtin.zeroCells (Value.agg #[.int .i64 0, .int .i64 0, .int .i64 0, .int .i64 0, .slice none 0 0]).cells n ++ Builtin.zeroCells (Value.agg #[.int .i64 0, .int .i64 0, .int .i64 0, .int .i64 0, .slice none 0 0]).cells (grownCap w n 0 31 - n)) 31)) := fun ty => by
      have h := Lib.run_append_grow_zeros w 33 3 ty 31 i0 _ .i64 .i64 Tryd.underlying33 Tryd.underlying3 hi hz0 none 0 0 [] (by simp [Builtin.firstCells]) n (by omega) (by rw [hz1]; decide) (by omega) (by omega) (by rw [hz2]; omega)
        (by rw [hz2, Nat.zero_add]; exact growslice_fits (by omega) (by omega))
      rw [Nat.zero_add] at h
      exact h
    have hge : n ≤ grownCap w n 0 31 := grownCap_ge w _ _ _
    have hle := grownCap_le_maxLen w n 0 31 (by unfold maxLen; omega)
    obtain ⟨G, hG⟩ : ∃ G, G = grownCap w n 0 31 := ⟨_, rfl⟩
    rw [← hG] at hrz hge hle
    have hsz : ((#[] : Array Value) ++ Builtin.zeroCells (Value.agg #[.int .i64 0, .int .i64 0, .int .i64 0, .int .i64 0, .slice none 0 0]).cells n ++ Builtin.zeroCells (Value.agg #[.int .i64 0, .int .i64 0, .int .i64 0, .int .i64 0, .slice none 0 0]).cells (G - n)).size = G * 5 := by
      simp only [Array.size_append, size_zeroCells, Value.cells]; simp; omega
    generalize (#[] : Array Value) ++ Builtin.zeroCells (Value.agg #[.int .i64 0, .int .i64 0, .int .i64 0, .int .i64 0, .slice none 0 0]).cells n ++ Builtin.zeroCells (Value.agg #[.int .i64 0, .int .i64 0, .int .i64 0, .int .i64 0, .slice none 0 0]).cells (G - n) = cs at hrz hsz
    have hgi : (0 : Int) ≤ (G : Int) := by omega
    have HL := hid hle
    have HS := hid hsz
    clear hG hi hz0 hz1 hz2 hle hsz
    go_enter Tryd.func34, Tryd.ntmps34
    go_wp2_with (at_builtin; refine Lib.wpList_append_run _ rfl _ _ _ _ rfl _ _ rfl rfl _ _ (hrz _) ?_)
    go_ret
    have hown : (w.drew.alloc (.cells cs 31)).ownsRow w.heap.size 31 5 (.slice (some ⟨w.heap.size, 0, none⟩) 0 G) 0 [] := World.ownsRow_made w.drew cs G (Nat.le_refl _) HL.out HS.out
    exact ⟨_, rfl, hown, by go_grown⟩
set_option maxRecDepth 100000 in
set_option maxHeartbeats 2000000 in
theorem concat_sh (g c : Nat) (v u : Value) (l m : List Shr) (w : World) (hc0 : w.cell? ⟨g, 0, none⟩ = some v) (hc1 : w.cell? ⟨g, 1, none⟩ = some u) (hv : ShSl w v l) (hu : ShSl w u m) (hn : l.length + m.length < 1000000000) :
    Calls Tryd.prog 22 #[.slice (some ⟨g, 0, none⟩) 2 c] w (RetOwn 31 5 (l ++ m).length (shs (l ++ m)) w) := by
  have HV := hid hv
  have HU := hid hu
  obtain ⟨a, cap, rfl, _, _⟩ := hv
  obtain ⟨a', cap', rfl, _, _⟩ := hu
  obtain ⟨n1, hn1⟩ : ∃ n, l.length = n := ⟨_, rfl⟩
  obtain ⟨n2, hn2⟩ : ∃ n, m.length = n := ⟨_, rfl⟩
  have N1 := hid hn1
  have N2 := hid hn2
  rw [hn1] at hc0
  rw [hn2] at hc1
  rw [hn1, hn2] at hn
  have hz : World.heap w = w.heap := rfl
  have zg : g < w.heap.size := World.block_lt_of_cell? _ _ hc0
  have d1 : decide ((n1 : Int) < 0) = false := by simp
  have d2 : decide ((n1 : Int) + (n2 : Int) < 0) = false := by simp; omega
  have d3 : ¬ ((n1 : Int) + (n2 : Int) < 0) := by omega
  have HG := hid (growsh_any (n1 + n2) w (by omega))
  clear hn1 hn2 hz
  go_enter Tryd.func22, Tryd.ntmps22
  go_wp2
  refine wp_loop_rounds 3 ?_
  rw [rounds_succ]
  go_wp2
  rw [rounds_succ]
  go_wp2
  rw [rounds_succ]
  go_wp2_with (go_at_call 34; refine HG.out.mono ?_; rintro e w1 ⟨v0, rfl, h1, b1⟩; have H1 := hid h1; have B1 := hid b1; have e0 := (b1.cell (p := ⟨g, 0, none⟩) zg).trans hc0; have e1 := (b1.cell (p := ⟨g, 1, none⟩) zg).trans hc1; clear h1 b1)
  refine wp_loop_rounds 3 ?_
  rw [rounds_succ]
  obtain ⟨v1, w2, r1, o1, g1⟩ := run_append_sh w.heap.size 0 v0 (.slice a l.length cap) [] l 33 w1 H1.out (HV.out.below B1.out) (by rw [N1.out]; omega) B1.out.size
  have B2 := hid (Below.grown B1.out g1 B1.out.size (fun k e => (H1.out.lt k e).1))
  have f1 := (B2.out.cell (p := ⟨g, 1, none⟩) zg).trans hc1
  have O1 := hid o1
  rw [N1.out] at r1
  clear o1 g1
  go_wp2_with (at_builtin; refine Lib.wpList_append_run _ rfl _ _ _ _ rfl _ _ rfl rfl _ _ r1 ?_)
  rw [rounds_succ]
  obtain ⟨v2, w3, r2, o2, g2⟩ := run_append_sh w.heap.size (0 + l.length) v1 (.slice a' m.length cap') ([] ++ shs l) m 33 w2 O1.out (HU.out.below B2.out) (by rw [N1.out, N2.out]; omega) B2.out.size
  have B3 := hid (Below.grown B2.out g2 B2.out.size (fun k e => (O1.out.lt k e).1))
  have O2 := hid o2
  rw [N2.out] at r2
  clear o2 g2
  go_wp2_with (at_builtin; refine Lib.wpList_append_run _ rfl _ _ _ _ rfl _ _ rfl rfl _ _ r2 ?_)
  rw [rounds_succ]
  go_wp2
  go_ret
  refine ⟨_, rfl, ?_, B3.out⟩
  have e : shs (l ++ m) = [] ++ shs l ++ shs m := by simp [shs]
  rw [e, List.length_append, ← Nat.zero_add (l.length)]
  exact O2.out
end Go.Proofs.YticpjaooegpipaaDoor
