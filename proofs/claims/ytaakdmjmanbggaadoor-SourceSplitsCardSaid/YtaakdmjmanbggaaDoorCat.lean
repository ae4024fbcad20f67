/-
  Grow and Concat of slices of bytes and of elements.
-/
import Derived.Test.YtaakdmjmanbggaaDoorSrcU
import Derived.Test.YtaakdmjmanbggaaDoorKit
import Derived.Lib.AppendZerosOnto
import Derived.Lib.AppendZeros
import Derived.Lib.SliceRun
import Derived.WalkSpells
namespace Go.Proofs.YtaakdmjmanbggaaDoor
open Go.RowKit

theorem nums_cells : ∀ xs : List Nat, ∀ u ∈ nums xs, u.oneCell' = true := fun xs u hu => by
  unfold nums at hu
  obtain ⟨x, _, hx⟩ := List.mem_flatMap.1 hu
  simp [limbs] at hx
  rcases hx with rfl | rfl | rfl | rfl <;> rfl
theorem NumsAt.news {w : World} {g off : Nat} {xs : List Nat} (h : NumsAt w g off xs) : ∀ j u, (nums xs)[j]? = some u → w.cell? ((⟨g, off, none⟩ : Addr).add j) = some u := by
  intro j u hj
  have hjl : j < xs.length * 4 := by
    have := (List.getElem?_eq_some_iff.1 hj).1
    rw [nums_len] at this; exact this
  obtain ⟨t, i, rfl, hi⟩ : ∃ t i, j = t * 4 + i ∧ i < 4 := ⟨j / 4, j % 4, by omega, by omega⟩
  have ht : t < xs.length := by omega
  obtain ⟨_, e0, e1, e2, e3⟩ := h t xs[t] (List.getElem?_eq_getElem ht)
  rw [nums_get xs t xs[t] (List.getElem?_eq_getElem ht) i hi] at hj
  have ha : (⟨g, off, none⟩ : Addr).add (t * 4 + i) = ⟨g, off + (t * 4 + i), none⟩ := by unfold Addr.add; split <;> simp_all
  rw [ha]
  cases hj
  match i, hi with
  | 0, _ => exact e0
  | 1, _ => exact e1
  | 2, _ => exact e2
  | 3, _ => exact e3
theorem append_nothing_b (base n : Nat) (v : Value) (xs : List Value) (a : Option Addr) (c : Nat) (ty : TypeId) (w : World) (h : w.ownsRow base 5 1 v n xs) :
    (Builtin.append_ #[22, 22] ty #[v, .slice a 0 c]).run Tryd.prog w = .ok v w := by
  obtain ⟨i0, hi, hz0, hz1, hz2⟩ := info_parts info_u8
  have hf : (Builtin.firstCells 1 0 (.slice a 0 c)).run Tryd.prog w = .ok #[] w := by
    cases a with
    | none => simp [Builtin.firstCells]
    | some a => simp [Builtin.firstCells, loadCells, loadCellsFrom]
  have ht := Tryd.underlying22
  obtain ⟨_, ⟨rfl, rfl⟩ | ⟨g, cap, cur, rfl, _, _, hnc, _⟩⟩ := h
  · simp [Builtin.append_, run_underlying ht, sizeOf, typeInfo, hi, hz1, Builtin.lenOf, hf]
  · simp [Builtin.append_, run_underlying ht, sizeOf, typeInfo, hi, hz1, Builtin.lenOf, hf, hnc, storeCells]
theorem append_b (base n : Nat) (v u : Value) (xs : List Value) (m : List Nat) (ty : TypeId) (w : World) (h : w.ownsRow base 5 1 v n xs) (hu : ByteSl w u m) (hn : n + m.length < 1000000000) (hb : base ≤ w.heap.size) :
    ∃ v' w', (Builtin.append_ #[22, 22] ty #[v, u]).run Tryd.prog w = .ok v' w' ∧ w'.ownsRow base 5 1 v' (n + m.length) (xs ++ bys m) ∧ w.grownBy w' v.ownBlock := by
  obtain ⟨i0, hi, hz0, hz1, hz2⟩ := info_parts info_u8
  obtain ⟨a, cap, rfl, _, rfl | ⟨g, off, rfl, he⟩⟩ := id hu
  · exact ⟨v, w, append_nothing_b base n v xs a cap ty w h, by simpa [bys] using h, ⟨rfl, rfl, rfl, Nat.le_refl _, fun _ _ _ => rfl⟩⟩
  · have hnews : ∀ j x, (bys m)[j]? = some x → w.cell? ((⟨g, off, none⟩ : Addr).add j) = some x := hu.news
    obtain ⟨v', w', hr, h2, h3, _, _⟩ := run_append_own_at (P := Tryd.prog) w base 22 ty 5 i0 (.int .u8 0) 1 1 Tryd.underlying22 hi hz0 hz1 hz2 rfl (by decide) v n xs h ⟨g, off, none⟩ m.length cap (bys m) (by rw [bys_len, Nat.mul_one]) hnews (bys_cells m) (by unfold maxLen; omega) (by omega) hb
    exact ⟨v', w', hr, h2, h3⟩
set_option maxHeartbeats 2000000 in
theorem grow_b (n : Nat) (w : World) (hn : n < 1000000000) :
    Calls Tryd.prog 34 #[.slice none 0 0, .int .i64 (n : Int)] w (RetOwn 5 1 0 [] w) := by
  have h1 : ¬ ((n : Int) < 0) := by omega
  by_cases h0 : n = 0
  · subst h0
    go_enter Tryd.func34, Tryd.ntmps34
    go_wp2
    go_ret
    exact ⟨_, rfl, World.ownsRow_nil _ _ _ _, Below.refl _ _⟩
  · obtain ⟨i0, hi, hz0, hz1, hz2⟩ := info_parts info_u8
    have hp : (0 : Int) < (n : Int) := by omega
    have hrz : ∀ ty, (Builtin.append_ #[22, 3] ty #[.slice none 0 0, .int .i64 (n : Int)]).run Tryd.prog w =
      .ok (.slice (some ⟨w.heap.size, 0, none⟩) n (grownCap w n 0 5)) (w.drew.alloc (.cells ((#[] : Array Value) ++ Builtin.zeroCells (Value.int .u8 0).cells n ++ Builtin.zeroCells (Value.int .u8 0).cells (grownCap w n 0 5 - n)) 5)) := fun ty => by
      have h := Lib.run_append_grow_zeros w 22 3 ty 5 i0 _ .i64 .i64 Tryd.underlying22 Tryd.underlying3 hi hz0 none 0 0 [] (by simp [Builtin.firstCells]) n (by omega) (by rw [hz1]; decide) (by omega) (by omega) (by rw [hz2]; omega)
        (by rw [hz2, Nat.zero_add]; exact growslice_fits (by omega) (by omega))
      rw [Nat.zero_add] at h
      exact h
    have hge : n ≤ grownCap w n 0 5 := grownCap_ge w _ _ _
    have hle := grownCap_le_maxLen w n 0 5 (by unfold maxLen; omega)
    obtain ⟨G, hG⟩ : ∃ G, G = grownCap w n 0 5 := ⟨_, rfl⟩
    rw [← hG] at hrz hge hle
    have hsz : ((#[] : Array Value) ++ Builtin.zeroCells (Value.int .u8 0).cells n ++ Builtin.zeroCells (Value.int .u8 0).cells (G - n)).size = G * 1 := by
      simp only [Array.size_append, size_zeroCells, Value.cells]; simp; omega
    generalize (#[] : Array Value) ++ Builtin.zeroCells (Value.int .u8 0).cells n ++ Builtin.zeroCells (Value.int .u8 0).cells (G - n) = cs at hrz hsz
    have hgi : (0 : Int) ≤ (G : Int) := by omega
    have HL := hid hle
    have HS := hid hsz
    clear hG hi hz0 hz1 hz2 hle hsz
    go_enter Tryd.func34, Tryd.ntmps34
    go_wp2_with (at_builtin; refine Lib.wpList_append_run _ rfl _ _ _ _ rfl _ _ rfl rfl _ _ (hrz _) ?_)
    go_ret
    have hown : (w.alloc (.cells cs 5)).ownsRow w.heap.size 5 1 (.slice (some ⟨w.heap.size, 0, none⟩) 0 G) 0 [] := World.ownsRow_made w cs G (Nat.le_refl _) HL.out HS.out
    exact ⟨_, rfl, owns_grow hown (Grow.refl 0 _).drew, by go_grown⟩
set_option maxRecDepth 100000 in
set_option maxHeartbeats 2000000 in
theorem concat_b (g c : Nat) (v u : Value) (l m : List Nat) (w : World) (hc0 : w.cell? ⟨g, 0, none⟩ = some v) (hc1 : w.cell? ⟨g, 1, none⟩ = some u) (hv : ByteSl w v l) (hu : ByteSl w u m) (hn : l.length + m.length < 1000000000) :
    Calls Tryd.prog 23 #[.slice (some ⟨g, 0, none⟩) 2 c] w (RetOwn 5 1 (l ++ m).length (bys (l ++ m)) w) := by
  have HV := hid hv
  have HU := hid hu
  obtain ⟨a, cap, rfl, _, _⟩ := hv
  obtain ⟨a', cap', rfl, _, _⟩ := hu
  obtain ⟨n1, hn1⟩ : ∃ n, l.length = n := ⟨_, rfl⟩
  obtain ⟨n2, hn2⟩ : ∃ n, m.length = n := ⟨_, rfl⟩
  have N1 := hid hn1
  have N2 := hid hn2
  rw [hn1] at hc0
  rw [hn2] at hc1
  rw [hn1, hn2] at hn
  have hz : World.heap w = w.heap := rfl
  have zg : g < w.heap.size := World.block_lt_of_cell? _ _ hc0
  have d1 : decide ((n1 : Int) < 0) = false := by simp
  have d2 : decide ((n1 : Int) + (n2 : Int) < 0) = false := by simp; omega
  have d3 : ¬ ((n1 : Int) + (n2 : Int) < 0) := by omega
  have HG := hid (grow_b (n1 + n2) w (by omega))
  clear hn1 hn2 hz
  go_enter Tryd.func23, Tryd.ntmps23
  go_wp2
  refine wp_loop_rounds 3 ?_
  rw [rounds_succ]
  go_wp2
  rw [rounds_succ]
  go_wp2
  rw [rounds_succ]
  go_wp2_with (go_at_call 34; refine HG.out.mono ?_; rintro e w1 ⟨v0, rfl, h1, b1⟩; have H1 := hid h1; have B1 := hid b1; have e0 := (b1.cell (p := ⟨g, 0, none⟩) zg).trans hc0; have e1 := (b1.cell (p := ⟨g, 1, none⟩) zg).trans hc1; clear h1 b1)
  refine wp_loop_rounds 3 ?_
  rw [rounds_succ]
  obtain ⟨v1, w2, r1, o1, g1⟩ := append_b w.heap.size 0 v0 (.slice a l.length cap) [] l 22 w1 H1.out (HV.out.below B1.out) (by rw [N1.out]; omega) B1.out.size
  have B2 := hid (Below.grown B1.out g1 B1.out.size (fun k e => (H1.out.lt k e).1))
  have f1 := (B2.out.cell (p := ⟨g, 1, none⟩) zg).trans hc1
  have O1 := hid o1
  rw [N1.out] at r1
  clear o1 g1
  go_wp2_with (at_builtin; refine Lib.wpList_append_run _ rfl _ _ _ _ rfl _ _ rfl rfl _ _ r1 ?_)
  rw [rounds_succ]
  obtain ⟨v2, w3, r2, o2, g2⟩ := append_b w.heap.size (0 + l.length) v1 (.slice a' m.length cap') ([] ++ bys l) m 22 w2 O1.out (HU.out.below B2.out) (by rw [N1.out, N2.out]; omega) B2.out.size
  have B3 := hid (Below.grown B2.out g2 B2.out.size (fun k e => (O1.out.lt k e).1))
  have O2 := hid o2
  rw [N2.out] at r2
  clear o2 g2
  go_wp2_with (at_builtin; refine Lib.wpList_append_run _ rfl _ _ _ _ rfl _ _ rfl rfl _ _ r2 ?_)
  rw [rounds_succ]
  go_wp2
  go_ret
  refine ⟨_, rfl, ?_, B3.out⟩
  have e : bys (l ++ m) = [] ++ bys l ++ bys m := by simp [bys]
  rw [e, List.length_append, ← Nat.zero_add (l.length)]
  exact O2.out
theorem append_nothing_e (base n : Nat) (v : Value) (xs : List Value) (a : Option Addr) (c : Nat) (ty : TypeId) (w : World) (h : w.ownsRow base 42 4 v n xs) :
    (Builtin.append_ #[47, 47] ty #[v, .slice a 0 c]).run Tryd.prog w = .ok v w := by
  obtain ⟨i0, hi, hz0, hz1, hz2⟩ := info_parts info_el
  have hf : (Builtin.firstCells 4 0 (.slice a 0 c)).run Tryd.prog w = .ok #[] w := by
    cases a with
    | none => simp [Builtin.firstCells]
    | some a => simp [Builtin.firstCells, loadCells, loadCellsFrom]
  have ht := Tryd.underlying47
  obtain ⟨_, ⟨rfl, rfl⟩ | ⟨g, cap, cur, rfl, _, _, hnc, _⟩⟩ := h
  · simp [Builtin.append_, run_underlying ht, sizeOf, typeInfo, hi, hz1, Builtin.lenOf, hf]
  · simp [Builtin.append_, run_underlying ht, sizeOf, typeInfo, hi, hz1, Builtin.lenOf, hf, hnc, storeCells]
theorem append_e (base n : Nat) (v u : Value) (xs : List Value) (m : List Nat) (ty : TypeId) (w : World) (h : w.ownsRow base 42 4 v n xs) (hu : NumSl w u m) (hn : n + m.length < 1000000000) (hb : base ≤ w.heap.size) :
    ∃ v' w', (Builtin.append_ #[47, 47] ty #[v, u]).run Tryd.prog w = .ok v' w' ∧ w'.ownsRow base 42 4 v' (n + m.length) (xs ++ nums m) ∧ w.grownBy w' v.ownBlock := by
  obtain ⟨i0, hi, hz0, hz1, hz2⟩ := info_parts info_el
  obtain ⟨a, cap, rfl, _, rfl | ⟨g, off, rfl, he⟩⟩ := id hu
  · exact ⟨v, w, append_nothing_e base n v xs a cap ty w h, by simpa [nums] using h, ⟨rfl, rfl, rfl, Nat.le_refl _, fun _ _ _ => rfl⟩⟩
  · have hnews : ∀ j x, (nums m)[j]? = some x → w.cell? ((⟨g, off, none⟩ : Addr).add j) = some x := he.news
    obtain ⟨v', w', hr, h2, h3, _, _⟩ := run_append_own_at (P := Tryd.prog) w base 47 ty 42 i0 (.agg #[.int .u64 0, .int .u64 0, .int .u64 0, .int .u64 0]) 4 32 Tryd.underlying47 hi hz0 hz1 hz2 rfl (by decide) v n xs h ⟨g, off, none⟩ m.length cap (nums m) (nums_len m) hnews (nums_cells m) (by unfold maxLen; omega) (by omega) hb
    exact ⟨v', w', hr, h2, h3⟩
set_option maxHeartbeats 2000000 in
theorem grow_e (n : Nat) (w : World) (hn : n < 1000000000) :
    Calls Tryd.prog 33 #[.slice none 0 0, .int .i64 (n : Int)] w (RetOwn 42 4 0 [] w) := by
  have h1 : ¬ ((n : Int) < 0) := by omega
  by_cases h0 : n = 0
  · subst h0
    go_enter Tryd.func33, Tryd.ntmps33
    go_wp2
    go_ret
    exact ⟨_, rfl, World.ownsRow_nil _ _ _ _, Below.refl _ _⟩
  · obtain ⟨i0, hi, hz0, hz1, hz2⟩ := info_parts info_el
    have hp : (0 : Int) < (n : Int) := by omega
    have hrz : ∀ ty, (Builtin.append_ #[47, 3] ty #[.slice none 0 0, .int .i64 (n : Int)]).run Tryd.prog w =
      .ok (.slice (some ⟨w.heap.size, 0, none⟩) n (grownCap w n 0 42)) (w.drew.alloc (.cells ((#[] : Array Value) ++ Builtin.zeroCells (Value.agg #[.int .u64 0, .int .u64 0, .int .u64 0, .int .u64 0]).cells n ++ Builtin.zeroCells (Value.agg #[.int .u64 0, .int .u64 0, .int .u64 0, .int .u64 0]).cells (grownCap w n 0 42 - n)) 42)) := fun ty => by
      have h := Lib.run_append_grow_zeros w 47 3 ty 42 i0 _ .i64 .i64 Tryd.underlying47 Tryd.underlying3 hi hz0 none 0 0 [] (by simp [Builtin.firstCells]) n (by omega) (by rw [hz1]; decide) (by omega) (by omega) (by rw [hz2]; omega)
        (by rw [hz2, Nat.zero_add]; exact growslice_fits (by omega) (by omega))
      rw [Nat.zero_add] at h
      exact h
    have hge : n ≤ grownCap w n 0 42 := grownCap_ge w _ _ _
    have hle := grownCap_le_maxLen w n 0 42 (by unfold maxLen; omega)
    obtain ⟨G, hG⟩ : ∃ G, G = grownCap w n 0 42 := ⟨_, rfl⟩
    rw [← hG] at hrz hge hle
    have hsz : ((#[] : Array Value) ++ Builtin.zeroCells (Value.agg #[.int .u64 0, .int .u64 0, .int .u64 0, .int .u64 0]).cells n ++ Builtin.zeroCells (Value.agg #[.int .u64 0, .int .u64 0, .int .u64 0, .int .u64 0]).cells (G - n)).size = G * 4 := by
      simp only [Array.size_append, size_zeroCells, Value.cells]; simp; omega
    generalize (#[] : Array Value) ++ Builtin.zeroCells (Value.agg #[.int .u64 0, .int .u64 0, .int .u64 0, .int .u64 0]).cells n ++ Builtin.zeroCells (Value.agg #[.int .u64 0, .int .u64 0, .int .u64 0, .int .u64 0]).cells (G - n) = cs at hrz hsz
    have hgi : (0 : Int) ≤ (G : Int) := by omega
    have HL := hid hle
    have HS := hid hsz
    clear hG hi hz0 hz1 hz2 hle hsz
    go_enter Tryd.func33, Tryd.ntmps33
    go_wp2_with (at_builtin; refine Lib.wpList_append_run _ rfl _ _ _ _ rfl _ _ rfl rfl _ _ (hrz _) ?_)
    go_ret
    have hown : (w.alloc (.cells cs 42)).ownsRow w.heap.size 42 4 (.slice (some ⟨w.heap.size, 0, none⟩) 0 G) 0 [] := World.ownsRow_made w cs G (Nat.le_refl _) HL.out HS.out
    exact ⟨_, rfl, owns_grow hown (Grow.refl 0 _).drew, by go_grown⟩
set_option maxRecDepth 100000 in
set_option maxHeartbeats 2000000 in
theorem concat_e (g c : Nat) (v u : Value) (l m : List Nat) (w : World) (hc0 : w.cell? ⟨g, 0, none⟩ = some v) (hc1 : w.cell? ⟨g, 1, none⟩ = some u) (hv : NumSl w v l) (hu : NumSl w u m) (hn : l.length + m.length < 1000000000) :
    Calls Tryd.prog 22 #[.slice (some ⟨g, 0, none⟩) 2 c] w (RetOwn 42 4 (l ++ m).length (nums (l ++ m)) w) := by
  have HV := hid hv
  have HU := hid hu
  obtain ⟨a, cap, rfl, _, _⟩ := hv
  obtain ⟨a', cap', rfl, _, _⟩ := hu
  obtain ⟨n1, hn1⟩ : ∃ n, l.length = n := ⟨_, rfl⟩
  obtain ⟨n2, hn2⟩ : ∃ n, m.length = n := ⟨_, rfl⟩
  have N1 := hid hn1
  have N2 := hid hn2
  rw [hn1] at hc0
  rw [hn2] at hc1
  rw [hn1, hn2] at hn
  have hz : World.heap w = w.heap := rfl
  have zg : g < w.heap.size := World.block_lt_of_cell? _ _ hc0
  have d1 : decide ((n1 : Int) < 0) = false := by simp
  have d2 : decide ((n1 : Int) + (n2 : Int) < 0) = false := by simp; omega
  have d3 : ¬ ((n1 : Int) + (n2 : Int) < 0) := by omega
  have HG := hid (grow_e (n1 + n2) w (by omega))
  clear hn1 hn2 hz
  go_enter Tryd.func22, Tryd.ntmps22
  go_wp2
  refine wp_loop_rounds 3 ?_
  rw [rounds_succ]
  go_wp2
  rw [rounds_succ]
  go_wp2
  rw [rounds_succ]
  go_wp2_with (go_at_call 33; refine HG.out.mono ?_; rintro e w1 ⟨v0, rfl, h1, b1⟩; have H1 := hid h1; have B1 := hid b1; have e0 := (b1.cell (p := ⟨g, 0, none⟩) zg).trans hc0; have e1 := (b1.cell (p := ⟨g, 1, none⟩) zg).trans hc1; clear h1 b1)
  refine wp_loop_rounds 3 ?_
  rw [rounds_succ]
  obtain ⟨v1, w2, r1, o1, g1⟩ := append_e w.heap.size 0 v0 (.slice a l.length cap) [] l 47 w1 H1.out (HV.out.below B1.out) (by rw [N1.out]; omega) B1.out.size
  have B2 := hid (Below.grown B1.out g1 B1.out.size (fun k e => (H1.out.lt k e).1))
  have f1 := (B2.out.cell (p := ⟨g, 1, none⟩) zg).trans hc1
  have O1 := hid o1
  rw [N1.out] at r1
  clear o1 g1
  go_wp2_with (at_builtin; refine Lib.wpList_append_run _ rfl _ _ _ _ rfl _ _ rfl rfl _ _ r1 ?_)
  rw [rounds_succ]
  obtain ⟨v2, w3, r2, o2, g2⟩ := append_e w.heap.size (0 + l.length) v1 (.slice a' m.length cap') ([] ++ nums l) m 47 w2 O1.out (HU.out.below B2.out) (by rw [N1.out, N2.out]; omega) B2.out.size
  have B3 := hid (Below.grown B2.out g2 B2.out.size (fun k e => (O1.out.lt k e).1))
  have O2 := hid o2
  rw [N2.out] at r2
  clear o2 g2
  go_wp2_with (at_builtin; refine Lib.wpList_append_run _ rfl _ _ _ _ rfl _ _ rfl rfl _ _ r2 ?_)
  rw [rounds_succ]
  go_wp2
  go_ret
  refine ⟨_, rfl, ?_, B3.out⟩
  have e : nums (l ++ m) = [] ++ nums l ++ nums m := by simp [nums]
  rw [e, List.length_append, ← Nat.zero_add (l.length)]
  exact O2.out
end Go.Proofs.YtaakdmjmanbggaaDoor
