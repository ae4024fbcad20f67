/-
  The check of indices, rows of elements, points and weights.
-/
import Derived.Test.YtogenbggjodcnaaDoorKit
import Derived.Test.YtogenbggjodcnaaDoorLags
import Derived.Maps.OwnOps
import Derived.Maps.OwnSet
import Derived.Outline
import Derived.Test.YtogenbggjodcnaaDoorPolys
import Derived.Test.YtogenbggjodcnaaDoorSetB
import Derived.OwnWalk
import Derived.Test.YtogenbggjodcnaaDoorMont
import Derived.Test.YtogenbggjodcnaaDoorLimbs
import Derived.Test.YtogenbggjodcnaaDoorBase
import Derived.Test.YtogenbggjodcnaaDoorRefV
import Derived.Test.YtogenbggjodcnaaDoorPlainN
import Derived.Deep.QuietTactic
import Derived.Deep.RegionHeld3
import Derived.Deep.DeepCutAuto
import Derived.Test.YtogenbggjodcnaaDoorBatB
/-
  Slices of integers.
-/
namespace Go.Proofs.YtogenbggjodcnaaDoor
open Go.RowKit

section
variable {w w' : World} {v : Value}
/-- Integers in a row. -/
def IntSl (w : World) (v : Value) (l : List Int) : Prop := ∃ a cap, v = .slice a l.length cap ∧ (l = [] ∨ ∃ g off, a = some ⟨g, off, none⟩ ∧ ∀ (j : Nat) (x : Int), l[j]? = some x → w.cell? ⟨g, off + j, none⟩ = some (.int .i64 x))
theorem IntSl.below {l : List Int} (h : IntSl w v l) (hb : Below w.heap.size w w') : IntSl w' v l := by
  obtain ⟨a, cap, hv, h0 | ⟨g, off, ha, he⟩⟩ := h
  · exact ⟨a, cap, hv, .inl h0⟩
  · exact ⟨a, cap, hv, .inr ⟨g, off, ha, fun j x hj => (hb.cell (World.block_lt_of_cell? w _ (he j x hj))).trans (he j x hj)⟩⟩
theorem IntSl.at {l : List Int} {a : Option Addr} {n c k : Nat} {x : Int} (h : IntSl w (.slice a n c) l) (hx : l[k]? = some x) : ∃ g off, a = some ⟨g, off, none⟩ ∧ g < w.heap.size ∧ w.cell? ⟨g, off + k, none⟩ = some (.int .i64 x) := by
  obtain ⟨a', cap, hv, h0 | ⟨g, off, ha, he⟩⟩ := h
  · rw [h0] at hx; cases hx
  · cases hv
    exact ⟨g, off, ha, World.block_lt_of_cell? w _ (he k x hx), he k x hx⟩
end
end Go.Proofs.YtogenbggjodcnaaDoor
/-
  The check of indices: the program's map and the reference's two loops find the same.
-/
namespace Go.Proofs.YtogenbggjodcnaaDoor
open Go.RowKit Go.Maps

theorem mapb_below {W W' : World} {b n : Nat} {D : DataW Unit} (h : W.ownsMap Tryd.prog 3 (plainElem Tryd.prog 4) b n D) (hb : Below W.heap.size W W') : W'.ownsMap Tryd.prog 3 (plainElem Tryd.prog 4) b n D := by
  have hlt := h.lt
  obtain ⟨es, clock, h1, r⟩ := h
  exact ⟨es, clock, (hb.block b hlt).trans h1, r⟩
theorem keyInt9 : Keyed Tryd.prog 3 := int_keyed Tryd.underlying3
/-- A map whose keys are the integers xs. -/
def IbMap (w : World) (b : Nat) (xs : List Int) : Prop := ∃ (n : Nat) (D : DataW Unit), w.ownsMap Tryd.prog 3 (plainElem Tryd.prog 4) b n D ∧ n ≤ xs.length ∧ size D ≤ xs.length ∧ (size D < xs.length ↔ ¬ xs.Nodup) ∧ ∀ x, has D (.int .i64 x) = decide (x ∈ xs)
theorem IbMap.made (w : World) : IbMap (w.alloc (.map #[] 0)) w.heap.size [] := ⟨0, _, World.ownsMap_made _ _ _ _, Nat.le_refl _, Nat.le_refl _, by simp [Maps.size], fun x => by simp [Maps.has]⟩
theorem nodup_snoc9 {xs : List Int} {x : Int} : (xs ++ [x]).Nodup ↔ xs.Nodup ∧ x ∉ xs := by
  rw [List.nodup_append]
  constructor
  · rintro ⟨h1, _, h2⟩; exact ⟨h1, fun h => h2 x h x (by simp) rfl⟩
  · rintro ⟨h1, h2⟩; exact ⟨h1, by simp, fun a ha b hb => by simp at hb; subst hb; exact fun e => h2 (e ▸ ha)⟩
theorem IbMap.step {w w' : World} {b n : Nat} {D : DataW Unit} {xs : List Int} {x : Int} {d : DataW Unit} (ho : w.ownsMap Tryd.prog 3 (plainElem Tryd.prog 4) b n D) (hn : n ≤ xs.length) (h1 : size D ≤ xs.length) (h2 : size D < xs.length ↔ ¬ xs.Nodup) (h3 : ∀ x, has D (.int .i64 x) = decide (x ∈ xs))
    (ho' : w'.ownsMap Tryd.prog 3 (plainElem Tryd.prog 4) b (n + 1) (D.put (.int .i64 x) d)) : IbMap w' b (xs ++ [x]) := by
  have hsz := size_put (k := .int .i64 x) (ho.tidy keyInt9) d
  have hl : (xs ++ [x]).length = xs.length + 1 := by simp
  refine ⟨n + 1, _, ho', by omega, ?_, ?_, fun y => ?_⟩
  · rw [hsz]; split <;> omega
  · rw [hsz, h3 x, nodup_snoc9]
    by_cases hx : x ∈ xs
    · rw [if_pos (by simp [hx]), hl]
      exact ⟨fun _ h => h.2 hx, fun _ => by omega⟩
    · rw [if_neg (by simp [hx]), hl]
      exact ⟨fun h hh => (h2.1 (by omega)) hh.1, fun h => by have := h2.2 (fun hh => h ⟨hh, hx⟩); omega⟩
  · by_cases hy : y = x
    · subst hy
      rw [has_put_same (k := .int .i64 y) ho.isMap trivial d]; simp
    · rw [has_put_other (by simp [hy]) d, h3 y]; simp [hy]
theorem point_wf {x : Int} (h1 : 1 ≤ x) (h2 : x ≤ 255) : (Lit.int .i64 x).wf = true := by
  simp only [Lit.wf, Bool.and_eq_true, decide_eq_true_eq]
  rw [show IntKind.i64.min = -9223372036854775808 by decide, show IntKind.i64.max = 9223372036854775807 by decide]
  omega
theorem take_next9 {α : Type} {l : List α} {k : Nat} {x : α} (h : l[k]? = some x) : l.take (k + 1) = l.take k ++ [x] := by
  rw [List.take_add_one, h]; rfl
theorem all_next {xs : List Int} {k : Nat} {x : Int} {p : Int → Prop} (h : xs[k]? = some x) (hk : ∀ y ∈ xs.take k, p y) (hx : p x) : ∀ y ∈ xs.take (k + 1), p y := fun y hy => by
  rw [take_next9 h, List.mem_append, List.mem_singleton] at hy
  rcases hy with h | h
  · exact hk y h
  · exact h ▸ hx
set_option maxRecDepth 100000 in
set_option maxHeartbeats 1000000 in
theorem lcheck_any (v : Value) (xs : List Int) (w : World) (hS : IntSl w v xs) (hl : xs.length < 1000000) : Calls Tryd.prog 61 #[v] w (Ret (.int .i64 (chkx xs)) w) := by
  have HS := hid hS
  obtain ⟨a, cap, rfl, _⟩ := hS
  obtain ⟨m, hm⟩ : ∃ m, xs.length = m := ⟨_, rfl⟩
  have HM := hid hm
  rw [hm] at hl HS ⊢
  clear hm
  have hmm := @run_makeMap Tryd.prog
  go_enter Tryd.func61, Tryd.ntmps61
  go_wp2
  go_loopw [9] (fun x wr => ∃ (k : Nat), k ≤ m ∧ x = .int .i64 (k : Int) ∧ (∀ y ∈ xs.take k, 1 ≤ y ∧ y ≤ 255) ∧ IbMap wr w.heap.size (xs.take k) ∧ Below w.heap.size w wr) (fun x _ => m - (intOf x).toNat)
  case atStart => exact ⟨0, Nat.zero_le _, rfl, by simp, IbMap.made w, (Below.refl _ _).alloc (Nat.le_refl _) _⟩
  case round =>
    obtain ⟨k, hk, rfl, hok, hix, hB⟩ := hrel
    have zB := hB.size
    have HB := hid hB
    have HOK := hid hok
    obtain ⟨nb, D, hown, hn1, hn2, hn3, hn4⟩ := hix
    have HN1 := hid hn1
    have HN2 := hid hn2
    have HN3 := hid hn3
    have HN4 := hid hn4
    have OWN := hid hown
    have hn9 : nb ≤ k := by rw [List.length_take] at hn1; omega
    have zM := hown.lt
    clear hB hok hn1 hn2 hn3 hn4 hown
    by_cases hlt : k < m
    · obtain ⟨x, hx⟩ : ∃ s, xs[k]? = some s := ⟨xs[k]'(by rw [HM.out]; exact hlt), List.getElem?_eq_getElem _⟩
      have HX := hid hx
      obtain ⟨g, off, rfl, hg, d0⟩ := (HS.out.below HB.out).at hx
      clear hx
      have hk0 : (0 : Int) ≤ (k : Int) := by omega
      have hkm : (k : Int) < (m : Int) := by omega
      by_cases h1 : x < 1
      · have EQ := hid (chkx_bad HX.out (by omega))
        go_wp2
        go_ret
        exact ⟨by rw [EQ.out]; rfl, HB.out⟩
      · by_cases h2 : 255 < x
        · have EQ := hid (chkx_bad HX.out (by omega))
          go_wp2
          go_ret
          exact ⟨by rw [EQ.out]; rfl, HB.out⟩
        · have HC := hid (show 1 ≤ x ∧ x ≤ 255 by omega)
          have HKEY := hid (keyOf_int_mk Tryd.underlying3 (point_wf (x := x) (by omega) (by omega)))
          go_wp2_with (first
            | (at_mapUpdate; refine wpList_mapUpdate_own _ rfl _ _ _ 140 rfl 3 4 keyInt9 Tryd.underlying140 _ w.heap.size nb D rfl OWN.out (by unfold maxLen; omega) _ _ _ rfl rfl HKEY.out _ [] (plainElem_bool Tryd.underlying4 true) ?_; intro w9 hown9 hgrow9)
            | go_in)
          have B9 := hid (Below.grown HB.out hgrow9 HB.out.size (fun j hj => by cases hj; exact Nat.le_refl _))
          have M9 := hid (IbMap.step (x := x) OWN.out (by have := HN1.out; omega) HN2.out HN3.out HN4.out hown9)
          clear hgrow9 hown9
          go_roundw
          case rel => exact ⟨k + 1, by omega, by go_num, all_next HX.out HOK.out HC.out, by rw [take_next9 HX.out]; exact M9.out, B9.out⟩
          case measure => simp [intOf]; omega
    · obtain rfl : m = k := by omega
      have hall : ∀ y ∈ xs, 1 ≤ y ∧ y ≤ 255 := fun s hs => HOK.out s (by rw [List.take_of_length_le (by rw [HM.out]; exact Nat.le_refl _)]; exact hs)
      have hG := chkx_nodup hall
      have htk : xs.take m = xs := List.take_of_length_le (by rw [HM.out]; exact Nat.le_refl _)
      have hn5 : size D < m ↔ ¬ xs.Nodup := by have h := HN3.out; rw [htk, HM.out] at h; exact h
      clear hall htk
      by_cases hd : size D < m
      · have EQ := hid (hG.2 (hn5.1 hd))
        clear hG hn5
        go_wp2_with (first | (at_len; refine wpList_len_own _ rfl _ 140 rfl 3 4 Tryd.underlying140 _ w.heap.size nb D rfl OWN.out ?_) | go_in)
        go_ret
        exact ⟨by rw [EQ.out]; rfl, HB.out⟩
      · have EQ := hid (hG.1 (Classical.not_not.1 fun h => hd (hn5.2 h)))
        clear hG hn5
        go_wp2_with (first | (at_len; refine wpList_len_own _ rfl _ 140 rfl 3 4 Tryd.underlying140 _ w.heap.size nb D rfl OWN.out ?_) | go_in)
        go_ret
        exact ⟨by rw [EQ.out]; rfl, HB.out⟩
set_option maxRecDepth 100000 in
set_option maxHeartbeats 1000000 in
theorem rlcheck_any (v : Value) (xs : List Int) (w : World) (hS : IntSl w v xs) (hl : xs.length < 1000000) : Calls Tryd.prog 18 #[v] w (Ret (.int .i64 (chkx xs)) w) := by
  have HS := hid hS
  obtain ⟨a, cap, rfl, _⟩ := hS
  obtain ⟨m, hm⟩ : ∃ m, xs.length = m := ⟨_, rfl⟩
  have HM := hid hm
  rw [hm] at hl HS ⊢
  clear hm
  go_enter Tryd.func18, Tryd.ntmps18
  go_wp2
  go_loopw [3] (fun x wr => ∃ (k : Nat), k ≤ m ∧ x = .int .i64 (k : Int) ∧ (∀ y ∈ xs.take k, 1 ≤ y ∧ y ≤ 255) ∧ Below w.heap.size w wr) (fun x _ => m - (intOf x).toNat)
  case atStart => exact ⟨0, Nat.zero_le _, rfl, by simp, Below.refl _ _⟩
  case round =>
    obtain ⟨k, hk, rfl, hok, hB⟩ := hrel
    have zB := hB.size
    have HB := hid hB
    have HOK := hid hok
    clear hB hok
    by_cases hlt : k < m
    · obtain ⟨x, hx⟩ : ∃ s, xs[k]? = some s := ⟨xs[k]'(by rw [HM.out]; exact hlt), List.getElem?_eq_getElem _⟩
      have HX := hid hx
      obtain ⟨g, off, rfl, hg, d0⟩ := (HS.out.below HB.out).at hx
      clear hx
      have hk0 : (0 : Int) ≤ (k : Int) := by omega
      have hkm : (k : Int) < (m : Int) := by omega
      by_cases h1 : x < 1
      · have EQ := hid (chkx_bad HX.out (by omega))
        go_wp2
        go_ret
        exact ⟨by rw [EQ.out]; rfl, HB.out⟩
      · by_cases h2 : 255 < x
        · have EQ := hid (chkx_bad HX.out (by omega))
          go_wp2
          go_ret
          exact ⟨by rw [EQ.out]; rfl, HB.out⟩
        · have HC := hid (show 1 ≤ x ∧ x ≤ 255 by omega)
          go_wp2
          go_roundw
          case rel => exact ⟨k + 1, by omega, by go_num, all_next HX.out HOK.out HC.out, HB.out⟩
          case measure => simp [intOf]; omega
    · obtain rfl : m = k := by omega
      have hall : ∀ y ∈ xs, 1 ≤ y ∧ y ≤ 255 := fun s hs => HOK.out s (by rw [List.take_of_length_le (by rw [HM.out]; exact Nat.le_refl _)]; exact hs)
      have HALL := hid hall
      clear hall HOK
      go_wp2
      go_loopw [4] (fun x wr2 => ∃ q : Nat, q ≤ m ∧ x = .int .i64 (q : Int) ∧ nod xs q ∧ Below w.heap.size w wr2) (fun x _ => m - (intOf x).toNat)
      case atStart => exact ⟨0, Nat.zero_le _, rfl, nod_zero xs, HB.out⟩
      case round =>
        obtain ⟨q, hq, rfl, hnd, hB2⟩ := hrel
        have zB2 := hB2.size
        have HB2 := hid hB2
        have HND := hid hnd
        clear hB2 hnd
        by_cases hlq : q < m
        · obtain ⟨x, hx⟩ : ∃ s, xs[q]? = some s := ⟨xs[q]'(by rw [HM.out]; exact hlq), List.getElem?_eq_getElem _⟩
          have HX := hid hx
          clear hx
          go_wp2
          go_loopw [5] (fun x wr4 => ∃ q4 : Nat, q4 ≤ q ∧ x = .int .i64 (q4 : Int) ∧ (∀ b, b < q4 → xs[q]? ≠ xs[b]?) ∧ Below w.heap.size w wr4) (fun x _ => q - (intOf x).toNat)
          case atStart => exact ⟨0, Nat.zero_le _, rfl, fun b h => absurd h (Nat.not_lt_zero _), HB2.out⟩
          case round =>
            obtain ⟨q4, hq4, rfl, hni, hB4⟩ := hrel
            have zB4 := hB4.size
            have HB4 := hid hB4
            have HNI := hid hni
            clear hB4 hni
            by_cases hl4 : q4 < q
            · obtain ⟨y, hy⟩ : ∃ s, xs[q4]? = some s := ⟨xs[q4]'(by rw [HM.out]; omega), List.getElem?_eq_getElem _⟩
              have HY := hid hy
              obtain ⟨g, off, hga, hg, d0⟩ := (HS.out.below HB4.out).at hy
              subst hga
              obtain ⟨g2, off2, hga2, hg2, u0⟩ := (HS.out.below HB4.out).at HX.out
              cases hga2
              clear hy
              have hk0 : (0 : Int) ≤ (q4 : Int) := by omega
              have hkm : (q4 : Int) < (m : Int) := by omega
              have hk2 : (0 : Int) ≤ (q : Int) := by omega
              have hkm2 : (q : Int) < (m : Int) := by omega
              by_cases e : x = y
              · have EQ := hid (chkx_dup HALL.out hl4 (by rw [HM.out]; exact hlq) (by rw [HX.out, HY.out, e]))
                have hd : (x == y) = true := by simp [e]
                clear e
                go_wp2
                go_quiet (fail)
                go_wp2
                go_ret
                exact ⟨by rw [EQ.out]; rfl, Below.drewN' HB4.out _⟩
              · have hd : (x == y) = false := by simp [e]
                have HNE := hid e
                clear e
                go_wp2
                go_quiet (fail)
                go_wp2
                go_roundw
                case rel => exact ⟨q4 + 1, by omega, by go_num, fun b h => by
                    by_cases e9 : b = q4
                    · subst e9; rw [HX.out, HY.out]; exact fun h9 => HNE.out (Option.some.inj h9)
                    · exact HNI.out b (by omega), Below.drewN' HB4.out _⟩
                case measure => simp [intOf]; omega
            · obtain rfl : q = q4 := by omega
              have HN2 := hid (nod_succ HND.out HNI.out)
              go_wp2
              go_roundw
              case rel => exact ⟨q + 1, by omega, by go_num, HN2.out, HB4.out⟩
              case measure => simp [intOf]; omega
        · obtain rfl : m = q := by omega
          have EQ := hid (chkx_ok HALL.out (by rw [HM.out]; exact HND.out))
          go_wp2
          go_ret
          exact ⟨by rw [EQ.out]; rfl, HB2.out⟩
end Go.Proofs.YtogenbggjodcnaaDoor
/-
  Rows of elements that were made and are stored into: what lies in them, what stays.
-/
namespace Go.Proofs.YtogenbggjodcnaaDoor
open Go.RowKit Go.Shelf

theorem info_r9 : (Tryd.prog.info? 29).map (fun i => (i.zero, i.size, i.bytes)) = some (some (.agg #[.int .u64 0, .int .u64 0, .int .u64 0, .int .u64 0]), 4, 32) := by kernel_rfl
/-- The block g is a made row of the n numbers f 0, f 1, ... -/
def RowF (w : World) (base : Nat) (t : TypeId) (g n c : Nat) (f : Nat → Nat) : Prop := ∃ ys, w.ownsRow base t 4 (.slice (some ⟨g, 0, none⟩) n c) n ys ∧ FRow n f ys
section
variable {w w' : World} {base g n c : Nat} {t : TypeId} {f : Nat → Nat}
theorem RowF.keep (h : RowF w base t g n c f) (hb : Below w.heap.size w w') : RowF w' base t g n c f := by
  obtain ⟨ys, h1, h2⟩ := h
  exact ⟨ys, owns_keep h1 hb, h2⟩
theorem RowF.mono {b' : Nat} (h : RowF w base t g n c f) (hb : b' ≤ base) : RowF w b' t g n c f := by
  obtain ⟨ys, h1, h2⟩ := h
  exact ⟨ys, owns_mono h1 hb, h2⟩
theorem RowF.lt (h : RowF w base t g n c f) : g < w.heap.size := by obtain ⟨ys, h1, h2⟩ := h; exact (h1.lt _ rfl).2
theorem RowF.ge (h : RowF w base t g n c f) : base ≤ g := by obtain ⟨ys, h1, h2⟩ := h; exact (h1.lt _ rfl).1
theorem RowF.congr {f' : Nat → Nat} (h : RowF w base t g n c f) (e : ∀ t, t < n → f' t = f t) : RowF w base t g n c f' := by
  obtain ⟨ys, h1, h2⟩ := h
  exact ⟨ys, h1, h2.congr e⟩
theorem RowF.other {F : Nat → Prop} (h : RowF w base t g n c f) (o : Only F w w') (hF : ¬ F g) : RowF w' base t g n c f := by
  obtain ⟨ys, h1, h2⟩ := h
  exact ⟨ys, owns_only h1 o (fun k hk => by cases hk; exact hF), h2⟩
theorem RowF.cells {i v : Nat} (h : RowF w base t g n c f) (hi : i < n) (hv : f i = v) : w.cell? ⟨g, i * 4, none⟩ = some (.int .u64 (limb v 0 : Int)) ∧ w.cell? ⟨g, i * 4 + 1, none⟩ = some (.int .u64 (limb v 1 : Int)) ∧ w.cell? ⟨g, i * 4 + 2, none⟩ = some (.int .u64 (limb v 2 : Int)) ∧ w.cell? ⟨g, i * 4 + 3, none⟩ = some (.int .u64 (limb v 3 : Int)) := by
  obtain ⟨ys, h1, h2⟩ := h
  subst hv
  exact ⟨(h1.cellAt (i * 4) (by omega)).trans (h2.2 i 0 hi (by omega)), (h1.cellAt (i * 4 + 1) (by omega)).trans (h2.2 i 1 hi (by omega)), (h1.cellAt (i * 4 + 2) (by omega)).trans (h2.2 i 2 hi (by omega)), (h1.cellAt (i * 4 + 3) (by omega)).trans (h2.2 i 3 hi (by omega))⟩
theorem RowF.frozen (h : RowF w base t g n c f) (o : Nat) : w.frozen? ⟨g, o, none⟩ = false := by
  obtain ⟨ys, h1, h2⟩ := h
  exact h1.frozenAt o
/-- A store of the number r at i. -/
theorem RowF.store {i : Nat} (h : RowF w base t g n c f) (hi : i < n) (r : Nat) : RowF ((((w.setCell ⟨g, i * 4, none⟩ (.int .u64 (limb r 0 : Int))).setCell ⟨g, i * 4 + 1, none⟩ (.int .u64 (limb r 1 : Int))).setCell ⟨g, i * 4 + 2, none⟩ (.int .u64 (limb r 2 : Int))).setCell ⟨g, i * 4 + 3, none⟩ (.int .u64 (limb r 3 : Int))) base t g n c (fun u => if u = i then r else f u) := by
  obtain ⟨ys, h1, h2⟩ := h
  exact ⟨_, ((((h1.stored (i * 4) _).1.stored (i * 4 + 1) _).1.stored (i * 4 + 2) _).1.stored (i * 4 + 3) _).1, h2.store hi r (fun _ _ => rfl)⟩
theorem only_row (w : World) (g i : Nat) (v0 v1 v2 v3 : Value) : Only (fun k => k = g) w ((((w.setCell ⟨g, i * 4, none⟩ v0).setCell ⟨g, i * 4 + 1, none⟩ v1).setCell ⟨g, i * 4 + 2, none⟩ v2).setCell ⟨g, i * 4 + 3, none⟩ v3) :=
  (((((Only.refl (fun k => k = g) w).setCell (p := ⟨g, i * 4, none⟩) (.inl rfl) v0).setCell (p := ⟨g, i * 4 + 1, none⟩) (.inl rfl) v1).setCell (p := ⟨g, i * 4 + 2, none⟩) (.inl rfl) v2).setCell (p := ⟨g, i * 4 + 3, none⟩) (.inl rfl) v3)
theorem RowF.own (h : RowF w base t g n c f) : w.ownsRow base t 4 (.slice (some ⟨g, 0, none⟩) n c) n (nums ((List.range n).map f)) := by
  obtain ⟨ys, h1, h2⟩ := h
  rw [← h2.done]; exact h1
theorem RowF.ownl {xs : List Nat} (h : RowF w base t g n c f) (hn : xs.length = n) (hf : ∀ i, i < n → f i = xs.getD i 0) : w.ownsRow base t 4 (.slice (some ⟨g, 0, none⟩) n c) n (nums xs) := by
  have e : (List.range n).map f = xs := by
    refine List.ext_getElem? fun k => ?_
    rw [List.getElem?_map]
    by_cases hk : k < n
    · rw [List.getElem?_range hk, Option.map_some, hf k hk, List.getD_eq_getElem?_getD, List.getElem?_eq_getElem (by omega)]; rfl
    · rw [List.getElem?_eq_none (by simp; omega), List.getElem?_eq_none (by omega)]; rfl
  have := h.own
  rw [e] at this
  exact this
theorem RowF.sl {xs : List Nat} (h : RowF w base t g n c f) (hn : xs.length = n) (hf : ∀ i, i < n → f i = xs.getD i 0) (hp : ∀ x ∈ xs, x < B256) : NumSl w (.slice (some ⟨g, 0, none⟩) n c) xs := by
  have := h.ownl hn hf
  rw [← hn] at this ⊢
  exact nums_own this hp
/-- A row out of an owned slice. -/
theorem RowF.of {v : Value} {xs : List Nat} (h : w.ownsRow base t 4 v n (nums xs)) (hn : xs.length = n) (h0 : 0 < n) : ∃ g c, v = .slice (some ⟨g, 0, none⟩) n c ∧ RowF w base t g n c (fun i => xs.getD i 0) := by
  obtain ⟨a, c, rfl, _, _, hg⟩ := owns_form h
  obtain ⟨g, rfl⟩ := hg h0
  exact ⟨g, c, rfl, _, h, hn ▸ FRow.of xs⟩
end
/-- It returns a new row. -/
def RetRow (t : TypeId) (n : Nat) (f : Nat → Nat) (w : World) : Ending → World → Prop := fun e w' => ∃ g, e = .returned (.slice (some ⟨g, 0, none⟩) n n) ∧ RowF w' w.heap.size t g n n f ∧ Below w.heap.size w w'
set_option maxRecDepth 100000 in
/-- A row is made: all zero. -/
theorem run_made (w : World) (n : Nat) (hn : n < 1000000) : ∃ wq, (Instr.makeSlice 34 (.int .i64 (n : Int)) (.int .i64 (n : Int))).run Tryd.prog w = .ok (.slice (some ⟨w.heap.size, 0, none⟩) n n) wq ∧ RowF wq w.heap.size 29 w.heap.size n n (fun _ => 0) ∧ w.grownBy wq none := by
  obtain ⟨i0, hi, hz0, hz1, hz2⟩ := info_parts info_r9
  obtain ⟨wq, hmk, hoq, hgq⟩ := run_make_full (P := Tryd.prog) w w.heap.size 34 29 i0 _ 4 Tryd.underlying34 hi hz0 hz1 .i64 .i64 n (by rw [hz2]; omega) (by unfold maxLen; omega) (Nat.le_refl _)
  exact ⟨wq, hmk, ⟨_, hoq, FRow.zero n _ (by rw [Array.length_toList]; exact size_madeCells _ _) (fun j i hj hi => made_zeros n j i hj hi)⟩, hgq⟩
end Go.Proofs.YtogenbggjodcnaaDoor
/-
  Differences and negations of elements; the element of a point.
-/
namespace Go.Proofs.YtogenbggjodcnaaDoor
open Go.RowKit

attribute [local go_sem] Oper.semAt_some
theorem pick_sub {m a b : Nat} (hm : m < B256) (ha : a < m) (hb : b < m) : pick (msk (brw a b)) (sum (dif a b) m) (dif a b) = subm m a b := by
  rw [pick_eq, msk_mod, brw_eq]
  by_cases h : a < b
  · rw [if_pos h, if_pos rfl, subm_brw hm ha hb h]
  · rw [if_neg h, if_neg (by decide), subm_nob hm ha hb h]
theorem fS_eq9 (s : Bool) : fS s = B256 * B256 % fP s := by
  have h : ∀ p o q : Nat, powm p 2 256 = o → mulm p o o = q → q = B256 * B256 % p := fun p o q h1 h2 => by
    rw [← h2, ← h1, mulm_eq, powm_eq, ← Nat.mul_mod]; rfl
  cases s
  · exact h P1 O1 S1 radix_P1 square_P1
  · exact h P2 O2 S2 radix_P2 square_P2
theorem fS_lt9 (s : Bool) : fS s < fP s := by rw [fS_eq9]; exact Nat.mod_lt _ (by have := fP_two s; omega)
theorem mont_S9 (s : Bool) (v : Nat) : mont (fP s) v (fS s) = frm (fP s) v := by
  have hr := rinv_eq (fP_inv s)
  rw [mont_eq, frm_eq, fS_eq9]
  generalize fP s = m at *
  generalize rinv m = r at *
  have e1 : v * (B256 * B256 % m) * r % m = v * (B256 * B256) * r % m := by
    rw [← Nat.mod_mul_mod, Nat.mul_mod_mod, Nat.mod_mul_mod]
  have e2 : v * (B256 * B256) * r = (B256 * v) * (B256 * r) := by
    rw [Nat.mul_assoc v, Nat.mul_assoc B256 B256, Nat.mul_left_comm v B256, Nat.mul_assoc B256 v]
  rw [e1, e2, Nat.mul_mod, hr, Nat.mul_one, Nat.mod_mod]
set_option maxRecDepth 100000 in
set_option maxHeartbeats 2000000 in
theorem msub_any (b : Bool) (x y : Nat) (hx : x < fP b) (hy : y < fP b) (w : World) :
    Calls Tryd.prog 81 #[FV b, vec x, vec y] w (Ret (vec (subm (fP b) x y)) w) := by
  have BW := hid (Below.refl w.heap.size w)
  have hp := fP_lt b
  have HP := hid (pick_sub hp hx hy)
  have M1 := hid (fun W : World => lsub_any x y (by omega) (by omega) W)
  have M2 := hid (fun W : World => ladd_any (dif x y) (fP b) (dif_lt _ _) hp W)
  have M3 := hid (fun W : World => (fromBit_any (brw x y) (by rw [brw_eq]; unfold B64; split <;> omega) W).mono (R' := Ret (.int .u64 (msk (brw x y) : Int)) W) (by rintro e w' ⟨rfl, rfl⟩; exact ⟨rfl, Below.refl _ _⟩))
  have M4 := hid (fun W : World => lchoose_any (msk (brw x y)) (sum (dif x y) (fP b)) (dif x y) (msk_lt _) W)
  rw [HP.out] at M4
  clear HP hp
  go_enter Tryd.func81, Tryd.ntmps81
  go_wp2_with fail
  obtain ⟨v1, hv9⟩ : ∃ v, ((((w.alloc (.cells #[.int .i64 (fID b), .int .u64 (limb (fP b) 0 : Int), .int .u64 (limb (fP b) 1 : Int), .int .u64 (limb (fP b) 2 : Int), .int .u64 (limb (fP b) 3 : Int), .int .u64 (fI b : Int), .int .u64 (limb (fO b) 0 : Int), .int .u64 (limb (fO b) 1 : Int), .int .u64 (limb (fO b) 2 : Int), .int .u64 (limb (fO b) 3 : Int), .int .u64 (limb (fS b) 0 : Int), .int .u64 (limb (fS b) 1 : Int), .int .u64 (limb (fS b) 2 : Int), .int .u64 (limb (fS b) 3 : Int)] 31)).alloc (.cells #[.int .u64 (limb x 0 : Int), .int .u64 (limb x 1 : Int), .int .u64 (limb x 2 : Int), .int .u64 (limb x 3 : Int)] 29)).alloc (.cells #[.int .u64 (limb y 0 : Int), .int .u64 (limb y 1 : Int), .int .u64 (limb y 2 : Int), .int .u64 (limb y 3 : Int)] 29)).alloc (.cells #[.int .u64 0, .int .u64 0, .int .u64 0, .int .u64 0] 29)) = v := ⟨_, rfl⟩
  have hG9 : Below w.heap.size w v1 := by rw [← hv9]; go_grown
  have X_F : Blk v1 (w.heap.size) 31 [.int .i64 (fID b), .int .u64 (limb (fP b) 0 : Int), .int .u64 (limb (fP b) 1 : Int), .int .u64 (limb (fP b) 2 : Int), .int .u64 (limb (fP b) 3 : Int), .int .u64 (fI b : Int), .int .u64 (limb (fO b) 0 : Int), .int .u64 (limb (fO b) 1 : Int), .int .u64 (limb (fO b) 2 : Int), .int .u64 (limb (fO b) 3 : Int), .int .u64 (limb (fS b) 0 : Int), .int .u64 (limb (fS b) 1 : Int), .int .u64 (limb (fS b) 2 : Int), .int .u64 (limb (fS b) 3 : Int)] := by rw [← hv9]; exact Blk.alloc (Blk.alloc (Blk.alloc (Blk.new rfl) _) _) _
  have X_A : Blk v1 (w.heap.size + 1) 29 [.int .u64 (limb x 0 : Int), .int .u64 (limb x 1 : Int), .int .u64 (limb x 2 : Int), .int .u64 (limb x 3 : Int)] := by rw [← hv9]; exact Blk.alloc (Blk.alloc (Blk.new (by simp)) _) _
  have X_B : Blk v1 (w.heap.size + 1 + 1) 29 [.int .u64 (limb y 0 : Int), .int .u64 (limb y 1 : Int), .int .u64 (limb y 2 : Int), .int .u64 (limb y 3 : Int)] := by rw [← hv9]; exact Blk.alloc (Blk.new (by simp)) _
  have X_R : Blk v1 (w.heap.size + 1 + 1 + 1) 29 [.int .u64 0, .int .u64 0, .int .u64 0, .int .u64 0] := by rw [← hv9]; exact Blk.new (by simp)
  obtain ⟨bF, hb9⟩ : ∃ k, w.heap.size = k := ⟨_, rfl⟩
  rw [hb9] at X_F
  rw [hb9] at X_A
  rw [hb9] at X_B
  rw [hb9] at X_R
  have g_bF : w.heap.size ≤ bF := by rw [← hb9]; exact BW.out.size
  replace BW := hid (BW.out.trans (hG9.mono BW.out.size))
  clear hG9
  rw [hv9]
  try rw [hb9]
  clear hv9 hb9
  refine (M1.out _).mono ?_
  rintro e v2 ⟨rfl, b9⟩
  replace X_F := X_F.keep b9
  replace X_A := X_A.keep b9
  replace X_B := X_B.keep b9
  replace X_R := X_R.keep b9
  replace BW := hid (BW.out.trans (b9.mono BW.out.size))
  clear b9
  have z_F := X_F.lt
  have c_F0 := X_F.cell (i := 0) rfl
  have c_F1 := X_F.cell (i := 1) rfl
  have c_F2 := X_F.cell (i := 2) rfl
  have c_F3 := X_F.cell (i := 3) rfl
  have c_F4 := X_F.cell (i := 4) rfl
  have c_F5 := X_F.cell (i := 5) rfl
  have c_F6 := X_F.cell (i := 6) rfl
  have c_F7 := X_F.cell (i := 7) rfl
  have c_F8 := X_F.cell (i := 8) rfl
  have c_F9 := X_F.cell (i := 9) rfl
  have c_F10 := X_F.cell (i := 10) rfl
  have c_F11 := X_F.cell (i := 11) rfl
  have c_F12 := X_F.cell (i := 12) rfl
  have c_F13 := X_F.cell (i := 13) rfl
  go_wp2_with fail
  obtain ⟨v3, hv9⟩ : ∃ v, (v2.alloc (.cells #[.int .u64 (limb (dif x y) 0 : Int), .int .u64 (limb (dif x y) 1 : Int), .int .u64 (limb (dif x y) 2 : Int), .int .u64 (limb (dif x y) 3 : Int)] 28)) = v := ⟨_, rfl⟩
  have hG9 : Below v2.heap.size v2 v3 := by rw [← hv9]; go_grown
  have X_D : Blk v3 (v2.heap.size) 28 [.int .u64 (limb (dif x y) 0 : Int), .int .u64 (limb (dif x y) 1 : Int), .int .u64 (limb (dif x y) 2 : Int), .int .u64 (limb (dif x y) 3 : Int)] := by rw [← hv9]; exact Blk.new rfl
  obtain ⟨bD, hb9⟩ : ∃ k, v2.heap.size = k := ⟨_, rfl⟩
  rw [hb9] at X_D
  have g_bD : w.heap.size ≤ bD := by rw [← hb9]; exact BW.out.size
  have q_F_bD : bF < bD := by rw [← hb9]; exact X_F.lt
  have q_A_bD : bF + 1 < bD := by rw [← hb9]; exact X_A.lt
  have q_B_bD : bF + 1 + 1 < bD := by rw [← hb9]; exact X_B.lt
  have q_R_bD : bF + 1 + 1 + 1 < bD := by rw [← hb9]; exact X_R.lt
  clear z_F c_F0 c_F1 c_F2 c_F3 c_F4 c_F5 c_F6 c_F7 c_F8 c_F9 c_F10 c_F11 c_F12 c_F13
  replace X_F := X_F.keep hG9
  replace X_A := X_A.keep hG9
  replace X_B := X_B.keep hG9
  replace X_R := X_R.keep hG9
  replace BW := hid (BW.out.trans (hG9.mono BW.out.size))
  clear hG9
  rw [hv9]
  try rw [hb9]
  clear hv9 hb9
  refine (M2.out _).mono ?_
  rintro e v4 ⟨rfl, b9⟩
  replace X_F := X_F.keep b9
  replace X_A := X_A.keep b9
  replace X_B := X_B.keep b9
  replace X_R := X_R.keep b9
  replace X_D := X_D.keep b9
  replace BW := hid (BW.out.trans (b9.mono BW.out.size))
  clear b9
  have z_D := X_D.lt
  have c_D0 := X_D.cell (i := 0) rfl
  have c_D1 := X_D.cell (i := 1) rfl
  have c_D2 := X_D.cell (i := 2) rfl
  have c_D3 := X_D.cell (i := 3) rfl
  go_wp2_with fail
  obtain ⟨v5, hv9⟩ : ∃ v, (v4.alloc (.cells #[.int .u64 (limb (sum (dif x y) (fP b)) 0 : Int), .int .u64 (limb (sum (dif x y) (fP b)) 1 : Int), .int .u64 (limb (sum (dif x y) (fP b)) 2 : Int), .int .u64 (limb (sum (dif x y) (fP b)) 3 : Int)] 28)) = v := ⟨_, rfl⟩
  have hG9 : Below v4.heap.size v4 v5 := by rw [← hv9]; go_grown
  have X_S : Blk v5 (v4.heap.size) 28 [.int .u64 (limb (sum (dif x y) (fP b)) 0 : Int), .int .u64 (limb (sum (dif x y) (fP b)) 1 : Int), .int .u64 (limb (sum (dif x y) (fP b)) 2 : Int), .int .u64 (limb (sum (dif x y) (fP b)) 3 : Int)] := by rw [← hv9]; exact Blk.new rfl
  obtain ⟨bS, hb9⟩ : ∃ k, v4.heap.size = k := ⟨_, rfl⟩
  rw [hb9] at X_S
  have g_bS : w.heap.size ≤ bS := by rw [← hb9]; exact BW.out.size
  have q_F_bS : bF < bS := by rw [← hb9]; exact X_F.lt
  have q_A_bS : bF + 1 < bS := by rw [← hb9]; exact X_A.lt
  have q_B_bS : bF + 1 + 1 < bS := by rw [← hb9]; exact X_B.lt
  have q_R_bS : bF + 1 + 1 + 1 < bS := by rw [← hb9]; exact X_R.lt
  have q_D_bS : bD < bS := by rw [← hb9]; exact X_D.lt
  clear z_D c_D0 c_D1 c_D2 c_D3
  replace X_F := X_F.keep hG9
  replace X_A := X_A.keep hG9
  replace X_B := X_B.keep hG9
  replace X_R := X_R.keep hG9
  replace X_D := X_D.keep hG9
  replace BW := hid (BW.out.trans (hG9.mono BW.out.size))
  clear hG9
  rw [hv9]
  try rw [hb9]
  clear hv9 hb9
  have z_S := X_S.lt
  have c_S0 := X_S.cell (i := 0) rfl
  have c_S1 := X_S.cell (i := 1) rfl
  have c_S2 := X_S.cell (i := 2) rfl
  have c_S3 := X_S.cell (i := 3) rfl
  have z_D := X_D.lt
  have c_D0 := X_D.cell (i := 0) rfl
  have c_D1 := X_D.cell (i := 1) rfl
  have c_D2 := X_D.cell (i := 2) rfl
  have c_D3 := X_D.cell (i := 3) rfl
  refine wp_region_soft (C := fun W' => Below v5.heap.size v5 W') 5 (by kernel_rfl) (by kernel_rfl) ((Below.refl _ _).drew) ?_
  simp only [List.take_succ_cons, List.take_zero, List.drop_succ_cons, List.drop_zero]
  refine wpQuiet_step (fun K hK => ?_)
  rw [if_pos (by rfl)]
  refine ⟨.int .u64 (brw x y : Int), fun W' hW => ?_, hK _ ?_⟩
  · go_simp
  clear hK K
  simp only [Act.put, List.setIfInBounds_toArray, List.set_cons_zero, List.set_cons_succ]
  refine wpQuiet_step (fun K hK => ?_)
  rw [if_pos (by rfl)]
  refine ⟨.int .u64 (msk (brw x y) : Int), fun W' hW => ?_, hK _ ?_⟩
  · go_simp
    refine (M3.out _).mono ?_
    rintro e w' ⟨rfl, b⟩
    exact ⟨rfl, hW.trans (b.mono hW.size)⟩
  clear hK K
  simp only [Act.put, List.setIfInBounds_toArray, List.set_cons_zero, List.set_cons_succ]
  refine wpQuiet_step (fun K hK => ?_)
  rw [if_pos (by rfl)]
  refine ⟨vec (sum (dif x y) (fP b)), fun W' hW => ?_, hK _ ?_⟩
  · have e_0 := (hW.cell (p := ⟨bS, 0, none⟩) z_S).trans c_S0
    have e_1 := (hW.cell (p := ⟨bS, 1, none⟩) z_S).trans c_S1
    have e_2 := (hW.cell (p := ⟨bS, 2, none⟩) z_S).trans c_S2
    have e_3 := (hW.cell (p := ⟨bS, 3, none⟩) z_S).trans c_S3
    go_simp
  clear hK K
  simp only [Act.put, List.setIfInBounds_toArray, List.set_cons_zero, List.set_cons_succ]
  refine wpQuiet_step (fun K hK => ?_)
  rw [if_pos (by rfl)]
  refine ⟨vec (dif x y), fun W' hW => ?_, hK _ ?_⟩
  · have e_0 := (hW.cell (p := ⟨bD, 0, none⟩) z_D).trans c_D0
    have e_1 := (hW.cell (p := ⟨bD, 1, none⟩) z_D).trans c_D1
    have e_2 := (hW.cell (p := ⟨bD, 2, none⟩) z_D).trans c_D2
    have e_3 := (hW.cell (p := ⟨bD, 3, none⟩) z_D).trans c_D3
    go_simp
  clear hK K
  simp only [Act.put, List.setIfInBounds_toArray, List.set_cons_zero, List.set_cons_succ]
  refine wpQuiet_step (fun K hK => ?_)
  rw [if_pos (by rfl)]
  refine ⟨vec (subm (fP b) x y), fun W' hW => ?_, hK _ ?_⟩
  · go_simp
    refine (M4.out _).mono ?_
    rintro e w' ⟨rfl, b⟩
    exact ⟨rfl, hW.trans (b.mono hW.size)⟩
  clear hK K
  simp only [Act.put, List.setIfInBounds_toArray, List.set_cons_zero, List.set_cons_succ]
  refine wpQuiet_nil ?_
  intro ws0 hW9
  clear z_S c_S0 c_S1 c_S2 c_S3 z_D c_D0 c_D1 c_D2 c_D3
  replace X_F := X_F.keep hW9
  replace X_A := X_A.keep hW9
  replace X_B := X_B.keep hW9
  replace X_R := X_R.keep hW9
  replace X_D := X_D.keep hW9
  replace X_S := X_S.keep hW9
  replace BW := hid (BW.out.trans (hW9.mono BW.out.size))
  clear hW9
  have z_R := X_R.lt
  have c_R0 := X_R.cell (i := 0) rfl
  have f_R0 := X_R.frozen 0
  have c_R1 := X_R.cell (i := 1) rfl
  have f_R1 := X_R.frozen 1
  have c_R2 := X_R.cell (i := 2) rfl
  have f_R2 := X_R.frozen 2
  have c_R3 := X_R.cell (i := 3) rfl
  have f_R3 := X_R.frozen 3
  have hBW := BW.out
  have zBW := hBW.size
  go_wp2
  refine bodyPost_ret (by simp only [results, Tryd.results81]; go_simp; try rfl) rfl ?_
  exact ⟨rfl, by go_grown⟩

set_option maxRecDepth 100000 in
set_option maxHeartbeats 2000000 in
theorem mneg_any (b : Bool) (y : Nat) (hy : y < fP b) (w : World) :
    Calls Tryd.prog 109 #[FV b, vec y] w (Ret (vec (subm (fP b) 0 y)) w) := by
  have BW := hid (Below.refl w.heap.size w)
  have M1 := hid (fun W : World => msub_any b 0 y (by omega) hy W)
  rw [← vec_zero] at M1
  go_enter Tryd.func109, Tryd.ntmps109
  go_wp2_with fail
  obtain ⟨v1, hv9⟩ : ∃ v, (((w.alloc (.cells #[.int .i64 (fID b), .int .u64 (limb (fP b) 0 : Int), .int .u64 (limb (fP b) 1 : Int), .int .u64 (limb (fP b) 2 : Int), .int .u64 (limb (fP b) 3 : Int), .int .u64 (fI b : Int), .int .u64 (limb (fO b) 0 : Int), .int .u64 (limb (fO b) 1 : Int), .int .u64 (limb (fO b) 2 : Int), .int .u64 (limb (fO b) 3 : Int), .int .u64 (limb (fS b) 0 : Int), .int .u64 (limb (fS b) 1 : Int), .int .u64 (limb (fS b) 2 : Int), .int .u64 (limb (fS b) 3 : Int)] 31)).alloc (.cells #[.int .u64 (limb y 0 : Int), .int .u64 (limb y 1 : Int), .int .u64 (limb y 2 : Int), .int .u64 (limb y 3 : Int)] 29)).alloc (.cells #[.int .u64 0, .int .u64 0, .int .u64 0, .int .u64 0] 29)) = v := ⟨_, rfl⟩
  have hG9 : Below w.heap.size w v1 := by rw [← hv9]; go_grown
  have X_F : Blk v1 (w.heap.size) 31 [.int .i64 (fID b), .int .u64 (limb (fP b) 0 : Int), .int .u64 (limb (fP b) 1 : Int), .int .u64 (limb (fP b) 2 : Int), .int .u64 (limb (fP b) 3 : Int), .int .u64 (fI b : Int), .int .u64 (limb (fO b) 0 : Int), .int .u64 (limb (fO b) 1 : Int), .int .u64 (limb (fO b) 2 : Int), .int .u64 (limb (fO b) 3 : Int), .int .u64 (limb (fS b) 0 : Int), .int .u64 (limb (fS b) 1 : Int), .int .u64 (limb (fS b) 2 : Int), .int .u64 (limb (fS b) 3 : Int)] := by rw [← hv9]; exact Blk.alloc (Blk.alloc (Blk.new rfl) _) _
  have X_A : Blk v1 (w.heap.size + 1) 29 [.int .u64 (limb y 0 : Int), .int .u64 (limb y 1 : Int), .int .u64 (limb y 2 : Int), .int .u64 (limb y 3 : Int)] := by rw [← hv9]; exact Blk.alloc (Blk.new (by simp)) _
  have X_R : Blk v1 (w.heap.size + 1 + 1) 29 [.int .u64 0, .int .u64 0, .int .u64 0, .int .u64 0] := by rw [← hv9]; exact Blk.new (by simp)
  obtain ⟨bF, hb9⟩ : ∃ k, w.heap.size = k := ⟨_, rfl⟩
  rw [hb9] at X_F
  rw [hb9] at X_A
  rw [hb9] at X_R
  have g_bF : w.heap.size ≤ bF := by rw [← hb9]; exact BW.out.size
  replace BW := hid (BW.out.trans (hG9.mono BW.out.size))
  clear hG9
  rw [hv9]
  try rw [hb9]
  clear hv9 hb9
  refine (M1.out _).mono ?_
  rintro e v2 ⟨rfl, b9⟩
  replace X_F := X_F.keep b9
  replace X_A := X_A.keep b9
  replace X_R := X_R.keep b9
  replace BW := hid (BW.out.trans (b9.mono BW.out.size))
  clear b9
  have z_R := X_R.lt
  have c_R0 := X_R.cell (i := 0) rfl
  have f_R0 := X_R.frozen 0
  have c_R1 := X_R.cell (i := 1) rfl
  have f_R1 := X_R.frozen 1
  have c_R2 := X_R.cell (i := 2) rfl
  have f_R2 := X_R.frozen 2
  have c_R3 := X_R.cell (i := 3) rfl
  have f_R3 := X_R.frozen 3
  have hBW := BW.out
  have zBW := hBW.size
  go_wp2
  refine bodyPost_ret (by simp only [results, Tryd.results109]; go_simp; try rfl) rfl ?_
  exact ⟨rfl, by go_grown⟩

set_option maxRecDepth 100000 in
set_option maxHeartbeats 2000000 in
theorem to9_any (b : Bool) (n : Nat) (hn : n < B256) (w : World) :
    Calls Tryd.prog 107 #[FV b, vec n] w (Ret (vec (frm (fP b) n)) w) := by
  have BW := hid (Below.refl w.heap.size w)
  have M := hid (fun W : World => mmul_any (fID b) (fP b) (fI b) (fO b) (fS b) n (fS b) (fOK b) hn (Nat.lt_trans (fS_lt9 b) (fP_lt b)) (Nat.mul_lt_mul_of_lt_of_lt hn (fS_lt9 b)) W)
  rw [mont_S9] at M
  go_enter Tryd.func107, Tryd.ntmps107
  go_wp2_with fail
  obtain ⟨v1, hv9⟩ : ∃ v, (((w.alloc (.cells #[.int .i64 (fID b), .int .u64 (limb (fP b) 0 : Int), .int .u64 (limb (fP b) 1 : Int), .int .u64 (limb (fP b) 2 : Int), .int .u64 (limb (fP b) 3 : Int), .int .u64 (fI b : Int), .int .u64 (limb (fO b) 0 : Int), .int .u64 (limb (fO b) 1 : Int), .int .u64 (limb (fO b) 2 : Int), .int .u64 (limb (fO b) 3 : Int), .int .u64 (limb (fS b) 0 : Int), .int .u64 (limb (fS b) 1 : Int), .int .u64 (limb (fS b) 2 : Int), .int .u64 (limb (fS b) 3 : Int)] 31)).alloc (.cells #[.int .u64 (limb n 0 : Int), .int .u64 (limb n 1 : Int), .int .u64 (limb n 2 : Int), .int .u64 (limb n 3 : Int)] 28)).alloc (.cells #[.int .u64 0, .int .u64 0, .int .u64 0, .int .u64 0] 29)) = v := ⟨_, rfl⟩
  have hG9 : Below w.heap.size w v1 := by rw [← hv9]; go_grown
  have X_F : Blk v1 (w.heap.size) 31 [.int .i64 (fID b), .int .u64 (limb (fP b) 0 : Int), .int .u64 (limb (fP b) 1 : Int), .int .u64 (limb (fP b) 2 : Int), .int .u64 (limb (fP b) 3 : Int), .int .u64 (fI b : Int), .int .u64 (limb (fO b) 0 : Int), .int .u64 (limb (fO b) 1 : Int), .int .u64 (limb (fO b) 2 : Int), .int .u64 (limb (fO b) 3 : Int), .int .u64 (limb (fS b) 0 : Int), .int .u64 (limb (fS b) 1 : Int), .int .u64 (limb (fS b) 2 : Int), .int .u64 (limb (fS b) 3 : Int)] := by rw [← hv9]; exact Blk.alloc (Blk.alloc (Blk.new rfl) _) _
  have X_V : Blk v1 (w.heap.size + 1) 28 [.int .u64 (limb n 0 : Int), .int .u64 (limb n 1 : Int), .int .u64 (limb n 2 : Int), .int .u64 (limb n 3 : Int)] := by rw [← hv9]; exact Blk.alloc (Blk.new (by simp)) _
  have X_R : Blk v1 (w.heap.size + 1 + 1) 29 [.int .u64 0, .int .u64 0, .int .u64 0, .int .u64 0] := by rw [← hv9]; exact Blk.new (by simp)
  obtain ⟨bF, hb9⟩ : ∃ k, w.heap.size = k := ⟨_, rfl⟩
  rw [hb9] at X_F
  rw [hb9] at X_V
  rw [hb9] at X_R
  have g_bF : w.heap.size ≤ bF := by rw [← hb9]; exact BW.out.size
  replace BW := hid (BW.out.trans (hG9.mono BW.out.size))
  clear hG9
  rw [hv9]
  try rw [hb9]
  clear hv9 hb9
  refine (M.out _).mono ?_
  rintro e v2 ⟨rfl, b9⟩
  replace X_F := X_F.keep b9
  replace X_V := X_V.keep b9
  replace X_R := X_R.keep b9
  replace BW := hid (BW.out.trans (b9.mono BW.out.size))
  clear b9
  have z_R := X_R.lt
  have c_R0 := X_R.cell (i := 0) rfl
  have f_R0 := X_R.frozen 0
  have c_R1 := X_R.cell (i := 1) rfl
  have f_R1 := X_R.frozen 1
  have c_R2 := X_R.cell (i := 2) rfl
  have f_R2 := X_R.frozen 2
  have c_R3 := X_R.cell (i := 3) rfl
  have f_R3 := X_R.frozen 3
  have hBW := BW.out
  have zBW := hBW.size
  go_wp2
  refine bodyPost_ret (by simp only [results, Tryd.results107]; go_simp; try rfl) rfl ?_
  exact ⟨rfl, by go_grown⟩

theorem vec_pt {x : Int} (h1 : 1 ≤ x) (h2 : x ≤ 255) : (.agg #[.int .u64 x, .int .u64 0, .int .u64 0, .int .u64 0] : Value) = vec x.toNat := by
  have e : x = ((x.toNat : Nat) : Int) := by omega
  have := vec_small (x := x.toNat) (by omega)
  rw [this, ← e]
theorem topt_any (b : Bool) (x : Int) (h1 : 1 ≤ x) (h2 : x ≤ 255) (w : World) : Calls Tryd.prog 107 #[FV b, .agg #[.int .u64 x, .int .u64 0, .int .u64 0, .int .u64 0]] w (Ret (vec (frm (fP b) x.toNat)) w) := by
  rw [vec_pt h1 h2]
  exact to9_any b x.toNat (by unfold B256; omega) w
set_option maxRecDepth 100000 in
set_option maxHeartbeats 2000000 in
theorem point_any (x : Int) (h1 : 1 ≤ x) (h2 : x ≤ 255) (w : World) :
    Calls Tryd.prog 24 #[.int .i64 x] w (Ret (vec x.toNat) w) := by
  have hv := vec_pt h1 h2
  have HV := hid hv
  clear hv
  go_enter Tryd.func24, Tryd.ntmps24
  go_wp2
  refine bodyPost_ret (by simp only [results, Tryd.results24]; go_simp; try rfl) rfl ?_
  exact ⟨by rw [← HV.out], by go_grown⟩
end Go.Proofs.YtogenbggjodcnaaDoor
/-
  The elements of points.
-/
namespace Go.Proofs.YtogenbggjodcnaaDoor
open Go.RowKit

attribute [local go_sem] Oper.semAt_some
/-- A store at i into a row that held a value there. -/
theorem put_same {f : Nat → Nat} {i a r n : Nat} : ∀ t, t < n → (fun u => if u = i then r else f u) t = (fun u => if u = i then r else (if u = i then a else f u)) t := fun t _ => by
  by_cases h : t = i <;> simp [h]
/-- The first k are done: one more. -/
theorem put_next {f : Nat → Nat} {k r n : Nat} (h : f k = r) : ∀ t, t < n → (fun u => if u < k + 1 then f u else 0) t = (fun u => if u = k then r else (if u < k then f u else 0)) t := fun t _ => by
  by_cases e : t = k
  · subst e; simp [h]
  · by_cases l : t < k
    · simp [e, l]; intro h; omega
    · simp [e, l]; intro h; omega
theorem put_none {f : Nat → Nat} {n : Nat} : ∀ t, t < n → (fun u => if u < 0 then f u else 0) t = (fun _ => 0) t := fun t _ => by simp
theorem put_all {f : Nat → Nat} {n : Nat} : ∀ t, t < n → f t = (fun u => if u < n then f u else 0) t := fun t h => by simp [h]
set_option maxRecDepth 100000 in
set_option maxHeartbeats 2000000 in
theorem points_any (b : Bool) (v : Value) (xs : List Int) (w : World) (hS : IntSl w v xs) (hx : Hid (∀ x ∈ xs, 1 ≤ x ∧ x ≤ 255)) (hl : xs.length < 1000000) :
    Calls Tryd.prog 92 #[FV b, v] w (RetRow 29 xs.length (fun t => frm (fP b) ((pts xs).getD t 0)) w) := by
  have BW := hid (Below.refl w.heap.size w)
  have HS := hid hS
  obtain ⟨a, cap, rfl, _⟩ := hS
  obtain ⟨n, hn⟩ : ∃ n, xs.length = n := ⟨_, rfl⟩
  have HN := hid hn
  rw [hn] at hl HS ⊢
  clear hn
  go_enter Tryd.func92, Tryd.ntmps92
  go_upto_region 1 with (fail)
  obtain ⟨v1, hv9⟩ : ∃ v, (w.alloc (.cells #[.int .i64 (fID b), .int .u64 (limb (fP b) 0 : Int), .int .u64 (limb (fP b) 1 : Int), .int .u64 (limb (fP b) 2 : Int), .int .u64 (limb (fP b) 3 : Int), .int .u64 (fI b : Int), .int .u64 (limb (fO b) 0 : Int), .int .u64 (limb (fO b) 1 : Int), .int .u64 (limb (fO b) 2 : Int), .int .u64 (limb (fO b) 3 : Int), .int .u64 (limb (fS b) 0 : Int), .int .u64 (limb (fS b) 1 : Int), .int .u64 (limb (fS b) 2 : Int), .int .u64 (limb (fS b) 3 : Int)] 31)) = v := ⟨_, rfl⟩
  have hG9 : Below w.heap.size w v1 := by rw [← hv9]; go_grown
  have X_F : Blk v1 (w.heap.size) 31 [.int .i64 (fID b), .int .u64 (limb (fP b) 0 : Int), .int .u64 (limb (fP b) 1 : Int), .int .u64 (limb (fP b) 2 : Int), .int .u64 (limb (fP b) 3 : Int), .int .u64 (fI b : Int), .int .u64 (limb (fO b) 0 : Int), .int .u64 (limb (fO b) 1 : Int), .int .u64 (limb (fO b) 2 : Int), .int .u64 (limb (fO b) 3 : Int), .int .u64 (limb (fS b) 0 : Int), .int .u64 (limb (fS b) 1 : Int), .int .u64 (limb (fS b) 2 : Int), .int .u64 (limb (fS b) 3 : Int)] := by rw [← hv9]; exact Blk.new rfl
  obtain ⟨bF, hb9⟩ : ∃ k, w.heap.size = k := ⟨_, rfl⟩
  rw [hb9] at X_F
  have g_bF : w.heap.size ≤ bF := by rw [← hb9]; exact BW.out.size
  replace BW := hid (BW.out.trans (hG9.mono BW.out.size))
  clear hG9
  rw [hv9]
  try rw [hb9]
  clear hv9 hb9
  obtain ⟨wq_o, hmk_o, hR_o, hgq_o⟩ := run_made v1 n hl
  go_wp2
  have b9 : Below v1.heap.size v1 wq_o := Below.grown (Below.refl _ _) hgq_o (Nat.le_refl _) (fun j hj => by cases hj)
  obtain ⟨go, hg9⟩ : ∃ q, v1.heap.size = q := ⟨_, rfl⟩
  have lt9 : v1.heap.size ≤ go := by omega
  have q_F_go : bF < go := Nat.lt_of_lt_of_le X_F.lt lt9
  have z0_go : w.heap.size ≤ go := Nat.le_trans BW.out.size lt9
  have R_o := hid (hR_o.mono BW.out.size)
  rw [hg9] at R_o
  try rw [hg9]
  clear hR_o hgq_o hmk_o hg9 lt9
  replace X_F := X_F.keep b9
  replace BW := hid (BW.out.trans (b9.mono BW.out.size))
  clear b9
  go_loopw [13] (fun ix wr => ∃ k : Nat, k ≤ n ∧ ix = .int .i64 (k : Int) ∧ Blk wr (bF) 31 [.int .i64 (fID b), .int .u64 (limb (fP b) 0 : Int), .int .u64 (limb (fP b) 1 : Int), .int .u64 (limb (fP b) 2 : Int), .int .u64 (limb (fP b) 3 : Int), .int .u64 (fI b : Int), .int .u64 (limb (fO b) 0 : Int), .int .u64 (limb (fO b) 1 : Int), .int .u64 (limb (fO b) 2 : Int), .int .u64 (limb (fO b) 3 : Int), .int .u64 (limb (fS b) 0 : Int), .int .u64 (limb (fS b) 1 : Int), .int .u64 (limb (fS b) 2 : Int), .int .u64 (limb (fS b) 3 : Int)] ∧ RowF wr w.heap.size 29 go n n (fun t => if t < k then frm (fP b) ((pts xs).getD t 0) else 0) ∧ Below w.heap.size w wr) (fun ix _ => n - (intOf ix).toNat)
  case atStart => exact ⟨0, Nat.zero_le _, rfl, X_F, (R_o.out.congr put_none), BW.out⟩
  case round =>
    clear X_F R_o BW
    obtain ⟨k, hk_k, rfl, X_F, r9_o, b9⟩ := hrel
    obtain ⟨v3, hv9⟩ : ∃ v, v = wr := ⟨_, rfl⟩
    subst hv9
    have R_o := hid r9_o
    clear r9_o
    have BW := hid b9
    clear b9
    by_cases hlt : k < n
    · skip
      obtain ⟨x, hx9⟩ : ∃ x, xs[k]? = some x := ⟨xs[k]'(by rw [HN.out]; exact hlt), List.getElem?_eq_getElem _⟩
      obtain ⟨h1, h2⟩ := hx.out x (List.mem_of_getElem? hx9)
      have HP := hid (pts_at hx9)
      obtain ⟨g, off, rfl, hg, d0⟩ := (HS.out.below BW.out).at hx9
      clear hx9
      have hk0 : (0 : Int) ≤ (k : Int) := by omega
      have hkn : (k : Int) < (n : Int) := by omega
      obtain ⟨y, hy⟩ : ∃ y, frm (fP b) x.toNat = y := ⟨_, rfl⟩
      have HY := hid hy
      have M := hid (fun W : World => topt_any b x h1 h2 W)
      rw [hy] at M
      clear hy
      have z_F := X_F.lt
      have c_F0 := X_F.cell (i := 0) rfl
      have c_F1 := X_F.cell (i := 1) rfl
      have c_F2 := X_F.cell (i := 2) rfl
      have c_F3 := X_F.cell (i := 3) rfl
      have c_F4 := X_F.cell (i := 4) rfl
      have c_F5 := X_F.cell (i := 5) rfl
      have c_F6 := X_F.cell (i := 6) rfl
      have c_F7 := X_F.cell (i := 7) rfl
      have c_F8 := X_F.cell (i := 8) rfl
      have c_F9 := X_F.cell (i := 9) rfl
      have c_F10 := X_F.cell (i := 10) rfl
      have c_F11 := X_F.cell (i := 11) rfl
      have c_F12 := X_F.cell (i := 12) rfl
      have c_F13 := X_F.cell (i := 13) rfl
      go_wp2_with fail
      refine (M.out _).mono ?_
      rintro e v4 ⟨rfl, b9⟩
      clear z_F c_F0 c_F1 c_F2 c_F3 c_F4 c_F5 c_F6 c_F7 c_F8 c_F9 c_F10 c_F11 c_F12 c_F13
      replace R_o := hid (R_o.out.keep b9)
      replace X_F := X_F.keep b9
      replace BW := hid (BW.out.trans (b9.mono BW.out.size))
      clear b9
      obtain ⟨r0, r1, r2, r3⟩ := R_o.out.cells (i := k) (v := 0) hlt (by simp)
      have zr := R_o.out.lt
      have fr0 := R_o.out.frozen (k * 4)
      have fr1 := R_o.out.frozen (k * 4 + 1)
      have fr2 := R_o.out.frozen (k * 4 + 2)
      have fr3 := R_o.out.frozen (k * 4 + 3)
      have hk0 : (0 : Int) ≤ (k : Int) := by omega
      have hkn : (k : Int) < (n : Int) := by omega
      go_wp2
      obtain ⟨v5, hs9⟩ : ∃ q, ((((v4.setCell ⟨go, k * 4, none⟩ (.int .u64 (limb y 0 : Int))).setCell ⟨go, k * 4 + 1, none⟩ (.int .u64 (limb y 1 : Int))).setCell ⟨go, k * 4 + 2, none⟩ (.int .u64 (limb y 2 : Int))).setCell ⟨go, k * 4 + 3, none⟩ (.int .u64 (limb y 3 : Int))) = q := ⟨_, rfl⟩
      have O9 : Only (fun k => k = go) v4 v5 := by rw [← hs9]; exact only_row _ _ _ _ _ _ _
      have S9 : RowF v5 w.heap.size 29 go n n (fun t => if t < k + 1 then frm (fP b) ((pts xs).getD t 0) else 0) := by rw [← hs9]; exact (R_o.out.store hlt y).congr (put_next (by rw [HP.out]; exact HY.out))
      rw [hs9]
      clear hs9
      clear r0 r1 r2 r3 zr fr0 fr1 fr2 fr3
      replace X_F := X_F.only O9 (show ¬ (bF = go) by omega)
      replace BW := hid (BW.out.trans (O9.below (fun k h => by cases h; exact z0_go) BW.out.size))
      replace R_o := hid S9
      clear O9 S9
      go_roundw
      case rel => exact ⟨k + 1, by omega, by go_num, X_F, R_o.out, BW.out⟩
      case measure => simp [intOf]; omega
    · skip
      obtain rfl : n = k := by omega
      clear hlt
      go_wp2
      refine bodyPost_ret (by simp only [results, Tryd.results92]; go_simp; try rfl) rfl ?_
      exact ⟨go, rfl, R_o.out.congr put_all, BW.out⟩
end Go.Proofs.YtogenbggjodcnaaDoor
/-
  The weights of points.
-/
namespace Go.Proofs.YtogenbggjodcnaaDoor
open Go.RowKit

attribute [local go_sem] Oper.semAt_some
/-- It returns a new slice of the numbers xs, and a number. -/
def RetE (t : TypeId) (xs : List Nat) (c : Int) (w : World) : Ending → World → Prop := fun e w' => ∃ v, e = .returned (.tuple #[v, .int .i64 c]) ∧ w'.ownsRow w.heap.size t 4 v xs.length (nums xs) ∧ Below w.heap.size w w'
/-- The denominator of the point i, up to k. -/
noncomputable def wdn (p : Nat) (xs : List Nat) (i k : Nat) : Nat := den p (xs.getD i 0) (oth (xs.take k) i)
theorem wdn_zero (p : Nat) (xs : List Nat) (i : Nat) : wdn p xs i 0 = 1 := by unfold wdn; rw [oth_zero, den_nil]
theorem wdn_next {p : Nat} {xs : List Nat} {i k : Nat} (hk : k < xs.length) (hne : k ≠ i) : wdn p xs i (k + 1) = mulm p (wdn p xs i k) (subm p (xs.getD i 0) (xs.getD k 0)) := by unfold wdn; rw [oth_next hk hne, den_snoc]
theorem wdn_skip {p : Nat} {xs : List Nat} {i k : Nat} (hk : k < xs.length) (he : k = i) : wdn p xs i (k + 1) = wdn p xs i k := by unfold wdn; rw [oth_skip hk he]
theorem wdn_lt {p : Nat} (hp : 1 < p) (xs : List Nat) (i k : Nat) : wdn p xs i k < p := den_lt hp _ _
/-- All weights. -/
noncomputable def wgs (p : Nat) (xs : List Nat) : List Nat := (List.range xs.length).map (wgt p xs)
noncomputable def dns (p : Nat) (xs : List Nat) : List Nat := (List.range xs.length).map fun i => wdn p xs i xs.length
theorem wgs_len (p : Nat) (xs : List Nat) : (wgs p xs).length = xs.length := by simp [wgs]
theorem dns_len (p : Nat) (xs : List Nat) : (dns p xs).length = xs.length := by simp [dns]
theorem wgs_at {p : Nat} {xs : List Nat} {i : Nat} (h : i < xs.length) : (wgs p xs)[i]? = some (wgt p xs i) := by unfold wgs; rw [List.getElem?_map, List.getElem?_range h]; rfl
theorem dns_at {p : Nat} {xs : List Nat} {i : Nat} (h : i < xs.length) : (dns p xs)[i]? = some (wdn p xs i xs.length) := by unfold dns; rw [List.getElem?_map, List.getElem?_range h]; rfl
theorem dns_inv (p : Nat) (xs : List Nat) : (dns p xs).map (invm p) = wgs p xs := by
  unfold dns wgs
  rw [List.map_map]
  refine List.map_congr_left fun i _ => ?_
  show invm p (wdn p xs i xs.length) = wgt p xs i
  unfold wdn wgt
  rw [oth_all (Nat.le_refl _)]
theorem dns_lt {p : Nat} (hp : 1 < p) (xs : List Nat) : ∀ y ∈ dns p xs, y < p := fun y hy => by
  obtain ⟨i, _, rfl⟩ := List.mem_map.1 hy
  exact wdn_lt hp _ _ _
theorem wgs_lt {p : Nat} (hp : 1 < p) (xs : List Nat) : ∀ y ∈ wgs p xs, y < p := fun y hy => by
  obtain ⟨i, _, rfl⟩ := List.mem_map.1 hy
  exact invm_lt _ (by omega)
theorem map_at {l : List Nat} {i y : Nat} (f : Nat → Nat) (h : l[i]? = some y) : (l.map f).getD i 0 = f y := by
  rw [List.getD_eq_getElem?_getD, List.getElem?_map, h]; rfl
theorem put_skip {g : Nat → Nat} {i a c n : Nat} (h : c = a) : ∀ t, t < n → (fun u => if u = i then c else g u) t = (fun u => if u = i then a else g u) t := fun t _ => by subst h; rfl
set_option maxRecDepth 100000 in
set_option maxHeartbeats 2000000 in
theorem weights_bad (b : Bool) (v : Value) (xs : List Int) (w : World) (hS : IntSl w v xs) (hl : xs.length < 1000000) (hc : chkx xs ≠ 0) :
    Calls Tryd.prog 91 #[.pointer none, FV b, v] w (Ret (.tuple #[.slice none 0 0, .int .i64 (chkx xs)]) w) := by
  have BW := hid (Below.refl w.heap.size w)
  have HS := hid hS
  have CK := hid (fun (W : World) (h : IntSl W v xs) => lcheck_any v xs W h hl)
  obtain ⟨c, hc9⟩ : ∃ c, chkx xs = c := ⟨_, rfl⟩
  rw [hc9] at hc CK ⊢
  clear hc9
  have hd : (c != 0) = true := by simp [hc]
  go_enter Tryd.func91, Tryd.ntmps91
  go_wp2_with fail
  obtain ⟨v1, hv9⟩ : ∃ v, (w.alloc (.cells #[.int .i64 (fID b), .int .u64 (limb (fP b) 0 : Int), .int .u64 (limb (fP b) 1 : Int), .int .u64 (limb (fP b) 2 : Int), .int .u64 (limb (fP b) 3 : Int), .int .u64 (fI b : Int), .int .u64 (limb (fO b) 0 : Int), .int .u64 (limb (fO b) 1 : Int), .int .u64 (limb (fO b) 2 : Int), .int .u64 (limb (fO b) 3 : Int), .int .u64 (limb (fS b) 0 : Int), .int .u64 (limb (fS b) 1 : Int), .int .u64 (limb (fS b) 2 : Int), .int .u64 (limb (fS b) 3 : Int)] 31)) = v := ⟨_, rfl⟩
  have hG9 : Below w.heap.size w v1 := by rw [← hv9]; go_grown
  have X_F : Blk v1 (w.heap.size) 31 [.int .i64 (fID b), .int .u64 (limb (fP b) 0 : Int), .int .u64 (limb (fP b) 1 : Int), .int .u64 (limb (fP b) 2 : Int), .int .u64 (limb (fP b) 3 : Int), .int .u64 (fI b : Int), .int .u64 (limb (fO b) 0 : Int), .int .u64 (limb (fO b) 1 : Int), .int .u64 (limb (fO b) 2 : Int), .int .u64 (limb (fO b) 3 : Int), .int .u64 (limb (fS b) 0 : Int), .int .u64 (limb (fS b) 1 : Int), .int .u64 (limb (fS b) 2 : Int), .int .u64 (limb (fS b) 3 : Int)] := by rw [← hv9]; exact Blk.new rfl
  obtain ⟨bF, hb9⟩ : ∃ k, w.heap.size = k := ⟨_, rfl⟩
  rw [hb9] at X_F
  have g_bF : w.heap.size ≤ bF := by rw [← hb9]; exact BW.out.size
  replace BW := hid (BW.out.trans (hG9.mono BW.out.size))
  clear hG9
  rw [hv9]
  try rw [hb9]
  clear hv9 hb9
  refine (CK.out _ (HS.out.below BW.out)).mono ?_
  rintro e v2 ⟨rfl, b9⟩
  replace X_F := X_F.keep b9
  replace BW := hid (BW.out.trans (b9.mono BW.out.size))
  clear b9
  go_wp2
  refine bodyPost_ret (by simp only [results, Tryd.results91]; go_simp; try rfl) rfl ?_
  exact ⟨rfl, BW.out⟩
set_option maxRecDepth 100000 in
set_option maxHeartbeats 2000000 in
theorem weights_ok (b : Bool) (v : Value) (xs : List Int) (w : World) (hS : IntSl w v xs) (hl : xs.length < 1000000) (hc : chkx xs = 0) :
    Calls Tryd.prog 91 #[.pointer none, FV b, v] w (RetE 29 ((wgs (fP b) (pts xs)).map (frm (fP b))) 0 w) := by
  have BW := hid (Below.refl w.heap.size w)
  have HS := hid hS
  have CK := hid (fun (W : World) (h : IntSl W v xs) => lcheck_any v xs W h hl)
  rw [hc] at CK
  obtain ⟨hall, hnd⟩ := chkx_zero hc
  have PT := hid (fun (W : World) (h : IntSl W v xs) => points_any b v xs W h (hid hall) hl)
  have hlen := pts_len xs
  obtain ⟨ns, hns⟩ : ∃ ns, pts xs = ns := ⟨_, rfl⟩
  have hlt := pts_lt hall (show 255 < fP b by cases b <;> decide)
  rw [hns] at hlen PT hlt ⊢
  obtain ⟨n, hn⟩ : ∃ n, xs.length = n := ⟨_, rfl⟩
  rw [hn] at hlen hl PT
  clear hns hn hnd hall hc
  have HL := hid hlen
  have HLT := hid hlt
  clear hlen hlt
  unfold RetE
  rw [List.length_map, wgs_len, HL.out]
  go_enter Tryd.func91, Tryd.ntmps91
  go_wp2_with fail
  obtain ⟨v1, hv9⟩ : ∃ v, (w.alloc (.cells #[.int .i64 (fID b), .int .u64 (limb (fP b) 0 : Int), .int .u64 (limb (fP b) 1 : Int), .int .u64 (limb (fP b) 2 : Int), .int .u64 (limb (fP b) 3 : Int), .int .u64 (fI b : Int), .int .u64 (limb (fO b) 0 : Int), .int .u64 (limb (fO b) 1 : Int), .int .u64 (limb (fO b) 2 : Int), .int .u64 (limb (fO b) 3 : Int), .int .u64 (limb (fS b) 0 : Int), .int .u64 (limb (fS b) 1 : Int), .int .u64 (limb (fS b) 2 : Int), .int .u64 (limb (fS b) 3 : Int)] 31)) = v := ⟨_, rfl⟩
  have hG9 : Below w.heap.size w v1 := by rw [← hv9]; go_grown
  have X_F : Blk v1 (w.heap.size) 31 [.int .i64 (fID b), .int .u64 (limb (fP b) 0 : Int), .int .u64 (limb (fP b) 1 : Int), .int .u64 (limb (fP b) 2 : Int), .int .u64 (limb (fP b) 3 : Int), .int .u64 (fI b : Int), .int .u64 (limb (fO b) 0 : Int), .int .u64 (limb (fO b) 1 : Int), .int .u64 (limb (fO b) 2 : Int), .int .u64 (limb (fO b) 3 : Int), .int .u64 (limb (fS b) 0 : Int), .int .u64 (limb (fS b) 1 : Int), .int .u64 (limb (fS b) 2 : Int), .int .u64 (limb (fS b) 3 : Int)] := by rw [← hv9]; exact Blk.new rfl
  obtain ⟨bF, hb9⟩ : ∃ k, w.heap.size = k := ⟨_, rfl⟩
  rw [hb9] at X_F
  have g_bF : w.heap.size ≤ bF := by rw [← hb9]; exact BW.out.size
  replace BW := hid (BW.out.trans (hG9.mono BW.out.size))
  clear hG9
  rw [hv9]
  try rw [hb9]
  clear hv9 hb9
  refine (CK.out _ (HS.out.below BW.out)).mono ?_
  rintro e v2 ⟨rfl, b9⟩
  replace X_F := X_F.keep b9
  replace BW := hid (BW.out.trans (b9.mono BW.out.size))
  clear b9
  have z_F := X_F.lt
  have c_F0 := X_F.cell (i := 0) rfl
  have c_F1 := X_F.cell (i := 1) rfl
  have c_F2 := X_F.cell (i := 2) rfl
  have c_F3 := X_F.cell (i := 3) rfl
  have c_F4 := X_F.cell (i := 4) rfl
  have c_F5 := X_F.cell (i := 5) rfl
  have c_F6 := X_F.cell (i := 6) rfl
  have c_F7 := X_F.cell (i := 7) rfl
  have c_F8 := X_F.cell (i := 8) rfl
  have c_F9 := X_F.cell (i := 9) rfl
  have c_F10 := X_F.cell (i := 10) rfl
  have c_F11 := X_F.cell (i := 11) rfl
  have c_F12 := X_F.cell (i := 12) rfl
  have c_F13 := X_F.cell (i := 13) rfl
  go_wp2_with fail
  refine (PT.out _ (HS.out.below BW.out)).mono ?_
  rintro e v3 ⟨gx, rfl, hR9, b9⟩
  have lt9 := hR9.ge
  have q_F_gx : bF < gx := Nat.lt_of_lt_of_le X_F.lt lt9
  have z0_gx : w.heap.size ≤ gx := Nat.le_trans BW.out.size lt9
  have R_x := hid (hR9.mono BW.out.size)
  clear hR9 lt9
  clear z_F c_F0 c_F1 c_F2 c_F3 c_F4 c_F5 c_F6 c_F7 c_F8 c_F9 c_F10 c_F11 c_F12 c_F13
  replace X_F := X_F.keep b9
  replace BW := hid (BW.out.trans (b9.mono BW.out.size))
  clear b9
  obtain ⟨wq_d, hmk_d, hR_d, hgq_d⟩ := run_made v3 n hl
  go_wp2
  have b9 : Below v3.heap.size v3 wq_d := Below.grown (Below.refl _ _) hgq_d (Nat.le_refl _) (fun j hj => by cases hj)
  obtain ⟨gd, hg9⟩ : ∃ q, v3.heap.size = q := ⟨_, rfl⟩
  have lt9 : v3.heap.size ≤ gd := by omega
  have q_F_gd : bF < gd := Nat.lt_of_lt_of_le X_F.lt lt9
  have q_x_gd : gx < gd := Nat.lt_of_lt_of_le R_x.out.lt lt9
  have z0_gd : w.heap.size ≤ gd := Nat.le_trans BW.out.size lt9
  have R_d := hid (hR_d.mono BW.out.size)
  rw [hg9] at R_d
  try rw [hg9]
  clear hR_d hgq_d hmk_d hg9 lt9
  replace R_x := hid (R_x.out.keep b9)
  replace X_F := X_F.keep b9
  replace BW := hid (BW.out.trans (b9.mono BW.out.size))
  clear b9
  go_loopw [26] (fun ix wr => ∃ i : Nat, i ≤ n ∧ ix = .int .i64 (i : Int) ∧ Blk wr (bF) 31 [.int .i64 (fID b), .int .u64 (limb (fP b) 0 : Int), .int .u64 (limb (fP b) 1 : Int), .int .u64 (limb (fP b) 2 : Int), .int .u64 (limb (fP b) 3 : Int), .int .u64 (fI b : Int), .int .u64 (limb (fO b) 0 : Int), .int .u64 (limb (fO b) 1 : Int), .int .u64 (limb (fO b) 2 : Int), .int .u64 (limb (fO b) 3 : Int), .int .u64 (limb (fS b) 0 : Int), .int .u64 (limb (fS b) 1 : Int), .int .u64 (limb (fS b) 2 : Int), .int .u64 (limb (fS b) 3 : Int)] ∧ RowF wr w.heap.size 29 gx n n (fun t => frm (fP b) (ns.getD t 0)) ∧ RowF wr w.heap.size 29 gd n n (fun t => if t < i then frm (fP b) (wdn (fP b) ns t n) else 0) ∧ Below w.heap.size w wr) (fun ix _ => n - (intOf ix).toNat)
  case atStart => exact ⟨0, Nat.zero_le _, rfl, X_F, R_x.out, (R_d.out.congr put_none), BW.out⟩
  case round =>
    clear X_F R_x R_d BW
    obtain ⟨i, hk_i, rfl, X_F, r9_x, r9_d, b9⟩ := hrel
    obtain ⟨v5, hv9⟩ : ∃ v, v = wr := ⟨_, rfl⟩
    subst hv9
    have R_x := hid r9_x
    clear r9_x
    have R_d := hid r9_d
    clear r9_d
    have BW := hid b9
    clear b9
    by_cases hi : i < n
    · skip
      have hi0 : (0 : Int) ≤ (i : Int) := by omega
      have hin : (i : Int) < (n : Int) := by omega
      have z_F := X_F.lt
      have c_F0 := X_F.cell (i := 0) rfl
      have c_F1 := X_F.cell (i := 1) rfl
      have c_F2 := X_F.cell (i := 2) rfl
      have c_F3 := X_F.cell (i := 3) rfl
      have c_F4 := X_F.cell (i := 4) rfl
      have c_F5 := X_F.cell (i := 5) rfl
      have c_F6 := X_F.cell (i := 6) rfl
      have c_F7 := X_F.cell (i := 7) rfl
      have c_F8 := X_F.cell (i := 8) rfl
      have c_F9 := X_F.cell (i := 9) rfl
      have c_F10 := X_F.cell (i := 10) rfl
      have c_F11 := X_F.cell (i := 11) rfl
      have c_F12 := X_F.cell (i := 12) rfl
      have c_F13 := X_F.cell (i := 13) rfl
      obtain ⟨r0, r1, r2, r3⟩ := R_d.out.cells (i := i) (v := 0) hi (by simp)
      have zr := R_d.out.lt
      have fr0 := R_d.out.frozen (i * 4)
      have fr1 := R_d.out.frozen (i * 4 + 1)
      have fr2 := R_d.out.frozen (i * 4 + 2)
      have fr3 := R_d.out.frozen (i * 4 + 3)
      go_wp2
      obtain ⟨v6, hs9⟩ : ∃ q, ((((v5.setCell ⟨gd, i * 4, none⟩ (.int .u64 (limb (fO b) 0 : Int))).setCell ⟨gd, i * 4 + 1, none⟩ (.int .u64 (limb (fO b) 1 : Int))).setCell ⟨gd, i * 4 + 2, none⟩ (.int .u64 (limb (fO b) 2 : Int))).setCell ⟨gd, i * 4 + 3, none⟩ (.int .u64 (limb (fO b) 3 : Int))) = q := ⟨_, rfl⟩
      have O9 : Only (fun k => k = gd) v5 v6 := by rw [← hs9]; exact only_row _ _ _ _ _ _ _
      have S9 : RowF v6 w.heap.size 29 gd n n (fun t => if t = i then fO b else (if t < i then frm (fP b) (wdn (fP b) ns t n) else 0)) := by rw [← hs9]; exact (R_d.out.store hi (fO b)).congr (fun _ _ => rfl)
      rw [hs9]
      clear hs9
      clear z_F c_F0 c_F1 c_F2 c_F3 c_F4 c_F5 c_F6 c_F7 c_F8 c_F9 c_F10 c_F11 c_F12 c_F13 r0 r1 r2 r3 zr fr0 fr1 fr2 fr3
      replace X_F := X_F.only O9 (show ¬ (bF = gd) by omega)
      replace R_x := hid (R_x.out.other O9 (show ¬ (gx = gd) by omega))
      replace BW := hid (BW.out.trans (O9.below (fun k h => by cases h; exact z0_gd) BW.out.size))
      replace R_d := hid S9
      clear O9 S9
      go_loopw [36] (fun ix wr => ∃ k : Nat, k ≤ n ∧ ix = .int .i64 (k : Int) ∧ Blk wr (bF) 31 [.int .i64 (fID b), .int .u64 (limb (fP b) 0 : Int), .int .u64 (limb (fP b) 1 : Int), .int .u64 (limb (fP b) 2 : Int), .int .u64 (limb (fP b) 3 : Int), .int .u64 (fI b : Int), .int .u64 (limb (fO b) 0 : Int), .int .u64 (limb (fO b) 1 : Int), .int .u64 (limb (fO b) 2 : Int), .int .u64 (limb (fO b) 3 : Int), .int .u64 (limb (fS b) 0 : Int), .int .u64 (limb (fS b) 1 : Int), .int .u64 (limb (fS b) 2 : Int), .int .u64 (limb (fS b) 3 : Int)] ∧ RowF wr w.heap.size 29 gx n n (fun t => frm (fP b) (ns.getD t 0)) ∧ RowF wr w.heap.size 29 gd n n (fun t => if t = i then frm (fP b) (wdn (fP b) ns i k) else (if t < i then frm (fP b) (wdn (fP b) ns t n) else 0)) ∧ Below w.heap.size w wr) (fun ix _ => n - (intOf ix).toNat)
      case atStart => exact ⟨0, Nat.zero_le _, rfl, X_F, R_x.out, (R_d.out.congr (put_skip (by rw [wdn_zero, fO_eq]))), BW.out⟩
      case round =>
        clear X_F R_x R_d BW
        obtain ⟨k, hk_k, rfl, X_F, r9_x, r9_d, b9⟩ := hrel
        obtain ⟨v7, hv9⟩ : ∃ v, v = wr := ⟨_, rfl⟩
        subst hv9
        have R_x := hid r9_x
        clear r9_x
        have R_d := hid r9_d
        clear r9_d
        have BW := hid b9
        clear b9
        by_cases hk : k < n
        · skip
          have hk0 : (0 : Int) ≤ (k : Int) := by omega
          have hkn : (k : Int) < (n : Int) := by omega
          by_cases e : k = i
          · skip
            have hd : ((k : Int) != (i : Int)) = false := by simp [e]
            have ES := hid (wdn_skip (p := fP b) (xs := ns) (by rw [HL.out]; exact hk) e)
            clear e
            go_wp2
            go_roundw
            case rel => exact ⟨k + 1, by omega, by go_num, X_F, R_x.out, R_d.out.congr (put_skip (by rw [ES.out])), BW.out⟩
            case measure => simp [intOf]; omega
          · skip
            have hd : ((k : Int) != (i : Int)) = true := by simp; omega
            have EN := hid (wdn_next (p := fP b) (xs := ns) (by rw [HL.out]; exact hk) e)
            clear e
            have hp2 := fP_two b
            have HXI := hid (HLT.out _ (getD_mem (show i < ns.length by rw [HL.out]; exact hi)))
            have HXK := hid (HLT.out _ (getD_mem (show k < ns.length by rw [HL.out]; exact hk)))
            have HQI := hid (rfl : frm (fP b) (ns.getD i 0) = frm (fP b) (ns.getD i 0))
            have ESB := hid (frm_subm (show 0 < fP b by omega) (ns.getD i 0) (Nat.le_of_lt HXK.out))
            have EMU := hid (frm_mulm (fOK b).2.2.2.1 (wdn (fP b) ns i k) (subm (fP b) (ns.getD i 0) (ns.getD k 0)))
            have M1 := hid (fun W : World => msub_any b (frm (fP b) (ns.getD i 0)) (frm (fP b) (ns.getD k 0)) (frm_lt _ (by omega)) (frm_lt _ (by omega)) W)
            rw [ESB.out] at M1
            have M2 := hid (fun W : World => mmul_any (fID b) (fP b) (fI b) (fO b) (fS b) (frm (fP b) (wdn (fP b) ns i k)) (frm (fP b) (subm (fP b) (ns.getD i 0) (ns.getD k 0))) (fOK b) (Nat.lt_trans (frm_lt _ (by omega)) (fP_lt b)) (Nat.lt_trans (frm_lt _ (by omega)) (fP_lt b)) (Nat.mul_lt_mul_of_lt_of_lt (Nat.lt_trans (frm_lt _ (by omega)) (fP_lt b)) (frm_lt _ (by omega))) W)
            rw [EMU.out, ← EN.out] at M2
            obtain ⟨xi, hxi⟩ : ∃ z, frm (fP b) (ns.getD i 0) = z := ⟨_, rfl⟩
            obtain ⟨xk, hxk⟩ : ∃ z, frm (fP b) (ns.getD k 0) = z := ⟨_, rfl⟩
            obtain ⟨dk, hdk⟩ : ∃ z, frm (fP b) (wdn (fP b) ns i k) = z := ⟨_, rfl⟩
            obtain ⟨df, hdf⟩ : ∃ z, frm (fP b) (subm (fP b) (ns.getD i 0) (ns.getD k 0)) = z := ⟨_, rfl⟩
            obtain ⟨dn, hdn⟩ : ∃ z, frm (fP b) (wdn (fP b) ns i (k + 1)) = z := ⟨_, rfl⟩
            rw [hxi, hxk, hdf] at M1
            rw [hdk, hdf, hdn] at M2
            have HXi := hid hxi
            have HXk := hid hxk
            have HDk := hid hdk
            have HDn := hid hdn
            clear hxi hxk hdk hdf hdn
            have z_F := X_F.lt
            have c_F0 := X_F.cell (i := 0) rfl
            have c_F1 := X_F.cell (i := 1) rfl
            have c_F2 := X_F.cell (i := 2) rfl
            have c_F3 := X_F.cell (i := 3) rfl
            have c_F4 := X_F.cell (i := 4) rfl
            have c_F5 := X_F.cell (i := 5) rfl
            have c_F6 := X_F.cell (i := 6) rfl
            have c_F7 := X_F.cell (i := 7) rfl
            have c_F8 := X_F.cell (i := 8) rfl
            have c_F9 := X_F.cell (i := 9) rfl
            have c_F10 := X_F.cell (i := 10) rfl
            have c_F11 := X_F.cell (i := 11) rfl
            have c_F12 := X_F.cell (i := 12) rfl
            have c_F13 := X_F.cell (i := 13) rfl
            obtain ⟨d0, d1, d2, d3⟩ := R_d.out.cells (i := i) (v := dk) hi (by simp only [if_true]; exact HDk.out)
            have zd := R_d.out.lt
            have fd0 := R_d.out.frozen (i * 4)
            have fd1 := R_d.out.frozen (i * 4 + 1)
            have fd2 := R_d.out.frozen (i * 4 + 2)
            have fd3 := R_d.out.frozen (i * 4 + 3)
            obtain ⟨p0, p1, p2, p3⟩ := R_x.out.cells (i := i) (v := xi) hi HXi.out
            have zp := R_x.out.lt
            obtain ⟨q0, q1, q2, q3⟩ := R_x.out.cells (i := k) (v := xk) hk HXk.out
            have zq := R_x.out.lt
            go_wp2_with (go_at_call 64; refine (note_nil _ _ _ _).mono ?_; rintro e w' ⟨rfl, rfl⟩)
            refine wp_region_soft (C := fun W' => Below v7.heap.size v7 W') 19 (by kernel_rfl) (by kernel_rfl) ((Below.refl _ _).drew) ?_
            simp only [List.take_succ_cons, List.take_zero, List.drop_succ_cons, List.drop_zero]
            refine wpQuiet_step (fun K hK => ?_)
            rw [if_pos (by rfl)]
            refine ⟨.slice (some ⟨gd, 0, none⟩) n n, fun W' hW => ?_, hK _ ?_⟩
            · go_simp
            clear hK K
            simp only [Act.put, List.setIfInBounds_toArray, List.set_cons_zero, List.set_cons_succ]
            refine wpQuiet_step (fun K hK => ?_)
            rw [if_pos (by rfl)]
            refine ⟨.int .i64 (i : Int), fun W' hW => ?_, hK _ ?_⟩
            · go_simp
            clear hK K
            simp only [Act.put, List.setIfInBounds_toArray, List.set_cons_zero, List.set_cons_succ]
            refine wpQuiet_step (fun K hK => ?_)
            rw [if_pos (by rfl)]
            refine ⟨FV b, fun W' hW => ?_, hK _ ?_⟩
            · have e_0 := (hW.cell (p := ⟨bF, 0, none⟩) z_F).trans c_F0
              have e_1 := (hW.cell (p := ⟨bF, 1, none⟩) z_F).trans c_F1
              have e_2 := (hW.cell (p := ⟨bF, 2, none⟩) z_F).trans c_F2
              have e_3 := (hW.cell (p := ⟨bF, 3, none⟩) z_F).trans c_F3
              have e_4 := (hW.cell (p := ⟨bF, 4, none⟩) z_F).trans c_F4
              have e_5 := (hW.cell (p := ⟨bF, 5, none⟩) z_F).trans c_F5
              have e_6 := (hW.cell (p := ⟨bF, 6, none⟩) z_F).trans c_F6
              have e_7 := (hW.cell (p := ⟨bF, 7, none⟩) z_F).trans c_F7
              have e_8 := (hW.cell (p := ⟨bF, 8, none⟩) z_F).trans c_F8
              have e_9 := (hW.cell (p := ⟨bF, 9, none⟩) z_F).trans c_F9
              have e_10 := (hW.cell (p := ⟨bF, 10, none⟩) z_F).trans c_F10
              have e_11 := (hW.cell (p := ⟨bF, 11, none⟩) z_F).trans c_F11
              have e_12 := (hW.cell (p := ⟨bF, 12, none⟩) z_F).trans c_F12
              have e_13 := (hW.cell (p := ⟨bF, 13, none⟩) z_F).trans c_F13
              go_simp
            clear hK K
            simp only [Act.put, List.setIfInBounds_toArray, List.set_cons_zero, List.set_cons_succ]
            refine wpQuiet_step (fun K hK => ?_)
            rw [if_pos (by rfl)]
            refine ⟨.slice (some ⟨gd, 0, none⟩) n n, fun W' hW => ?_, hK _ ?_⟩
            · go_simp
            clear hK K
            simp only [Act.put, List.setIfInBounds_toArray, List.set_cons_zero, List.set_cons_succ]
            refine wpQuiet_step (fun K hK => ?_)
            rw [if_pos (by rfl)]
            refine ⟨.int .i64 (i : Int), fun W' hW => ?_, hK _ ?_⟩
            · go_simp
            clear hK K
            simp only [Act.put, List.setIfInBounds_toArray, List.set_cons_zero, List.set_cons_succ]
            refine wpQuiet_step (fun K hK => ?_)
            rw [if_pos (by rfl)]
            refine ⟨.pointer (some ⟨gd, i * 4, none⟩), fun W' hW => ?_, hK _ ?_⟩
            · go_simp
            clear hK K
            simp only [Act.put, List.setIfInBounds_toArray, List.set_cons_zero, List.set_cons_succ]
            refine wpQuiet_step (fun K hK => ?_)
            rw [if_pos (by rfl)]
            refine ⟨vec dk, fun W' hW => ?_, hK _ ?_⟩
            · have e_0 := (hW.cell (p := ⟨gd, i * 4, none⟩) zd).trans d0
              have e_1 := (hW.cell (p := ⟨gd, i * 4 + 1, none⟩) zd).trans d1
              have e_2 := (hW.cell (p := ⟨gd, i * 4 + 2, none⟩) zd).trans d2
              have e_3 := (hW.cell (p := ⟨gd, i * 4 + 3, none⟩) zd).trans d3
              go_simp
            clear hK K
            simp only [Act.put, List.setIfInBounds_toArray, List.set_cons_zero, List.set_cons_succ]
            refine wpQuiet_step (fun K hK => ?_)
            rw [if_pos (by rfl)]
            refine ⟨FV b, fun W' hW => ?_, hK _ ?_⟩
            · have e_0 := (hW.cell (p := ⟨bF, 0, none⟩) z_F).trans c_F0
              have e_1 := (hW.cell (p := ⟨bF, 1, none⟩) z_F).trans c_F1
              have e_2 := (hW.cell (p := ⟨bF, 2, none⟩) z_F).trans c_F2
              have e_3 := (hW.cell (p := ⟨bF, 3, none⟩) z_F).trans c_F3
              have e_4 := (hW.cell (p := ⟨bF, 4, none⟩) z_F).trans c_F4
              have e_5 := (hW.cell (p := ⟨bF, 5, none⟩) z_F).trans c_F5
              have e_6 := (hW.cell (p := ⟨bF, 6, none⟩) z_F).trans c_F6
              have e_7 := (hW.cell (p := ⟨bF, 7, none⟩) z_F).trans c_F7
              have e_8 := (hW.cell (p := ⟨bF, 8, none⟩) z_F).trans c_F8
              have e_9 := (hW.cell (p := ⟨bF, 9, none⟩) z_F).trans c_F9
              have e_10 := (hW.cell (p := ⟨bF, 10, none⟩) z_F).trans c_F10
              have e_11 := (hW.cell (p := ⟨bF, 11, none⟩) z_F).trans c_F11
              have e_12 := (hW.cell (p := ⟨bF, 12, none⟩) z_F).trans c_F12
              have e_13 := (hW.cell (p := ⟨bF, 13, none⟩) z_F).trans c_F13
              go_simp
            clear hK K
            simp only [Act.put, List.setIfInBounds_toArray, List.set_cons_zero, List.set_cons_succ]
            refine wpQuiet_step (fun K hK => ?_)
            rw [if_pos (by rfl)]
            refine ⟨.slice (some ⟨gx, 0, none⟩) n n, fun W' hW => ?_, hK _ ?_⟩
            · go_simp
            clear hK K
            simp only [Act.put, List.setIfInBounds_toArray, List.set_cons_zero, List.set_cons_succ]
            refine wpQuiet_step (fun K hK => ?_)
            rw [if_pos (by rfl)]
            refine ⟨.int .i64 (i : Int), fun W' hW => ?_, hK _ ?_⟩
            · go_simp
            clear hK K
            simp only [Act.put, List.setIfInBounds_toArray, List.set_cons_zero, List.set_cons_succ]
            refine wpQuiet_step (fun K hK => ?_)
            rw [if_pos (by rfl)]
            refine ⟨.pointer (some ⟨gx, i * 4, none⟩), fun W' hW => ?_, hK _ ?_⟩
            · go_simp
            clear hK K
            simp only [Act.put, List.setIfInBounds_toArray, List.set_cons_zero, List.set_cons_succ]
            refine wpQuiet_step (fun K hK => ?_)
            rw [if_pos (by rfl)]
            refine ⟨vec xi, fun W' hW => ?_, hK _ ?_⟩
            · have e_0 := (hW.cell (p := ⟨gx, i * 4, none⟩) zp).trans p0
              have e_1 := (hW.cell (p := ⟨gx, i * 4 + 1, none⟩) zp).trans p1
              have e_2 := (hW.cell (p := ⟨gx, i * 4 + 2, none⟩) zp).trans p2
              have e_3 := (hW.cell (p := ⟨gx, i * 4 + 3, none⟩) zp).trans p3
              go_simp
            clear hK K
            simp only [Act.put, List.setIfInBounds_toArray, List.set_cons_zero, List.set_cons_succ]
            refine wpQuiet_step (fun K hK => ?_)
            rw [if_pos (by rfl)]
            refine ⟨.slice (some ⟨gx, 0, none⟩) n n, fun W' hW => ?_, hK _ ?_⟩
            · go_simp
            clear hK K
            simp only [Act.put, List.setIfInBounds_toArray, List.set_cons_zero, List.set_cons_succ]
            refine wpQuiet_step (fun K hK => ?_)
            rw [if_pos (by rfl)]
            refine ⟨.int .i64 (k : Int), fun W' hW => ?_, hK _ ?_⟩
            · go_simp
            clear hK K
            simp only [Act.put, List.setIfInBounds_toArray, List.set_cons_zero, List.set_cons_succ]
            refine wpQuiet_step (fun K hK => ?_)
            rw [if_pos (by rfl)]
            refine ⟨.pointer (some ⟨gx, k * 4, none⟩), fun W' hW => ?_, hK _ ?_⟩
            · go_simp
            clear hK K
            simp only [Act.put, List.setIfInBounds_toArray, List.set_cons_zero, List.set_cons_succ]
            refine wpQuiet_step (fun K hK => ?_)
            rw [if_pos (by rfl)]
            refine ⟨vec xk, fun W' hW => ?_, hK _ ?_⟩
            · have e_0 := (hW.cell (p := ⟨gx, k * 4, none⟩) zq).trans q0
              have e_1 := (hW.cell (p := ⟨gx, k * 4 + 1, none⟩) zq).trans q1
              have e_2 := (hW.cell (p := ⟨gx, k * 4 + 2, none⟩) zq).trans q2
              have e_3 := (hW.cell (p := ⟨gx, k * 4 + 3, none⟩) zq).trans q3
              go_simp
            clear hK K
            simp only [Act.put, List.setIfInBounds_toArray, List.set_cons_zero, List.set_cons_succ]
            refine wpQuiet_step (fun K hK => ?_)
            rw [if_pos (by rfl)]
            refine ⟨vec df, fun W' hW => ?_, hK _ ?_⟩
            · go_simp
              refine (M1.out _).mono ?_
              rintro e w' ⟨rfl, b⟩
              exact ⟨rfl, hW.trans (b.mono hW.size)⟩
            clear hK K
            simp only [Act.put, List.setIfInBounds_toArray, List.set_cons_zero, List.set_cons_succ]
            refine wpQuiet_step (fun K hK => ?_)
            rw [if_pos (by rfl)]
            refine ⟨vec dn, fun W' hW => ?_, hK _ ?_⟩
            · go_simp
              refine (M2.out _).mono ?_
              rintro e w' ⟨rfl, b⟩
              exact ⟨rfl, hW.trans (b.mono hW.size)⟩
            clear hK K
            simp only [Act.put, List.setIfInBounds_toArray, List.set_cons_zero, List.set_cons_succ]
            refine wpQuiet_step (fun K hK => ?_)
            rw [if_pos (by rfl)]
            refine ⟨.pointer (some ⟨gd, i * 4, none⟩), fun W' hW => ?_, hK _ ?_⟩
            · go_simp
            clear hK K
            simp only [Act.put, List.setIfInBounds_toArray, List.set_cons_zero, List.set_cons_succ]
            refine wpQuiet_nil ?_
            intro ws0 hW9
            clear z_F c_F0 c_F1 c_F2 c_F3 c_F4 c_F5 c_F6 c_F7 c_F8 c_F9 c_F10 c_F11 c_F12 c_F13 d0 d1 d2 d3 zd fd0 fd1 fd2 fd3 p0 p1 p2 p3 zp q0 q1 q2 q3 zq
            replace R_x := hid (R_x.out.keep hW9)
            replace R_d := hid (R_d.out.keep hW9)
            replace X_F := X_F.keep hW9
            replace BW := hid (BW.out.trans (hW9.mono BW.out.size))
            clear hW9
            obtain ⟨d0, d1, d2, d3⟩ := R_d.out.cells (i := i) (v := dk) hi (by simp only [if_true]; exact HDk.out)
            have zd := R_d.out.lt
            have fd0 := R_d.out.frozen (i * 4)
            have fd1 := R_d.out.frozen (i * 4 + 1)
            have fd2 := R_d.out.frozen (i * 4 + 2)
            have fd3 := R_d.out.frozen (i * 4 + 3)
            go_wp2
            obtain ⟨v8, hs9⟩ : ∃ q, ((((ws0.setCell ⟨gd, i * 4, none⟩ (.int .u64 (limb dn 0 : Int))).setCell ⟨gd, i * 4 + 1, none⟩ (.int .u64 (limb dn 1 : Int))).setCell ⟨gd, i * 4 + 2, none⟩ (.int .u64 (limb dn 2 : Int))).setCell ⟨gd, i * 4 + 3, none⟩ (.int .u64 (limb dn 3 : Int))) = q := ⟨_, rfl⟩
            have O9 : Only (fun k => k = gd) ws0 v8 := by rw [← hs9]; exact only_row _ _ _ _ _ _ _
            have S9 : RowF v8 w.heap.size 29 gd n n (fun t => if t = i then frm (fP b) (wdn (fP b) ns i (k + 1)) else (if t < i then frm (fP b) (wdn (fP b) ns t n) else 0)) := by rw [← hs9]; exact (R_d.out.store hi dn).congr (fun u _ => by rw [← HDn.out]; by_cases h : u = i <;> simp [h])
            rw [hs9]
            clear hs9
            clear d0 d1 d2 d3 zd fd0 fd1 fd2 fd3
            replace X_F := X_F.only O9 (show ¬ (bF = gd) by omega)
            replace R_x := hid (R_x.out.other O9 (show ¬ (gx = gd) by omega))
            replace BW := hid (BW.out.trans (O9.below (fun k h => by cases h; exact z0_gd) BW.out.size))
            replace R_d := hid S9
            clear O9 S9
            go_roundw
            case rel => exact ⟨k + 1, by omega, by go_num, X_F, R_x.out, R_d.out, BW.out⟩
            case measure => simp [intOf]; omega
        · skip
          obtain rfl : n = k := by omega
          clear hk
          go_wp2
          go_roundw
          case rel => exact ⟨i + 1, by omega, by go_num, X_F, R_x.out, R_d.out.congr (put_next (f := fun t => frm (fP b) (wdn (fP b) ns t n)) rfl), BW.out⟩
          case measure => simp [intOf]; omega
    · skip
      obtain rfl : n = i := by omega
      clear hi
      have z_F := X_F.lt
      have c_F0 := X_F.cell (i := 0) rfl
      have c_F1 := X_F.cell (i := 1) rfl
      have c_F2 := X_F.cell (i := 2) rfl
      have c_F3 := X_F.cell (i := 3) rfl
      have c_F4 := X_F.cell (i := 4) rfl
      have c_F5 := X_F.cell (i := 5) rfl
      have c_F6 := X_F.cell (i := 6) rfl
      have c_F7 := X_F.cell (i := 7) rfl
      have c_F8 := X_F.cell (i := 8) rfl
      have c_F9 := X_F.cell (i := 9) rfl
      have c_F10 := X_F.cell (i := 10) rfl
      have c_F11 := X_F.cell (i := 11) rfl
      have c_F12 := X_F.cell (i := 12) rfl
      have c_F13 := X_F.cell (i := 13) rfl
      have hp2 := fP_two b
      have NS : NumSl v5 (.slice (some ⟨gd, 0, none⟩) n n) ((dns (fP b) ns).map (frm (fP b))) := R_d.out.sl (by rw [List.length_map, dns_len, HL.out]) (fun i h => by rw [map_at (frm (fP b)) (dns_at (show i < ns.length by rw [HL.out]; exact h)), HL.out]; simp [h]) (fun y hy => by obtain ⟨z, _, rfl⟩ := List.mem_map.1 hy; exact Nat.lt_trans (frm_lt _ (by omega)) (fP_lt b))
      have BA := batch_any (fID b) (fP b) (fI b) (fS b) (.slice (some ⟨gd, 0, none⟩) n n) (dns (fP b) ns) v5 (hid (fOK b)) (hid (fer_b b)) NS (hid (dns_lt (by omega) ns)) (by rw [dns_len, HL.out]; exact hl)
      rw [← fO_eq, dns_inv, dns_len, HL.out] at BA
      have HBA := hid BA
      clear BA NS
      go_wp2_with fail
      refine HBA.out.mono ?_
      rintro e wz ⟨vz, rfl, ho, b9⟩
      have HO := hid (owns_mono ho BW.out.size)
      replace BW := hid (BW.out.trans (b9.mono BW.out.size))
      clear ho b9 HBA
      clear z_F c_F0 c_F1 c_F2 c_F3 c_F4 c_F5 c_F6 c_F7 c_F8 c_F9 c_F10 c_F11 c_F12 c_F13
      go_wp2
      refine bodyPost_ret (by simp only [results, Tryd.results91]; go_simp; try rfl) rfl ?_
      exact ⟨vz, rfl, HO.out, BW.out⟩
end Go.Proofs.YtogenbggjodcnaaDoor
