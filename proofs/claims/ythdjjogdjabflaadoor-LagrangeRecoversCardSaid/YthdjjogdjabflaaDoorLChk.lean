/-
  The check of indices: the program's map and the reference's two loops find the same.
-/
import Derived.Test.YthdjjogdjabflaaDoorInts
import Derived.Test.YthdjjogdjabflaaDoorLags
import Derived.Test.YthdjjogdjabflaaDoorKit
import Derived.Maps.OwnOps
import Derived.Maps.OwnSet
import Derived.Outline
namespace Go.Proofs.YthdjjogdjabflaaDoor
open Go.RowKit Go.Maps

theorem mapb_below {W W' : World} {b n : Nat} {D : DataW Unit} (h : W.ownsMap Tryd.prog 3 (plainElem Tryd.prog 4) b n D) (hb : Below W.heap.size W W') : W'.ownsMap Tryd.prog 3 (plainElem Tryd.prog 4) b n D := by
  have hlt := h.lt
  obtain ⟨es, clock, h1, r⟩ := h
  exact ⟨es, clock, (hb.block b hlt).trans h1, r⟩
theorem keyInt9 : Keyed Tryd.prog 3 := int_keyed Tryd.underlying3
/-- A map whose keys are the integers xs. -/
def IbMap (w : World) (b : Nat) (xs : List Int) : Prop := ∃ (n : Nat) (D : DataW Unit), w.ownsMap Tryd.prog 3 (plainElem Tryd.prog 4) b n D ∧ n ≤ xs.length ∧ size D ≤ xs.length ∧ (size D < xs.length ↔ ¬ xs.Nodup) ∧ ∀ x, has D (.int .i64 x) = decide (x ∈ xs)
theorem IbMap.made (w : World) : IbMap (w.alloc (.map #[] 0)) w.heap.size [] := ⟨0, _, World.ownsMap_made _ _ _ _, Nat.le_refl _, Nat.le_refl _, by simp [Maps.size], fun x => by simp [Maps.has]⟩
theorem nodup_snoc9 {xs : List Int} {x : Int} : (xs ++ [x]).Nodup ↔ xs.Nodup ∧ x ∉ xs := by
  rw [List.nodup_append]
  constructor
  · rintro ⟨h1, _, h2⟩; exact ⟨h1, fun h => h2 x h x (by simp) rfl⟩
  · rintro ⟨h1, h2⟩; exact ⟨h1, by simp, fun a ha b hb => by simp at hb; subst hb; exact fun e => h2 (e ▸ ha)⟩
theorem IbMap.step {w w' : World} {b n : Nat} {D : DataW Unit} {xs : List Int} {x : Int} {d : DataW Unit} (ho : w.ownsMap Tryd.prog 3 (plainElem Tryd.prog 4) b n D) (hn : n ≤ xs.length) (h1 : size D ≤ xs.length) (h2 : size D < xs.length ↔ ¬ xs.Nodup) (h3 : ∀ x, has D (.int .i64 x) = decide (x ∈ xs))
    (ho' : w'.ownsMap Tryd.prog 3 (plainElem Tryd.prog 4) b (n + 1) (D.put (.int .i64 x) d)) : IbMap w' b (xs ++ [x]) := by
  have hsz := size_put (k := .int .i64 x) (ho.tidy keyInt9) d
  have hl : (xs ++ [x]).length = xs.length + 1 := by simp
  refine ⟨n + 1, _, ho', by omega, ?_, ?_, fun y => ?_⟩
  · rw [hsz]; split <;> omega
  · rw [hsz, h3 x, nodup_snoc9]
    by_cases hx : x ∈ xs
    · rw [if_pos (by simp [hx]), hl]
      exact ⟨fun _ h => h.2 hx, fun _ => by omega⟩
    · rw [if_neg (by simp [hx]), hl]
      exact ⟨fun h hh => (h2.1 (by omega)) hh.1, fun h => by have := h2.2 (fun hh => h ⟨hh, hx⟩); omega⟩
  · by_cases hy : y = x
    · subst hy
      rw [has_put_same (k := .int .i64 y) ho.isMap trivial d]; simp
    · rw [has_put_other (by simp [hy]) d, h3 y]; simp [hy]
theorem point_wf {x : Int} (h1 : 1 ≤ x) (h2 : x ≤ 255) : (Lit.int .i64 x).wf = true := by
  simp only [Lit.wf, Bool.and_eq_true, decide_eq_true_eq]
  rw [show IntKind.i64.min = -9223372036854775808 by decide, show IntKind.i64.max = 9223372036854775807 by decide]
  omega
theorem take_next9 {α : Type} {l : List α} {k : Nat} {x : α} (h : l[k]? = some x) : l.take (k + 1) = l.take k ++ [x] := by
  rw [List.take_add_one, h]; rfl
theorem all_next {xs : List Int} {k : Nat} {x : Int} {p : Int → Prop} (h : xs[k]? = some x) (hk : ∀ y ∈ xs.take k, p y) (hx : p x) : ∀ y ∈ xs.take (k + 1), p y := fun y hy => by
  rw [take_next9 h, List.mem_append, List.mem_singleton] at hy
  rcases hy with h | h
  · exact hk y h
  · exact h ▸ hx
set_option maxRecDepth 100000 in
set_option maxHeartbeats 1000000 in
theorem lcheck_any (v : Value) (xs : List Int) (w : World) (hS : IntSl w v xs) (hl : xs.length < 1000000) : Calls Tryd.prog 10 #[v] w (Ret (.int .i64 (chkx xs)) w) := by
  have HS := hid hS
  obtain ⟨a, cap, rfl, _⟩ := hS
  obtain ⟨m, hm⟩ : ∃ m, xs.length = m := ⟨_, rfl⟩
  have HM := hid hm
  rw [hm] at hl HS ⊢
  clear hm
  have hmm := @run_makeMap Tryd.prog
  go_enter Tryd.func10, Tryd.ntmps10
  go_wp2
  go_loopw [9] (fun x wr => ∃ (k : Nat), k ≤ m ∧ x = .int .i64 (k : Int) ∧ (∀ y ∈ xs.take k, 1 ≤ y ∧ y ≤ 255) ∧ IbMap wr w.heap.size (xs.take k) ∧ Below w.heap.size w wr) (fun x _ => m - (intOf x).toNat)
  case atStart => exact ⟨0, Nat.zero_le _, rfl, by simp, IbMap.made w, (Below.refl _ _).alloc (Nat.le_refl _) _⟩
  case round =>
    obtain ⟨k, hk, rfl, hok, hix, hB⟩ := hrel
    have zB := hB.size
    have HB := hid hB
    have HOK := hid hok
    obtain ⟨nb, D, hown, hn1, hn2, hn3, hn4⟩ := hix
    have HN1 := hid hn1
    have HN2 := hid hn2
    have HN3 := hid hn3
    have HN4 := hid hn4
    have OWN := hid hown
    have hn9 : nb ≤ k := by rw [List.length_take] at hn1; omega
    have zM := hown.lt
    clear hB hok hn1 hn2 hn3 hn4 hown
    by_cases hlt : k < m
    · obtain ⟨x, hx⟩ : ∃ s, xs[k]? = some s := ⟨xs[k]'(by rw [HM.out]; exact hlt), List.getElem?_eq_getElem _⟩
      have HX := hid hx
      obtain ⟨g, off, rfl, hg, d0⟩ := (HS.out.below HB.out).at hx
      clear hx
      have hk0 : (0 : Int) ≤ (k : Int) := by omega
      have hkm : (k : Int) < (m : Int) := by omega
      by_cases h1 : x < 1
      · have EQ := hid (chkx_bad HX.out (by omega))
        go_wp2
        go_ret
        exact ⟨by rw [EQ.out]; rfl, HB.out⟩
      · by_cases h2 : 255 < x
        · have EQ := hid (chkx_bad HX.out (by omega))
          go_wp2
          go_ret
          exact ⟨by rw [EQ.out]; rfl, HB.out⟩
        · have HC := hid (show 1 ≤ x ∧ x ≤ 255 by omega)
          have HKEY := hid (keyOf_int_mk Tryd.underlying3 (point_wf (x := x) (by omega) (by omega)))
          go_wp2_with (first
            | (at_mapUpdate; refine wpList_mapUpdate_own _ rfl _ _ _ 61 rfl 3 4 keyInt9 Tryd.underlying61 _ w.heap.size nb D rfl OWN.out (by unfold maxLen; omega) _ _ _ rfl rfl HKEY.out _ [] (plainElem_bool Tryd.underlying4 true) ?_; intro w9 hown9 hgrow9)
            | go_in)
          have B9 := hid (Below.grown HB.out hgrow9 HB.out.size (fun j hj => by cases hj; exact Nat.le_refl _))
          have M9 := hid (IbMap.step (x := x) OWN.out (by have := HN1.out; omega) HN2.out HN3.out HN4.out hown9)
          clear hgrow9 hown9
          go_roundw
          case rel => exact ⟨k + 1, by omega, by go_num, all_next HX.out HOK.out HC.out, by rw [take_next9 HX.out]; exact M9.out, B9.out⟩
          case measure => simp [intOf]; omega
    · obtain rfl : m = k := by omega
      have hall : ∀ y ∈ xs, 1 ≤ y ∧ y ≤ 255 := fun s hs => HOK.out s (by rw [List.take_of_length_le (by rw [HM.out]; exact Nat.le_refl _)]; exact hs)
      have hG := chkx_nodup hall
      have htk : xs.take m = xs := List.take_of_length_le (by rw [HM.out]; exact Nat.le_refl _)
      have hn5 : size D < m ↔ ¬ xs.Nodup := by have h := HN3.out; rw [htk, HM.out] at h; exact h
      clear hall htk
      by_cases hd : size D < m
      · have EQ := hid (hG.2 (hn5.1 hd))
        clear hG hn5
        go_wp2_with (first | (at_len; refine wpList_len_own _ rfl _ 61 rfl 3 4 Tryd.underlying61 _ w.heap.size nb D rfl OWN.out ?_) | go_in)
        go_ret
        exact ⟨by rw [EQ.out]; rfl, HB.out⟩
      · have EQ := hid (hG.1 (Classical.not_not.1 fun h => hd (hn5.2 h)))
        clear hG hn5
        go_wp2_with (first | (at_len; refine wpList_len_own _ rfl _ 61 rfl 3 4 Tryd.underlying61 _ w.heap.size nb D rfl OWN.out ?_) | go_in)
        go_ret
        exact ⟨by rw [EQ.out]; rfl, HB.out⟩
set_option maxRecDepth 100000 in
set_option maxHeartbeats 1000000 in
theorem rlcheck_any (v : Value) (xs : List Int) (w : World) (hS : IntSl w v xs) (hl : xs.length < 1000000) : Calls Tryd.prog 11 #[v] w (Ret (.int .i64 (chkx xs)) w) := by
  have HS := hid hS
  obtain ⟨a, cap, rfl, _⟩ := hS
  obtain ⟨m, hm⟩ : ∃ m, xs.length = m := ⟨_, rfl⟩
  have HM := hid hm
  rw [hm] at hl HS ⊢
  clear hm
  go_enter Tryd.func11, Tryd.ntmps11
  go_wp2
  go_loopw [3] (fun x wr => ∃ (k : Nat), k ≤ m ∧ x = .int .i64 (k : Int) ∧ (∀ y ∈ xs.take k, 1 ≤ y ∧ y ≤ 255) ∧ Below w.heap.size w wr) (fun x _ => m - (intOf x).toNat)
  case atStart => exact ⟨0, Nat.zero_le _, rfl, by simp, Below.refl _ _⟩
  case round =>
    obtain ⟨k, hk, rfl, hok, hB⟩ := hrel
    have zB := hB.size
    have HB := hid hB
    have HOK := hid hok
    clear hB hok
    by_cases hlt : k < m
    · obtain ⟨x, hx⟩ : ∃ s, xs[k]? = some s := ⟨xs[k]'(by rw [HM.out]; exact hlt), List.getElem?_eq_getElem _⟩
      have HX := hid hx
      obtain ⟨g, off, rfl, hg, d0⟩ := (HS.out.below HB.out).at hx
      clear hx
      have hk0 : (0 : Int) ≤ (k : Int) := by omega
      have hkm : (k : Int) < (m : Int) := by omega
      by_cases h1 : x < 1
      · have EQ := hid (chkx_bad HX.out (by omega))
        go_wp2
        go_ret
        exact ⟨by rw [EQ.out]; rfl, HB.out⟩
      · by_cases h2 : 255 < x
        · have EQ := hid (chkx_bad HX.out (by omega))
          go_wp2
          go_ret
          exact ⟨by rw [EQ.out]; rfl, HB.out⟩
        · have HC := hid (show 1 ≤ x ∧ x ≤ 255 by omega)
          go_wp2
          go_roundw
          case rel => exact ⟨k + 1, by omega, by go_num, all_next HX.out HOK.out HC.out, HB.out⟩
          case measure => simp [intOf]; omega
    · obtain rfl : m = k := by omega
      have hall : ∀ y ∈ xs, 1 ≤ y ∧ y ≤ 255 := fun s hs => HOK.out s (by rw [List.take_of_length_le (by rw [HM.out]; exact Nat.le_refl _)]; exact hs)
      have HALL := hid hall
      clear hall HOK
      go_wp2
      go_loopw [4] (fun x wr2 => ∃ q : Nat, q ≤ m ∧ x = .int .i64 (q : Int) ∧ nod xs q ∧ Below w.heap.size w wr2) (fun x _ => m - (intOf x).toNat)
      case atStart => exact ⟨0, Nat.zero_le _, rfl, nod_zero xs, HB.out⟩
      case round =>
        obtain ⟨q, hq, rfl, hnd, hB2⟩ := hrel
        have zB2 := hB2.size
        have HB2 := hid hB2
        have HND := hid hnd
        clear hB2 hnd
        by_cases hlq : q < m
        · obtain ⟨x, hx⟩ : ∃ s, xs[q]? = some s := ⟨xs[q]'(by rw [HM.out]; exact hlq), List.getElem?_eq_getElem _⟩
          have HX := hid hx
          clear hx
          go_wp2
          go_loopw [5] (fun x wr4 => ∃ q4 : Nat, q4 ≤ q ∧ x = .int .i64 (q4 : Int) ∧ (∀ b, b < q4 → xs[q]? ≠ xs[b]?) ∧ Below w.heap.size w wr4) (fun x _ => q - (intOf x).toNat)
          case atStart => exact ⟨0, Nat.zero_le _, rfl, fun b h => absurd h (Nat.not_lt_zero _), HB2.out⟩
          case round =>
            obtain ⟨q4, hq4, rfl, hni, hB4⟩ := hrel
            have zB4 := hB4.size
            have HB4 := hid hB4
            have HNI := hid hni
            clear hB4 hni
            by_cases hl4 : q4 < q
            · obtain ⟨y, hy⟩ : ∃ s, xs[q4]? = some s := ⟨xs[q4]'(by rw [HM.out]; omega), List.getElem?_eq_getElem _⟩
              have HY := hid hy
              obtain ⟨g, off, hga, hg, d0⟩ := (HS.out.below HB4.out).at hy
              subst hga
              obtain ⟨g2, off2, hga2, hg2, u0⟩ := (HS.out.below HB4.out).at HX.out
              cases hga2
              clear hy
              have hk0 : (0 : Int) ≤ (q4 : Int) := by omega
              have hkm : (q4 : Int) < (m : Int) := by omega
              have hk2 : (0 : Int) ≤ (q : Int) := by omega
              have hkm2 : (q : Int) < (m : Int) := by omega
              by_cases e : x = y
              · have EQ := hid (chkx_dup HALL.out hl4 (by rw [HM.out]; exact hlq) (by rw [HX.out, HY.out, e]))
                have hd : (x == y) = true := by simp [e]
                clear e
                go_wp2
                go_quiet (fail)
                go_wp2
                go_ret
                exact ⟨by rw [EQ.out]; rfl, Below.drewN' HB4.out _⟩
              · have hd : (x == y) = false := by simp [e]
                have HNE := hid e
                clear e
                go_wp2
                go_quiet (fail)
                go_wp2
                go_roundw
                case rel => exact ⟨q4 + 1, by omega, by go_num, fun b h => by
                    by_cases e9 : b = q4
                    · subst e9; rw [HX.out, HY.out]; exact fun h9 => HNE.out (Option.some.inj h9)
                    · exact HNI.out b (by omega), Below.drewN' HB4.out _⟩
                case measure => simp [intOf]; omega
            · obtain rfl : q = q4 := by omega
              have HN2 := hid (nod_succ HND.out HNI.out)
              go_wp2
              go_roundw
              case rel => exact ⟨q + 1, by omega, by go_num, HN2.out, HB4.out⟩
              case measure => simp [intOf]; omega
        · obtain rfl : m = q := by omega
          have EQ := hid (chkx_ok HALL.out (by rw [HM.out]; exact HND.out))
          go_wp2
          go_ret
          exact ⟨by rw [EQ.out]; rfl, HB2.out⟩
end Go.Proofs.YthdjjogdjabflaaDoor
