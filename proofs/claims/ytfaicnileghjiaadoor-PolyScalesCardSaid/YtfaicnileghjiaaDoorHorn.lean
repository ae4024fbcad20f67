/-
  Horner's rule over Montgomery forms: plain.
-/
import Derived.Test.YtfaicnileghjiaaDoorNumH
import Derived.Test.YtfaicnileghjiaaDoorIter08
namespace Go.Proofs.YtfaicnileghjiaaDoor
/-- Horner's rule over the elements, the last one first. -/
noncomputable def horP (m x : Nat) (l : List (Nat × Nat)) : Nat := l.foldl (fun r e => addm m (mont m r x) e.2) 0
theorem horP_nil (m x : Nat) : horP m x [] = 0 := rfl
theorem horP_snoc (m x : Nat) (l : List (Nat × Nat)) (e : Nat × Nat) : horP m x (l ++ [e]) = addm m (mont m (horP m x l) x) e.2 := by unfold horP; rw [List.foldl_append]; rfl
theorem horP_lt {m : Nat} (x : Nat) (hm : 0 < m) : ∀ l, horP m x l < m := by
  intro l
  rcases List.eq_nil_or_concat l with rfl | ⟨l', e, rfl⟩
  · exact hm
  · rw [List.concat_eq_append, horP_snoc]; exact addm_lt _ _ hm
theorem downs_at {xs : List Nat} {k i y : Nat} (h : (downs xs)[k]? = some (i, y)) : xs[i]? = some y ∧ i + k + 1 = xs.length := by
  have hk : k < xs.length := by have := (List.getElem?_eq_some_iff.1 h).1; rwa [downs_len] at this
  obtain ⟨z, hz⟩ : ∃ z, xs[xs.length - 1 - k]? = some z := ⟨xs[xs.length - 1 - k]'(by omega), List.getElem?_eq_getElem _⟩
  have := downs_get hz
  rw [show xs.length - 1 - (xs.length - 1 - k) = k by omega, h] at this
  cases this
  exact ⟨hz, by omega⟩
theorem ups_at {xs : List Nat} {k i y : Nat} (h : (ups xs)[k]? = some (i, y)) : xs[k]? = some y ∧ i = k := by
  have hk : k < xs.length := by have := (List.getElem?_eq_some_iff.1 h).1; rwa [ups_len] at this
  obtain ⟨z, hz⟩ : ∃ z, xs[k]? = some z := ⟨xs[k]'hk, List.getElem?_eq_getElem _⟩
  have := ups_get hz
  rw [h] at this
  cases this
  exact ⟨hz, rfl⟩
theorem pre_take {α : Type} {l pre : List α} {e : α} (h : pre ++ [e] <+: l) : l[pre.length]? = some e ∧ pre = l.take pre.length := by
  obtain ⟨s, rfl⟩ := h
  refine ⟨by simp, by simp⟩
/-- The quotient's cells behind k rounds. -/
def QRow (m x c : Nat) (L : List (Nat × Nat)) (k : Nat) (ys : List Value) : Prop := ys.length = c * 4 ∧ ∀ j i, j < c → i < 4 → ys[j * 4 + i]? = some (.int .u64 (limb (if c - j ≤ k then horP m x (L.take (c - j)) else 0) i : Int))
theorem QRow.skip {m x c : Nat} {L : List (Nat × Nat)} {k : Nat} {ys : List Value} (h : QRow m x c L k ys) (hk : c ≤ k) : QRow m x c L (k + 1) ys := by
  refine ⟨h.1, fun j i hj hi => ?_⟩
  rw [h.2 j i hj hi, if_pos (by omega), if_pos (by omega)]
set_option maxHeartbeats 400000 in
theorem QRow.store {m x c j : Nat} {L : List (Nat × Nat)} {k : Nat} {ys : List Value} (h : QRow m x c L k ys) (hj : j + k + 1 = c) (r : Nat) (hr : horP m x (L.take (k + 1)) = r) :
    QRow m x c L (k + 1) ((((ys.set (j * 4) (.int .u64 (limb r 0 : Int))).set (j * 4 + 1) (.int .u64 (limb r 1 : Int))).set (j * 4 + 2) (.int .u64 (limb r 2 : Int))).set (j * 4 + 3) (.int .u64 (limb r 3 : Int))) := by
  obtain ⟨hl, h⟩ := h
  refine ⟨by simp [hl], fun j' i hj' hi => ?_⟩
  by_cases hjk : j' = j
  · subst hjk
    rw [if_pos (by omega), show c - j' = k + 1 by omega, hr]
    match i, hi with
    | 0, _ => simp [List.getElem?_set, hl]; omega
    | 1, _ => simp [List.getElem?_set, hl]; omega
    | 2, _ => simp [List.getElem?_set, hl]; omega
    | 3, _ => simp [List.getElem?_set, hl]; omega
  · rw [List.getElem?_set_ne (by omega), List.getElem?_set_ne (by omega), List.getElem?_set_ne (by omega), List.getElem?_set_ne (by omega), h j' i hj' hi]
    by_cases h1 : c - j' ≤ k
    · rw [if_pos h1, if_pos (by omega)]
    · rw [if_neg h1, if_neg (by omega)]
/-- The quotient by x, lowest first. -/
noncomputable def quo (m x : Nat) (xs : List Nat) : List Nat := (List.range (xs.length - 1)).map fun j => horP m x ((downs xs).take (xs.length - 1 - j))
theorem quo_len (m x : Nat) (xs : List Nat) : (quo m x xs).length = xs.length - 1 := by simp [quo]
theorem quo_lt {m : Nat} (x : Nat) (xs : List Nat) (hm : 0 < m) : ∀ y ∈ quo m x xs, y < m := by
  intro y hy
  simp only [quo, List.mem_map] at hy
  obtain ⟨j, _, rfl⟩ := hy
  exact horP_lt x hm _
theorem QRow.done {m x c : Nat} {xs : List Nat} {ys : List Value} (h : QRow m x c (downs xs) xs.length ys) (hc : xs.length - 1 = c) : ys = nums (quo m x xs) := by
  obtain ⟨hl, h⟩ := h
  apply List.ext_getElem?
  intro k
  by_cases hk : k < c * 4
  · obtain ⟨j, i, rfl, hi⟩ : ∃ j i, k = j * 4 + i ∧ i < 4 := ⟨k / 4, k % 4, by omega, by omega⟩
    have hj : j < c := by omega
    have hq : (quo m x xs)[j]? = some (horP m x ((downs xs).take (c - j))) := by
      unfold quo
      rw [List.getElem?_map, hc, List.getElem?_range hj]
      rfl
    rw [h j i hj hi, if_pos (by omega), nums_get _ j _ hq i hi]
  · rw [List.getElem?_eq_none (by omega), List.getElem?_eq_none (by rw [nums_len, quo_len, hc]; omega)]
theorem QRow.zero (m x c : Nat) (L : List (Nat × Nat)) (ys : List Value) (hl : ys.length = c * 4) (h : ∀ j i, j < c → i < 4 → ys[j * 4 + i]? = some (.int .u64 0)) : QRow m x c L 0 ys := by
  refine ⟨hl, fun j i hj hi => ?_⟩
  rw [h j i hj hi, if_neg (by omega), limb_eq]
  simp
theorem made_zeros (n j i : Nat) (hj : j < n) (hi : i < 4) : (madeCells (Value.agg #[.int .u64 0, .int .u64 0, .int .u64 0, .int .u64 0]).cells (n * 4)).toList[j * 4 + i]? = some (.int .u64 0) := by
  have h1 : j * 4 + i < n * 4 := by omega
  have h2 : (j * 4 + i) % 4 = i := by omega
  show (madeCells #[.int .u64 0, .int .u64 0, .int .u64 0, .int .u64 0] (n * 4)).toList[j * 4 + i]? = _
  rw [Array.getElem?_toList, madeCells]
  simp only [Array.getElem?_map, Array.getElem?_range, h1, if_pos, Option.map_some]
  match i, hi with
  | 0, _ => simp
  | 1, _ => simp [h2]
  | 2, _ => simp [h2]
  | 3, _ => simp [h2]
end Go.Proofs.YtfaicnileghjiaaDoor
