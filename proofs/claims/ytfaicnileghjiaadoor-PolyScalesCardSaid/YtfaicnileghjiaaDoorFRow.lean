/-
  Rows of numbers under way; products and sums of lists of values.
-/
import Derived.Test.YtfaicnileghjiaaDoorPolyB
import Derived.Test.YtfaicnileghjiaaDoorNums
namespace Go.Proofs.YtfaicnileghjiaaDoor

/-- The cells of a row of numbers. -/
def FRow (c : Nat) (f : Nat → Nat) (zs : List Value) : Prop := zs.length = c * 4 ∧ ∀ t j, t < c → j < 4 → zs[t * 4 + j]? = some (.int .u64 (limb (f t) j : Int))
theorem FRow.zero (c : Nat) (zs : List Value) (hl : zs.length = c * 4) (h : ∀ t j, t < c → j < 4 → zs[t * 4 + j]? = some (.int .u64 0)) : FRow c (fun _ => 0) zs := by
  refine ⟨hl, fun t j ht hj => ?_⟩
  rw [h t j ht hj]
  show _ = some (Value.int .u64 (limb 0 j : Int))
  rw [limb_eq]; simp
theorem FRow.congr {c : Nat} {f g : Nat → Nat} {zs : List Value} (h : FRow c f zs) (e : ∀ t, t < c → g t = f t) : FRow c g zs := ⟨h.1, fun t j ht hj => by rw [e t ht]; exact h.2 t j ht hj⟩
set_option maxHeartbeats 400000 in
theorem FRow.store {c u : Nat} {f g : Nat → Nat} {zs : List Value} (h : FRow c f zs) (hu : u < c) (r : Nat) (hg : ∀ t, t < c → g t = if t = u then r else f t) :
    FRow c g ((((zs.set (u * 4) (.int .u64 (limb r 0 : Int))).set (u * 4 + 1) (.int .u64 (limb r 1 : Int))).set (u * 4 + 2) (.int .u64 (limb r 2 : Int))).set (u * 4 + 3) (.int .u64 (limb r 3 : Int))) := by
  obtain ⟨hl, h⟩ := h
  refine ⟨by simp [hl], fun t j ht hj => ?_⟩
  rw [hg t ht]
  by_cases e : t = u
  · subst e
    rw [if_pos rfl]
    match j, hj with
    | 0, _ => simp [List.getElem?_set, hl]; omega
    | 1, _ => simp [List.getElem?_set, hl]; omega
    | 2, _ => simp [List.getElem?_set, hl]; omega
    | 3, _ => simp [List.getElem?_set, hl]; omega
  · rw [if_neg e, List.getElem?_set_ne (by omega), List.getElem?_set_ne (by omega), List.getElem?_set_ne (by omega), List.getElem?_set_ne (by omega), h t j ht hj]
theorem FRow.done {c : Nat} {f : Nat → Nat} {zs : List Value} (h : FRow c f zs) : zs = nums ((List.range c).map f) := by
  refine List.ext_getElem? fun k => ?_
  obtain ⟨hl, h⟩ := h
  by_cases hk : k < c * 4
  · obtain ⟨t, j, rfl, hj⟩ : ∃ t j, k = t * 4 + j ∧ j < 4 := ⟨k / 4, k % 4, by omega, by omega⟩
    have ht : t < c := by omega
    rw [h t j ht hj, nums_get _ t (f t) (by rw [List.getElem?_map, List.getElem?_range ht]; rfl) j hj]
  · rw [List.getElem?_eq_none (by omega), List.getElem?_eq_none (by rw [nums_len]; simp; omega)]
theorem FRow.of (xs : List Nat) : FRow xs.length (fun t => xs.getD t 0) (nums xs) := ⟨nums_len xs, fun t j ht hj => by
  rw [nums_get xs t (xs.getD t 0) (by simp [List.getD, List.getElem?_eq_getElem ht]) j hj]⟩
theorem rowV_zero (p : Nat) (xs ys : List Nat) (i t r : Nat) : rowV p xs ys i 0 t r = r := by unfold rowV; rw [if_neg (by omega)]
theorem rowV_same {p : Nat} {xs ys : List Nat} {i k t r : Nat} (h : t ≠ i + k) : rowV p xs ys i (k + 1) t r = rowV p xs ys i k t r := by
  unfold rowV
  by_cases h1 : i ≤ t ∧ t - i < k
  · rw [if_pos h1, if_pos ⟨h1.1, by omega⟩]
  · rw [if_neg h1, if_neg (by omega)]
theorem rowV_here (p : Nat) (xs ys : List Nat) (i k r : Nat) : rowV p xs ys i (k + 1) (i + k) r = addm p r (mulm p (xs.getD i 0) (ys.getD k 0)) ∧ rowV p xs ys i k (i + k) r = r := by
  unfold rowV
  exact ⟨by rw [if_pos ⟨by omega, by omega⟩, show i + k - i = k by omega], by rw [if_neg (by omega)]⟩
theorem rowV_lt {p : Nat} (xs ys : List Nat) (i k t : Nat) {r : Nat} (hp : 0 < p) (hr : r < p) : rowV p xs ys i k t r < p := by
  unfold rowV; split
  · exact addm_lt _ _ hp
  · exact hr
theorem paccV_lt {p : Nat} (xs ys : List Nat) (hp : 0 < p) : ∀ i t, paccV p xs ys i t < p
  | 0, _ => hp
  | i + 1, t => rowV_lt xs ys i _ t hp (paccV_lt xs ys hp i t)
theorem pmulV_lt {p : Nat} (xs ys : List Nat) (hp : 0 < p) : ∀ y ∈ pmulV p xs ys, y < p := by
  intro y hy
  unfold pmulV at hy
  split at hy
  · cases hy
  · obtain ⟨t, _, rfl⟩ := List.mem_map.1 hy; exact paccV_lt _ _ hp _ _
theorem pmulV_eq {p : Nat} {xs ys : List Nat} (hx : xs ≠ []) (hy : ys ≠ []) : pmulV p xs ys = (List.range (xs.length + ys.length - 1)).map (paccV p xs ys xs.length) := by
  unfold pmulV; rw [if_neg (fun h => h.elim hx hy)]
theorem rowV_store {p c i k u r x y r2 : Nat} {xs ys : List Nat} {zs : List Value} (h : FRow c (fun t => rowV p xs ys i k t (paccV p xs ys i t)) zs) (hu : i + k = u) (hc : u < c) (hr : rowV p xs ys i k u (paccV p xs ys i u) = r) (hx : xs.getD i 0 = x) (hy : ys.getD k 0 = y) (h2 : addm p r (mulm p x y) = r2) :
    FRow c (fun t => rowV p xs ys i (k + 1) t (paccV p xs ys i t)) ((((zs.set (u * 4) (.int .u64 (limb r2 0 : Int))).set (u * 4 + 1) (.int .u64 (limb r2 1 : Int))).set (u * 4 + 2) (.int .u64 (limb r2 2 : Int))).set (u * 4 + 3) (.int .u64 (limb r2 3 : Int))) := by
  refine h.store hc r2 (fun t _ => ?_)
  subst hu
  by_cases e : t = i + k
  · rw [if_pos e, e]
    show rowV p xs ys i (k + 1) (i + k) (paccV p xs ys i (i + k)) = r2
    rw [(rowV_here p xs ys i k _).2] at hr
    rw [(rowV_here p xs ys i k _).1, hr, hx, hy, h2]
  · rw [if_neg e]
    exact rowV_same e
/-- The sum of two lists of values. -/
noncomputable def paddV (p : Nat) (xs ys : List Nat) : List Nat := (List.range (max xs.length ys.length)).map fun i => addm p (xs.getD i 0) (ys.getD i 0)
theorem paddV_len (p : Nat) (xs ys : List Nat) : (paddV p xs ys).length = max xs.length ys.length := by simp [paddV]
theorem paddV_lt {p : Nat} (xs ys : List Nat) (hp : 0 < p) : ∀ y ∈ paddV p xs ys, y < p := by
  intro y hy
  obtain ⟨t, _, rfl⟩ := List.mem_map.1 hy
  exact addm_lt _ _ hp
theorem getD_lt {p : Nat} {xs : List Nat} (hp : 0 < p) (h : ∀ x ∈ xs, x < p) (i : Nat) : xs.getD i 0 < p := by
  rw [List.getD]
  cases e : xs[i]? with
  | none => exact hp
  | some x => exact h x (List.mem_of_getElem? e)
theorem getD_none {xs : List Nat} {i : Nat} (h : xs.length ≤ i) : xs.getD i 0 = 0 := by rw [List.getD, List.getElem?_eq_none h]; rfl
theorem getD_some {xs : List Nat} {i x : Nat} (h : xs[i]? = some x) : xs.getD i 0 = x := by rw [List.getD, h]; rfl
theorem addm_zero {p x : Nat} (h : x < p) : addm p x 0 = x := by rw [addm_eq, Nat.add_zero, Nat.mod_eq_of_lt h]
theorem addm_comm (p x y : Nat) : addm p x y = addm p y x := by rw [addm_eq, addm_eq, Nat.add_comm]
theorem paddV_comm (p : Nat) (xs ys : List Nat) : paddV p xs ys = paddV p ys xs := by
  unfold paddV
  rw [Nat.max_comm]
  exact List.map_congr_left fun t _ => addm_comm _ _ _
theorem padd_forms (m : Nat) (xs ys : List Nat) : paddV m (xs.map (frm m)) (ys.map (frm m)) = (paddV m xs ys).map (frm m) := by
  unfold paddV
  rw [List.length_map, List.length_map, List.map_map]
  refine List.map_congr_left fun t _ => ?_
  show addm m _ _ = frm m (addm m _ _)
  rw [getD_frm, getD_frm, frm_addm]
end Go.Proofs.YtfaicnileghjiaaDoor
