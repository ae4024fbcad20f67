/-
  Values of polynomials: plain.
-/
import Derived.Test.YtfaicnileghjiaaDoorHorn
namespace Go.Proofs.YtfaicnileghjiaaDoor

/-- The value of a polynomial, as a natural number. -/
def polyN (x : Nat) : List Nat → Nat
  | [] => 0
  | c :: r => c + x * polyN x r
theorem polyN_snoc (x c : Nat) : ∀ l : List Nat, polyN x (l ++ [c]) = polyN x l + c * x ^ l.length
  | [] => by simp [polyN]
  | y :: r => by
    simp only [List.cons_append, polyN, polyN_snoc x c r, List.length_cons, Nat.mul_add, Nat.pow_succ]
    rw [Nat.add_assoc, ← Nat.mul_assoc x c, Nat.mul_comm x c, Nat.mul_assoc c, Nat.mul_comm x (x ^ r.length)]
/-- The value modulo p. -/
noncomputable def evm (p x : Nat) (cs : List Nat) : Nat := veil (polyN x cs % p)
theorem evm_eq (p x : Nat) (cs : List Nat) : evm p x cs = polyN x cs % p := veil_eq _
theorem evm_lt {p : Nat} (x : Nat) (cs : List Nat) (hp : 0 < p) : evm p x cs < p := by rw [evm_eq]; exact Nat.mod_lt _ hp
theorem evm_nil (p x : Nat) : evm p x [] = 0 := by rw [evm_eq, polyN, Nat.zero_mod]
theorem evm_cons (p x c : Nat) (r : List Nat) : addm p (mulm p (evm p x r) x) c = evm p x (c :: r) := by
  rw [addm_eq, mulm_eq, evm_eq, evm_eq, polyN, Nat.mod_mul_mod, Nat.mod_add_mod, Nat.mul_comm x, Nat.add_comm]
theorem evm_snoc (p x c : Nat) (l : List Nat) : addm p (evm p x l) (mulm p c (powm p x l.length)) = evm p x (l ++ [c]) := by
  rw [addm_eq, mulm_eq, powm_eq, evm_eq, evm_eq, polyN_snoc, Nat.mul_mod_mod, ← Nat.add_mod]
theorem horP_downs (m x : Nat) (xs : List Nat) : horP m x (downs xs) = xs.foldr (fun y r => addm m (mont m r x) y) 0 := by
  unfold horP downs
  rw [List.foldl_reverse]
  have key : ∀ (l : List Nat) (k : Nat), ((l.zipIdx k).map fun p => (p.2, p.1)).foldr (fun e r => addm m (mont m r x) e.2) 0 = l.foldr (fun y r => addm m (mont m r x) y) 0 := by
    intro l
    induction l with
    | nil => intro k; rfl
    | cons y r ih => intro k; simp only [List.zipIdx_cons, List.map_cons, List.foldr_cons]; rw [ih]
  exact key xs 0
/-- Horner's rule on forms gives the form of the value. -/
theorem horP_forms {m : Nat} (h : ∃ y, B256 * y % m = 1) (x : Nat) (vs : List Nat) : horP m (frm m x) (downs (vs.map (frm m))) = frm m (evm m x vs) := by
  rw [horP_downs]
  induction vs with
  | nil => rw [List.map_nil, List.foldr_nil, evm_nil, frm_zero]
  | cons c r ih => rw [List.map_cons, List.foldr_cons, ih, frm_mulm h, frm_addm, evm_cons]
/-! ### products -/
/-- What stands at t of a product behind the rows below i, and k elements of row i. -/
noncomputable def rowc (m : Nat) (xs ys : List Nat) (i k t r : Nat) : Nat := if i ≤ t ∧ t - i < k then addm m r (mont m (xs.getD i 0) (ys.getD (t - i) 0)) else r
noncomputable def pacc (m : Nat) (xs ys : List Nat) : Nat → Nat → Nat
  | 0, _ => 0
  | i + 1, t => rowc m xs ys i ys.length t (pacc m xs ys i t)
theorem rowc_zero (m : Nat) (xs ys : List Nat) (i t r : Nat) : rowc m xs ys i 0 t r = r := by unfold rowc; rw [if_neg (by omega)]
theorem rowc_same {m : Nat} {xs ys : List Nat} {i k t r : Nat} (h : t ≠ i + k) : rowc m xs ys i (k + 1) t r = rowc m xs ys i k t r := by
  unfold rowc
  by_cases h1 : i ≤ t ∧ t - i < k
  · rw [if_pos h1, if_pos ⟨h1.1, by omega⟩]
  · rw [if_neg h1, if_neg (by omega)]
theorem rowc_here (m : Nat) (xs ys : List Nat) (i k r : Nat) : rowc m xs ys i (k + 1) (i + k) r = addm m r (mont m (xs.getD i 0) (ys.getD k 0)) ∧ rowc m xs ys i k (i + k) r = r := by
  unfold rowc
  exact ⟨by rw [if_pos ⟨by omega, by omega⟩, show i + k - i = k by omega], by rw [if_neg (by omega)]⟩
theorem rowc_lt {m : Nat} (xs ys : List Nat) (i k t : Nat) {r : Nat} (hm : 0 < m) (hr : r < m) : rowc m xs ys i k t r < m := by
  unfold rowc; split
  · exact addm_lt _ _ hm
  · exact hr
theorem pacc_lt {m : Nat} (xs ys : List Nat) (hm : 0 < m) : ∀ i t, pacc m xs ys i t < m
  | 0, _ => hm
  | i + 1, t => rowc_lt xs ys i _ t hm (pacc_lt xs ys hm i t)
/-- The product of two lists of forms. -/
noncomputable def pmulF (m : Nat) (xs ys : List Nat) : List Nat := if xs = [] ∨ ys = [] then [] else (List.range (xs.length + ys.length - 1)).map (pacc m xs ys xs.length)
/-- The cells of a product under way. -/
def PRow (m : Nat) (xs ys : List Nat) (c i k : Nat) (zs : List Value) : Prop := zs.length = c * 4 ∧ ∀ t j, t < c → j < 4 → zs[t * 4 + j]? = some (.int .u64 (limb (rowc m xs ys i k t (pacc m xs ys i t)) j : Int))
theorem PRow.zero (m c : Nat) (xs ys : List Nat) (zs : List Value) (hl : zs.length = c * 4) (h : ∀ t j, t < c → j < 4 → zs[t * 4 + j]? = some (.int .u64 0)) : PRow m xs ys c 0 0 zs := by
  refine ⟨hl, fun t j ht hj => ?_⟩
  rw [h t j ht hj, rowc_zero]
  show _ = some (Value.int .u64 (limb 0 j : Int))
  rw [limb_eq]; simp
theorem PRow.next {m c i : Nat} {xs ys : List Nat} {zs : List Value} (h : PRow m xs ys c i ys.length zs) : PRow m xs ys c (i + 1) 0 zs := by
  refine ⟨h.1, fun t j ht hj => ?_⟩
  rw [h.2 t j ht hj, rowc_zero]
  rfl
set_option maxHeartbeats 400000 in
theorem PRow.store {m c i k : Nat} {xs ys : List Nat} {zs : List Value} (h : PRow m xs ys c i k zs) (hc : i + k < c) (r : Nat) (hr : rowc m xs ys i (k + 1) (i + k) (pacc m xs ys i (i + k)) = r) :
    PRow m xs ys c i (k + 1) ((((zs.set ((i + k) * 4) (.int .u64 (limb r 0 : Int))).set ((i + k) * 4 + 1) (.int .u64 (limb r 1 : Int))).set ((i + k) * 4 + 2) (.int .u64 (limb r 2 : Int))).set ((i + k) * 4 + 3) (.int .u64 (limb r 3 : Int))) := by
  obtain ⟨hl, h⟩ := h
  obtain ⟨u, hu⟩ : ∃ u, i + k = u := ⟨_, rfl⟩
  rw [hu] at hr hc ⊢
  refine ⟨by simp [hl], fun t j ht hj => ?_⟩
  by_cases e : t = u
  · subst e
    rw [hr]
    match j, hj with
    | 0, _ => simp [List.getElem?_set, hl]; omega
    | 1, _ => simp [List.getElem?_set, hl]; omega
    | 2, _ => simp [List.getElem?_set, hl]; omega
    | 3, _ => simp [List.getElem?_set, hl]; omega
  · rw [List.getElem?_set_ne (by omega), List.getElem?_set_ne (by omega), List.getElem?_set_ne (by omega), List.getElem?_set_ne (by omega), h t j ht hj, rowc_same (by omega)]
theorem PRow.done {m c : Nat} {xs ys : List Nat} {zs : List Value} (h : PRow m xs ys c xs.length 0 zs) (hx : xs ≠ []) (hy : ys ≠ []) (hc : xs.length + ys.length - 1 = c) : (pmulF m xs ys).length = c ∧ zs = nums (pmulF m xs ys) := by
  have e : pmulF m xs ys = (List.range c).map (pacc m xs ys xs.length) := by unfold pmulF; rw [if_neg (fun h => h.elim hx hy), hc]
  rw [e]
  refine ⟨by simp, List.ext_getElem? fun k => ?_⟩
  obtain ⟨hl, h⟩ := h
  by_cases hk : k < c * 4
  · obtain ⟨t, j, rfl, hj⟩ : ∃ t j, k = t * 4 + j ∧ j < 4 := ⟨k / 4, k % 4, by omega, by omega⟩
    have ht : t < c := by omega
    rw [h t j ht hj, rowc_zero, nums_get _ t (pacc m xs ys xs.length t) (by rw [List.getElem?_map, List.getElem?_range ht]; rfl) j hj]
  · rw [List.getElem?_eq_none (by omega), List.getElem?_eq_none (by rw [nums_len]; simp; omega)]
end Go.Proofs.YtfaicnileghjiaaDoor
