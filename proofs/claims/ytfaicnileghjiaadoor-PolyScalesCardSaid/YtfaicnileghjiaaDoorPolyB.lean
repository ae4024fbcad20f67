/-
  Products, quotients and values on forms and on values: plain; the numbers of the chapter's example.
-/
import Derived.Test.YtfaicnileghjiaaDoorPolyA
namespace Go.Proofs.YtfaicnileghjiaaDoor

noncomputable def rowV (p : Nat) (xs ys : List Nat) (i k t r : Nat) : Nat := if i ≤ t ∧ t - i < k then addm p r (mulm p (xs.getD i 0) (ys.getD (t - i) 0)) else r
noncomputable def paccV (p : Nat) (xs ys : List Nat) : Nat → Nat → Nat
  | 0, _ => 0
  | i + 1, t => rowV p xs ys i ys.length t (paccV p xs ys i t)
/-- The product of two lists of values. -/
noncomputable def pmulV (p : Nat) (xs ys : List Nat) : List Nat := if xs = [] ∨ ys = [] then [] else (List.range (xs.length + ys.length - 1)).map (paccV p xs ys xs.length)
theorem getD_frm (m : Nat) (xs : List Nat) (i : Nat) : (xs.map (frm m)).getD i 0 = frm m (xs.getD i 0) := by
  simp only [List.getD, List.getElem?_map]
  cases xs[i]? with
  | none => simp [frm_zero]
  | some x => rfl
theorem pacc_forms {m : Nat} (h : ∃ y, B256 * y % m = 1) (xs ys : List Nat) : ∀ i t, pacc m (xs.map (frm m)) (ys.map (frm m)) i t = frm m (paccV m xs ys i t)
  | 0, _ => (frm_zero m).symm
  | i + 1, t => by
    show rowc m _ _ i (ys.map (frm m)).length t (pacc m _ _ i t) = frm m (rowV m xs ys i ys.length t (paccV m xs ys i t))
    rw [pacc_forms h xs ys i t, List.length_map]
    unfold rowc rowV
    split
    · rw [getD_frm, getD_frm, frm_mulm h, frm_addm]
    · rfl
theorem pmul_forms {m : Nat} (h : ∃ y, B256 * y % m = 1) (xs ys : List Nat) : pmulF m (xs.map (frm m)) (ys.map (frm m)) = (pmulV m xs ys).map (frm m) := by
  unfold pmulF pmulV
  by_cases h0 : xs = [] ∨ ys = []
  · rw [if_pos h0, if_pos (h0.imp (fun e => by rw [e]; rfl) (fun e => by rw [e]; rfl))]; rfl
  · rw [if_neg h0, if_neg (fun e => h0 (e.imp (fun e => List.map_eq_nil_iff.1 e) (fun e => List.map_eq_nil_iff.1 e))), List.length_map, List.length_map, List.map_map]
    refine List.map_congr_left fun t _ => ?_
    exact pacc_forms h xs ys _ t
noncomputable def horV (p x : Nat) (l : List (Nat × Nat)) : Nat := l.foldl (fun r e => addm p (mulm p r x) e.2) 0
theorem hor_forms {m : Nat} (h : ∃ y, B256 * y % m = 1) (x : Nat) (l : List (Nat × Nat)) : horP m (frm m x) (l.map fun e => (e.1, frm m e.2)) = frm m (horV m x l) := by
  have key : ∀ (l : List (Nat × Nat)) (r : Nat), (l.map fun e => (e.1, frm m e.2)).foldl (fun r e => addm m (mont m r (frm m x)) e.2) (frm m r) = frm m (l.foldl (fun r e => addm m (mulm m r x) e.2) r) := by
    intro l
    induction l with
    | nil => intro r; rfl
    | cons e l ih => intro r; simp only [List.map_cons, List.foldl_cons]; rw [frm_mulm h, frm_addm, ih]
  have := key l 0
  rw [frm_zero] at this
  exact this
theorem downs_map (f : Nat → Nat) (xs : List Nat) : downs (xs.map f) = (downs xs).map fun e => (e.1, f e.2) := by
  unfold downs ups
  rw [List.map_reverse]
  congr 1
  apply List.ext_getElem?
  intro k
  simp only [List.getElem?_map, List.getElem?_zipIdx]
  cases xs[k]? <;> rfl
/-- The quotient on values. -/
noncomputable def quoV (p x : Nat) (xs : List Nat) : List Nat := (List.range (xs.length - 1)).map fun j => horV p x ((downs xs).take (xs.length - 1 - j))
theorem quo_forms {m : Nat} (h : ∃ y, B256 * y % m = 1) (x : Nat) (xs : List Nat) : quo m (frm m x) (xs.map (frm m)) = (quoV m x xs).map (frm m) := by
  unfold quo quoV
  rw [List.length_map, List.map_map]
  refine List.map_congr_left fun j _ => ?_
  rw [downs_map, ← List.map_take, hor_forms h]
  rfl
/-! ### the example -/
theorem limbs_small {x : Nat} (hx : x < 18446744073709551616) : limbs x = [.int .u64 (x : Int), .int .u64 0, .int .u64 0, .int .u64 0] := by
  have e0 : limb x 0 = x := by rw [limb0]; omega
  have e1 : limb x 1 = 0 := by rw [limb1]; omega
  have e2 : limb x 2 = 0 := by rw [limb2]; omega
  have e3 : limb x 3 = 0 := by rw [limb3]; omega
  show [Value.int .u64 (limb x 0 : Int), .int .u64 (limb x 1 : Int), .int .u64 (limb x 2 : Int), .int .u64 (limb x 3 : Int)] = _
  rw [e0, e1, e2, e3]; rfl
theorem vec_small {x : Nat} (hx : x < 18446744073709551616) : vec x = .agg #[.int .u64 (x : Int), .int .u64 0, .int .u64 0, .int .u64 0] := by
  have := limbs_small hx
  unfold limbs at this
  simp only [List.cons.injEq, and_true] at this
  obtain ⟨a, b, c, d⟩ := this
  rw [vec, a, b, c, d]
theorem mod_small {x : Nat} (hx : x < P2) : mulm P2 1 x = x := by rw [mulm_eq, Nat.one_mul, Nat.mod_eq_of_lt hx]
theorem vals3 : [1, 2, 3].map (mulm P2 1) = [1, 2, 3] := by
  show [mulm P2 1 1, mulm P2 1 2, mulm P2 1 3] = _
  rw [mod_small (by decide), mod_small (by decide), mod_small (by decide)]
theorem vals2 : [1, 1].map (mulm P2 1) = [1, 1] := by
  show [mulm P2 1 1, mulm P2 1 1] = _
  rw [mod_small (by decide)]
theorem ev321 : evm P2 10 [1, 2, 3] = 321 := by rw [evm_eq]; decide
theorem prod121 : pmulV P2 [1, 1] [1, 1] = [1, 2, 1] := by
  have e0 : paccV P2 [1, 1] [1, 1] 2 0 = 1 := by simp only [paccV, rowV, addm_eq, mulm_eq]; decide
  have e1 : paccV P2 [1, 1] [1, 1] 2 1 = 2 := by simp only [paccV, rowV, addm_eq, mulm_eq]; decide
  have e2 : paccV P2 [1, 1] [1, 1] 2 2 = 1 := by simp only [paccV, rowV, addm_eq, mulm_eq]; decide
  unfold pmulV
  rw [if_neg (by simp)]
  show [paccV P2 [1, 1] [1, 1] 2 0, paccV P2 [1, 1] [1, 1] 2 1, paccV P2 [1, 1] [1, 1] 2 2] = _
  rw [e0, e1, e2]
theorem quo323 : quoV P2 10 [1, 2, 3] = [32, 3] := by
  have e0 : horV P2 10 [(2, 3), (1, 2)] = 32 := by simp only [horV, List.foldl_cons, List.foldl_nil, addm_eq, mulm_eq]; decide
  have e1 : horV P2 10 [(2, 3)] = 3 := by simp only [horV, List.foldl_cons, List.foldl_nil, addm_eq, mulm_eq]; decide
  show [horV P2 10 [(2, 3), (1, 2)], horV P2 10 [(2, 3)]] = _
  rw [e0, e1]
theorem blk_nums {w : World} {b : Nat} {t : TypeId} {xs : List Nat} (h : Blk w b t (nums xs)) (hx : ∀ x ∈ xs, x < B256) : NumSl w (.slice (some ⟨b, 0, none⟩) xs.length xs.length) xs := by
  refine ⟨_, _, rfl, Nat.le_refl _, .inr ⟨b, 0, rfl, fun j x hj => ?_⟩⟩
  rw [Nat.zero_add]
  exact ⟨hx x (List.mem_of_getElem? hj), h.cell (nums_get xs j x hj 0 (by omega)), h.cell (nums_get xs j x hj 1 (by omega)), h.cell (nums_get xs j x hj 2 (by omega)), h.cell (nums_get xs j x hj 3 (by omega))⟩
end Go.Proofs.YtfaicnileghjiaaDoor
