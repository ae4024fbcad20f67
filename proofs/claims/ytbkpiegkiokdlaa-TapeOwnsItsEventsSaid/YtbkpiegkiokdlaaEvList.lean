/-
  Lists of events: what they have in common at their beginning. No program.
-/
import Derived.Test.YtbkpiegkiokdlaaTape
namespace Go.Proofs.Ytbkpiegkiokdlaa
/-- How many elements two lists have in common at their beginning; the result of First. -/
def cpl : List Ev → List Ev → Nat
  | x :: l, y :: m => if x = y then cpl l m + 1 else 0
  | _, _ => 0
def fst (l m : List Ev) : Int := if l = m then -1 else (cpl l m : Int)
theorem cpl_of : ∀ (l m : List Ev) (k : Nat), l.take k = m.take k → k ≤ l.length → k ≤ m.length → (k = l.length ∨ k = m.length ∨ l[k]? ≠ m[k]?) → cpl l m = k
  | [], _, k, _, h1, _, _ => by simp at h1; subst h1; simp [cpl]
  | _ :: _, [], k, _, _, h2, _ => by simp at h2; subst h2; simp [cpl]
  | x :: l, y :: m, 0, _, _, _, h => by
    have : x ≠ y := by
      intro e; subst e
      rcases h with h | h | h
      · cases h
      · cases h
      · exact h rfl
    simp [cpl, this]
  | x :: l, y :: m, k + 1, h0, h1, h2, h => by
    simp only [List.take_succ_cons, List.cons.injEq] at h0
    obtain ⟨rfl, h0⟩ := h0
    simp only [cpl, if_true]
    rw [cpl_of l m k h0 (by simpa using h1) (by simpa using h2) (by simpa using h)]
theorem fst_diff {l m : List Ev} {k : Nat} (h0 : l.take k = m.take k) (h1 : k ≤ l.length) (h2 : k ≤ m.length) (h : l[k]? ≠ m[k]?) : fst l m = (k : Int) := by
  unfold fst
  rw [if_neg (fun e => h (by rw [e])), cpl_of l m k h0 h1 h2 (.inr (.inr h))]
theorem fst_eq {l m : List Ev} {k : Nat} (h0 : l.take k = m.take k) (h1 : k = l.length) (h2 : k = m.length) : fst l m = -1 := by
  unfold fst
  rw [if_pos (by rw [List.take_of_length_le (by omega), List.take_of_length_le (by omega)] at h0; exact h0)]
theorem fst_end {l m : List Ev} {k : Nat} (h0 : l.take k = m.take k) (h1 : k ≤ l.length) (h2 : k ≤ m.length) (h : k = l.length ∨ k = m.length) (hne : l.length ≠ m.length) : fst l m = (k : Int) := by
  unfold fst
  rw [if_neg (fun e => hne (by rw [e])), cpl_of l m k h0 h1 h2 (by omega)]

theorem fst_neg (l m : List Ev) : (fst l m == -1) = decide (l = m) := by
  unfold fst
  by_cases h : l = m
  · simp [h]
  · rw [if_neg h, decide_eq_false h]; simp
theorem fst_lt (l m : List Ev) : decide (fst l m < 0) = decide (l = m) := by
  unfold fst
  by_cases h : l = m
  · simp [h]
  · rw [if_neg h, decide_eq_false h]; simp
/-- How many events have a kind. -/
def cnt (k : Int) (l : List Ev) : Nat := (l.filter fun e => e.k == k).length
theorem cnt_snoc (k : Int) (l : List Ev) (e : Ev) : cnt k (l ++ [e]) = cnt k l + if e.k == k then 1 else 0 := by
  unfold cnt; rw [List.filter_append, List.length_append]; simp [List.filter_cons]; split <;> simp
theorem cnt_le (k : Int) (l : List Ev) : cnt k l ≤ l.length := List.length_filter_le _ _
end Go.Proofs.Ytbkpiegkiokdlaa
