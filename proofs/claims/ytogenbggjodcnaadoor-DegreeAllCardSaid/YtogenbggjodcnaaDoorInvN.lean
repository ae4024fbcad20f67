/-
  Inverses modulo a prime, and inverses of many at once: plain.
-/
import Derived.Test.YtogenbggjodcnaaDoorPlainN
import Derived.Test.YtogenbggjodcnaaDoorPrime
import Derived.Test.YtogenbggjodcnaaDoorPowN
namespace Go.Proofs.YtogenbggjodcnaaDoor

theorem mulm_assoc (p a b c : Nat) : mulm p (mulm p a b) c = mulm p a (mulm p b c) := by
  rw [mulm_eq, mulm_eq, mulm_eq, mulm_eq, Nat.mod_mul_mod, Nat.mul_mod_mod, Nat.mul_assoc]
theorem mulm_comm (p a b : Nat) : mulm p a b = mulm p b a := by rw [mulm_eq, mulm_eq, Nat.mul_comm]
theorem mulm_one' {p a : Nat} (ha : a < p) : mulm p 1 a = a := by rw [mulm_comm]; exact mulm_one p a ha
theorem mulm_mod (p a b : Nat) : mulm p a (b % p) = mulm p a b := by rw [mulm_eq, mulm_eq, Nat.mul_mod_mod]
/-- The inverse, or 0. -/
noncomputable def invm (p a : Nat) : Nat := powm p a (p - 2)
theorem invm_lt {p : Nat} (a : Nat) (hp : 0 < p) : invm p a < p := powm_lt _ _ hp
theorem invm_zero {p : Nat} (hp : 2 < p) : invm p 0 = 0 := by
  unfold invm; rw [powm_eq, Nat.zero_pow (by omega)]; exact Nat.zero_mod p
theorem inv_left {p a : Nat} (h : Fer p) (hp : 2 < p) (h0 : a ≠ 0) (ha : a < p) : mulm p a (invm p a) = 1 := by
  unfold invm
  rw [mulm_comm, powm_step ha, powm_eq, show p - 2 + 1 = p - 1 by omega]
  exact h.2 a (by omega) ha
theorem inv_unique {p a b c : Nat} (h1 : mulm p a b = 1) (h2 : mulm p a c = 1) (hb : b < p) (hc : c < p) : b = c := by
  have e : mulm p b (mulm p a c) = mulm p (mulm p b a) c := (mulm_assoc p b a c).symm
  rw [h2, mulm_comm p b a, h1, mulm_one p b hb, mulm_one' hc] at e
  exact e
theorem inv_of {p a b : Nat} (h : Fer p) (hp : 2 < p) (ha : a < p) (hb : b < p) (h1 : mulm p a b = 1) : b = invm p a := by
  by_cases h0 : a = 0
  · rw [h0, mulm_eq, Nat.zero_mul, Nat.zero_mod] at h1; omega
  · exact inv_unique h1 (inv_left h hp h0 ha) hb (invm_lt a (by omega))
/-- An element, or 1 in the place of 0. -/
def nz (x : Nat) : Nat := if x = 0 then 1 else x
theorem nz_ne (x : Nat) : nz x ≠ 0 := by unfold nz; split <;> omega
theorem nz_lt {p x : Nat} (hp : 1 < p) (hx : x < p) : nz x < p := by unfold nz; split <;> omega
/-- The products of the first ones. -/
noncomputable def pfx (p : Nat) (l : List Nat) : Nat := l.foldl (fun a x => mulm p a (nz x)) 1
theorem pfx_nil (p : Nat) : pfx p [] = 1 := rfl
theorem pfx_snoc (p : Nat) (l : List Nat) (x : Nat) : pfx p (l ++ [x]) = mulm p (pfx p l) (nz x) := by unfold pfx; rw [List.foldl_append]; rfl
theorem pfx_lt {p : Nat} (hp : 1 < p) (l : List Nat) : pfx p l < p := by
  have key : ∀ (l : List Nat) (a : Nat), a < p → l.foldl (fun a x => mulm p a (nz x)) a < p := by
    intro l
    induction l with
    | nil => intro a ha; exact ha
    | cons x l ih => intro a _; exact ih _ (mulm_lt _ _ (by omega))
  exact key l 1 hp
theorem unit_pfx {p : Nat} (h : Fer p) (hp : 2 < p) : ∀ l : List Nat, (∀ x ∈ l, x < p) → pfx p l ≠ 0 := by
  have key : ∀ (l : List Nat) (a : Nat), (∃ b, mulm p a b = 1) → (∀ x ∈ l, x < p) → ∃ b, mulm p (l.foldl (fun a x => mulm p a (nz x)) a) b = 1 := by
    intro l
    induction l with
    | nil => intro a ha _; exact ha
    | cons x l ih =>
      intro a ⟨b, hb⟩ hl
      refine ih _ ⟨mulm p b (invm p (nz x)), ?_⟩ (fun y hy => hl y (by simp [hy]))
      have hx := inv_left h hp (nz_ne x) (nz_lt (p := p) (by omega) (hl x (by simp)))
      rw [mulm_assoc, ← mulm_assoc p (nz x), mulm_comm p (nz x) b, mulm_assoc p b, hx, mulm_eq p b 1, Nat.mul_one, mulm_mod, hb]
  intro l hl h0
  obtain ⟨b, hb⟩ := key l 1 ⟨1, by rw [mulm_eq]; exact Nat.mod_eq_of_lt (by omega)⟩ hl
  unfold pfx at h0
  rw [h0, mulm_eq, Nat.zero_mul, Nat.zero_mod] at hb; omega
/-- One step back: the product's inverse, and the element's. -/
theorem back_step {p a x j : Nat} (h : Fer p) (hp : 2 < p) (_ha : a < p) (hx : x < p) (hj : mulm p (mulm p a (nz x)) j = 1) :
    mulm p a (mulm p j (nz x)) = 1 ∧ (if x = 0 then 0 else mulm p a j) = invm p x := by
  refine ⟨by rw [mulm_comm p j, ← mulm_assoc]; exact hj, ?_⟩
  by_cases h0 : x = 0
  · rw [if_pos h0, h0, invm_zero hp]
  · rw [if_neg h0]
    have e : nz x = x := by unfold nz; rw [if_neg h0]
    rw [e] at hj
    exact inv_of h hp hx (mulm_lt _ _ (by omega)) (by rw [mulm_comm p a x, mulm_assoc] at hj; exact hj)
theorem frm_eq_zero {m x : Nat} (h : ∃ y, B256 * y % m = 1) (hx : x < m) : frm m x = 0 ↔ x = 0 := by
  constructor
  · intro e; exact frm_inj h hx (by omega) (e.trans (frm_zero m).symm)
  · rintro rfl; exact frm_zero m
end Go.Proofs.YtogenbggjodcnaaDoor
