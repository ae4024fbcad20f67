/-
  Halving modulo an odd number; the fields by their number: plain arithmetic, no program.
-/
import Derived.Test.YtfaicnileghjiaaDoorNumM
import Derived.Test.YtfaicnileghjiaaDoorNumC
namespace Go.Proofs.YtfaicnileghjiaaDoor

/-- Half of a number modulo p. -/
noncomputable def hlf (p a : Nat) : Nat := veil (if a % 2 = 1 then (a + p) / 2 else a / 2)
theorem hlf_eq (p a : Nat) : hlf p a = if a % 2 = 1 then (a + p) / 2 else a / 2 := veil_eq _
theorem hlf_lt {p a : Nat} (hodd : p % 2 = 1) (ha : a < p) : hlf p a < p := by rw [hlf_eq]; split <;> omega
theorem hlf_two {p : Nat} (a : Nat) (hodd : p % 2 = 1) : 2 * hlf p a % p = a % p := by
  rw [hlf_eq]
  split
  · rw [show 2 * ((a + p) / 2) = a + p by omega, Nat.add_mod_right]
  · rw [show 2 * (a / 2) = a by omega]
/-- The words of half a number of 256 bits and one. -/
noncomputable def hwd (a c i : Nat) : Nat := veil (limb a i / 2 + (if i < 3 then limb a (i + 1) % 2 else c) * 9223372036854775808)
theorem hwd_eq (a c i : Nat) : hwd a c i = limb a i / 2 + (if i < 3 then limb a (i + 1) % 2 else c) * 9223372036854775808 := veil_eq _
theorem hwd_lt {c : Nat} (a i : Nat) (hc : c ≤ 1) : hwd a c i < B64 := by
  have := limb_lt a i
  rw [hwd_eq]
  unfold B64 at *
  split <;> omega
theorem hwd_num {a c : Nat} (ha : a < B256) (_hc : c ≤ 1) : val4 (hwd a c 0) (hwd a c 1) (hwd a c 2) (hwd a c 3) = (a + c * B256) / 2 := by
  have e := val4_limb ha
  simp only [hwd_eq]
  rw [if_pos (by omega), if_pos (by omega), if_pos (by omega), if_neg (by omega)]
  have l0 := limb_lt a 0
  have l1 := limb_lt a 1
  have l2 := limb_lt a 2
  have l3 := limb_lt a 3
  generalize limb a 0 = x0 at *
  generalize limb a 1 = x1 at *
  generalize limb a 2 = x2 at *
  generalize limb a 3 = x3 at *
  unfold val4 at *
  unfold B256 B64 at *
  omega
theorem hlf_odd {p a : Nat} (h : a % 2 = 1) (_hp : p < B256) (_ha : a < B256) : (sum a p + cry a p * B256) / 2 = hlf p a := by
  rw [hlf_eq, if_pos h, sum_eq, cry_eq]
  unfold B256 at *
  omega
theorem hlf_even {p a : Nat} (h : ¬ a % 2 = 1) : (a + 0 * B256) / 2 = hlf p a := by rw [hlf_eq, if_neg h]; omega
theorem limb_par (a : Nat) : limb a 0 % 2 = a % 2 := by rw [limb0]; omega
/-- Halved again and again. -/
noncomputable def hv (p a : Nat) : Nat → Nat
  | 0 => a
  | k + 1 => hlf p (hv p a k)
theorem hv_lt {p a : Nat} (hodd : p % 2 = 1) (ha : a < p) : ∀ k, hv p a k < p
  | 0 => ha
  | k + 1 => hlf_lt hodd (hv_lt hodd ha k)
theorem hv_pow {p a : Nat} (hodd : p % 2 = 1) : ∀ k, 2 ^ k * hv p a k % p = a % p
  | 0 => by rw [Nat.pow_zero, Nat.one_mul]; rfl
  | k + 1 => by
    have e := hlf_two (hv p a k) hodd
    rw [Nat.pow_succ, Nat.mul_assoc, show hv p a (k + 1) = hlf p (hv p a k) from rfl, Nat.mul_mod, e, ← Nat.mul_mod, hv_pow hodd k]
theorem hv_value {p a : Nat} (hodd : p % 2 = 1) (h : ∃ y, B256 * y % p = 1) (ha : a < p) : hv p a 256 = valm p a := by
  have e := hv_pow (a := a) hodd 256
  have hl := hv_lt hodd ha 256
  have hB : (2 : Nat) ^ 256 = B256 := by decide
  rw [hB] at e
  generalize hv p a 256 = x at *
  rw [valm_eq, Nat.mul_mod, ← e, ← Nat.mul_mod, Nat.mul_right_comm, Nat.mul_mod, rinv_eq h, Nat.one_mul, Nat.mod_mod, Nat.mod_eq_of_lt hl]
theorem FieldOK.odd {m inv : Nat} (h : FieldOK m inv) : m % 2 = 1 := by
  obtain ⟨_, _, h, _, _⟩ := h
  have e : limb m 0 * inv % 2 = 1 := by omega
  rw [← limb_par]
  rw [Nat.mul_mod] at e
  by_cases h0 : limb m 0 % 2 = 1
  · exact h0
  · rw [show limb m 0 % 2 = 0 by omega] at e; simp at e
theorem form_eq {p : Nat} (v : Nat) : mulm p (powm p 2 256) v = frm p v := by
  rw [mulm_eq, powm_eq, frm_eq, Nat.mod_mul_mod]
  rfl
/-- The constants of the two fields. -/
def fP (s : Bool) : Nat := if s then P2 else P1
def fI (s : Bool) : Nat := if s then I2 else I1
def fO (s : Bool) : Nat := if s then O2 else O1
def fS (s : Bool) : Nat := if s then S2 else S1
def fID (s : Bool) : Int := if s then 2 else 1
noncomputable abbrev FV (s : Bool) : Value := fld (fID s) (fP s) (fI s) (fO s) (fS s)
theorem fOK (s : Bool) : FieldOK (fP s) (fI s) := by cases s; exact fieldOK_1; exact fieldOK_2
theorem fP_lt (s : Bool) : fP s < B256 := (fOK s).1
theorem fP_two (s : Bool) : 2 < fP s := (fOK s).2.1
theorem fP_odd (s : Bool) : fP s % 2 = 1 := (fOK s).odd
theorem fP_inv (s : Bool) : ∃ y, B256 * y % fP s = 1 := (fOK s).2.2.2.1
theorem fO_eq (s : Bool) : fO s = frm (fP s) 1 := by
  rw [← form_eq]
  cases s
  · show O1 = mulm P1 (powm P1 2 256) 1
    rw [radix_P1, mulm_one _ _ (by decide)]
  · show O2 = mulm P2 (powm P2 2 256) 1
    rw [radix_P2, mulm_one _ _ (by decide)]
end Go.Proofs.YtfaicnileghjiaaDoor
