/-
  Powers by windows of four bits; whether words are zero: plain.
-/
import Derived.Test.YtogenbggjodcnaaDoorPlainN
import Derived.Laws.Bits64b
namespace Go.Proofs.YtogenbggjodcnaaDoor

/-- All words united. -/
noncomputable def orl (l : List Nat) : Nat := veil (l.foldl (· ||| ·) 0)
theorem orl_nil : orl [] = 0 := veil_eq _
theorem orl_snoc (l : List Nat) (x : Nat) : orl (l ++ [x]) = orl l ||| x := by unfold orl; rw [veil_eq, veil_eq, List.foldl_append]; rfl
theorem orl_take {l : List Nat} {k x : Nat} (h : l[k]? = some x) : orl (l.take (k + 1)) = orl (l.take k) ||| x := by
  have hk : k < l.length := (List.getElem?_eq_some_iff.1 h).1
  rw [List.take_succ_eq_append_getElem hk, orl_snoc]
  rw [List.getElem?_eq_getElem hk] at h; cases h; rfl
theorem or_zero (a b : Nat) : a ||| b = 0 ↔ a = 0 ∧ b = 0 := by
  constructor
  · intro h
    have h1 : a ≤ a ||| b := Nat.left_le_or
    have h2 : b ≤ a ||| b := Nat.right_le_or
    omega
  · rintro ⟨rfl, rfl⟩; rfl
theorem orl_lt {l : List Nat} (h : ∀ x ∈ l, x < B64) : orl l < B64 := by
  unfold orl; rw [veil_eq]
  have key : ∀ (l : List Nat) (a : Nat), a < B64 → (∀ x ∈ l, x < B64) → l.foldl (· ||| ·) a < B64 := by
    intro l
    induction l with
    | nil => intro a ha _; exact ha
    | cons x l ih => intro a ha h; exact ih _ (Nat.or_lt_two_pow (n := 64) ha (h x (by simp))) (fun y hy => h y (by simp [hy]))
  exact key l 0 (by decide) h
theorem orl_zero (l : List Nat) : orl l = 0 ↔ ∀ x ∈ l, x = 0 := by
  unfold orl; rw [veil_eq]
  have key : ∀ (l : List Nat) (a : Nat), l.foldl (· ||| ·) a = 0 ↔ a = 0 ∧ ∀ x ∈ l, x = 0 := by
    intro l
    induction l with
    | nil => intro a; simp
    | cons x l ih => intro a; rw [List.foldl_cons, ih, or_zero]; simp [and_assoc]
  rw [key]; simp
/-- The mask of whether a word is zero. -/
noncomputable def zmk (u : Nat) : Nat := veil (if u = 0 then 18446744073709551615 else 0)
theorem zmk_eq (u : Nat) : zmk u = if u = 0 then 18446744073709551615 else 0 := veil_eq _
theorem zmk_lt (u : Nat) : zmk u < B64 := by rw [zmk_eq]; unfold B64; split <;> omega
/-- The bit of whether a word is zero. -/
noncomputable def zbt (u : Nat) : Nat := veil (if u = 0 then 1 else 0)
theorem zbt_eq (u : Nat) : zbt u = if u = 0 then 1 else 0 := veil_eq _
theorem zbt_lt (u : Nat) : zbt u < B64 := by rw [zbt_eq]; unfold B64; split <;> omega
theorem msk_zbt (u : Nat) : msk (zbt u) = zmk u := by rw [msk_eq, zbt_eq, zmk_eq]; split <;> rfl
theorem or_neg (u : Nat) (hu : u < 18446744073709551616) : (u ||| ((18446744073709551616 - u) % 18446744073709551616)) / 9223372036854775808 = if u = 0 then 0 else 1 := by
  by_cases h : u = 0
  · subst h; rfl
  · rw [if_neg h, Nat.mod_eq_of_lt (by omega)]
    have h1 : u ≤ u ||| (18446744073709551616 - u) := Nat.left_le_or
    have h2 : 18446744073709551616 - u ≤ u ||| (18446744073709551616 - u) := Nat.right_le_or
    have h3 : u ||| (18446744073709551616 - u) < 2 ^ 64 := Nat.or_lt_two_pow hu (by omega)
    omega
theorem xor_zero (a b : Nat) : a ^^^ b = 0 ↔ a = b := by
  constructor
  · intro h
    have e : a ^^^ (a ^^^ b) = b := by rw [← Nat.xor_assoc, Nat.xor_self, Nat.zero_xor]
    rw [h, Nat.xor_zero] at e; exact e
  · rintro rfl; exact Nat.xor_self a
theorem pick_zmk (u a b : Nat) : pick (zmk u) a b = if u = 0 then a else b := by rw [pick_eq, zmk_eq]; by_cases h : u = 0 <;> simp [h]
/-- The window number i of four bits; what stands above. -/
noncomputable def nib (e i : Nat) : Nat := veil (e / 16 ^ i % 16)
theorem nib_eq (e i : Nat) : nib e i = e / 16 ^ i % 16 := veil_eq _
theorem nib_lt (e i : Nat) : nib e i < 16 := by rw [nib_eq]; omega
noncomputable def wtop (e i : Nat) : Nat := veil (e / 16 ^ i)
theorem wtop_eq (e i : Nat) : wtop e i = e / 16 ^ i := veil_eq _
theorem wtop_zero (e : Nat) : wtop e 0 = e := by rw [wtop_eq]; simp
theorem wtop_64 {e : Nat} (he : e < B256) : wtop e 64 = 0 := by
  rw [wtop_eq]; exact Nat.div_eq_of_lt (by unfold B256 at he; exact he)
theorem wtop_step (e i : Nat) : wtop e i = 16 * wtop e (i + 1) + nib e i := by
  rw [wtop_eq, wtop_eq, nib_eq, Nat.pow_succ, ← Nat.div_div_eq_div_mul]; omega
theorem pow_window (p a e i : Nat) : mulm p (powm p a (16 * wtop e (i + 1))) (powm p a (nib e i)) = powm p a (wtop e i) := by
  rw [powm_add, ← wtop_step]
theorem pow_double (p a k : Nat) : mulm p (powm p a k) (powm p a k) = powm p a (2 * k) := by rw [powm_add, show k + k = 2 * k by omega]
theorem powm_step {p a : Nat} (ha : a < p) (k : Nat) : mulm p (powm p a k) a = powm p a (k + 1) := by
  rw [← powm_add, powm_one ha]
/-- The low four bits of a word and of the words behind it. -/
theorem nib_word {e q s : Nat} (hs : s % 4 = 0) (hs2 : s < 64) (x : Nat) :
    ((limb e q / 2 ^ s) ||| (x * 2 ^ (64 - s) % 18446744073709551616)) % 16 = nib e ((64 * q + s) / 4) := by
  have h1 : x * 2 ^ (64 - s) % 18446744073709551616 % 16 = 0 := by
    have e1 : x * 2 ^ (64 - s) % 18446744073709551616 % 16 = x * 2 ^ (64 - s) % 16 := Nat.mod_mod_of_dvd _ ⟨1152921504606846976, rfl⟩
    rw [e1]
    obtain ⟨r, hr⟩ : ∃ r, 64 - s = r + 4 := ⟨60 - s, by omega⟩
    rw [hr, Nat.pow_add, ← Nat.mul_assoc]
    show x * 2 ^ r * 16 % 16 = 0
    exact Nat.mul_mod_left _ _
  have h2 : ∀ a b : Nat, (a ||| b) % 16 = (a % 16) ||| (b % 16) := fun a b => by
    have := Nat.or_mod_two_pow (a := a) (b := b) (n := 4)
    exact this
  rw [h2, h1, Nat.or_zero, limb_eq, nib_eq]
  unfold B64
  have e2 : e / 2 ^ (64 * q) % 18446744073709551616 / 2 ^ s % 16 = e / 2 ^ (64 * q) / 2 ^ s % 16 := by
    have e3 : (18446744073709551616 : Nat) = 2 ^ s * 2 ^ (64 - s) := by rw [← Nat.pow_add, show s + (64 - s) = 64 by omega]
    rw [e3, Nat.mod_mul_right_div_self]
    obtain ⟨r, hr⟩ : ∃ r, 64 - s = r + 4 := ⟨60 - s, by omega⟩
    rw [hr, Nat.pow_add, show (2 : Nat) ^ 4 = 16 from rfl]
    exact Nat.mod_mod_of_dvd _ ⟨2 ^ r, Nat.mul_comm _ _⟩
  rw [e2, Nat.div_div_eq_div_mul, ← Nat.pow_add]
  congr 2
  have e4 : 64 * q + s = 4 * ((64 * q + s) / 4) := by omega
  conv => lhs; rw [e4, Nat.pow_mul]
end Go.Proofs.YtogenbggjodcnaaDoor
