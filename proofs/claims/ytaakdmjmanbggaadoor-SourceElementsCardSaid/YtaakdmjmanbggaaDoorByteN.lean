/-
  Bytes as numbers: words of eight bytes, numbers of four words, and what 64 bytes are modulo p. Plain.
-/
import Derived.Test.YtaakdmjmanbggaaDoorPlainN
namespace Go.Proofs.YtaakdmjmanbggaaDoor

/-- k bytes from o on, the first one the least. -/
def wsum (l : List Nat) (o : Nat) : Nat → Nat
  | 0 => 0
  | k + 1 => wsum l o k + l.getD (o + k) 0 * 256 ^ k
/-- Bytes. -/
def Byt (l : List Nat) : Prop := ∀ x ∈ l, x < 256
theorem Byt.getD {l : List Nat} (h : Byt l) (i : Nat) : l.getD i 0 < 256 := by
  by_cases hi : i < l.length
  · rw [List.getD_eq_getElem?_getD, List.getElem?_eq_getElem hi]; exact h _ (List.getElem_mem hi)
  · rw [List.getD_eq_getElem?_getD, List.getElem?_eq_none (by omega)]; decide
theorem Byt.take {l : List Nat} (h : Byt l) (n : Nat) : Byt (l.take n) := fun x hx => h x (List.mem_of_mem_take hx)
theorem Byt.drop {l : List Nat} (h : Byt l) (n : Nat) : Byt (l.drop n) := fun x hx => h x (List.mem_of_mem_drop hx)
theorem wsum_lt {l : List Nat} (h : Byt l) (o : Nat) : ∀ k, wsum l o k < 256 ^ k
  | 0 => by unfold wsum; decide
  | k + 1 => by
    have h1 := wsum_lt h o k
    have h2 := h.getD (o + k)
    have h3 : (l.getD (o + k) 0 + 1) * 256 ^ k ≤ 256 * 256 ^ k := Nat.mul_le_mul_right _ h2
    rw [Nat.add_mul, Nat.one_mul] at h3
    rw [Nat.pow_succ, Nat.mul_comm _ 256]
    show wsum l o k + _ < _
    omega
noncomputable def wd (l : List Nat) (o k : Nat) : Nat := veil (wsum l o k)
theorem wd_eq (l : List Nat) (o k : Nat) : wd l o k = wsum l o k := veil_eq _
theorem wd_zero (l : List Nat) (o : Nat) : wd l o 0 = 0 := by rw [wd_eq]; rfl
theorem wd_add (l : List Nat) (o k : Nat) : wd l o (k + 1) = wd l o k + l.getD (o + k) 0 * 256 ^ k := by rw [wd_eq, wd_eq]; rfl
theorem wd_pow {l : List Nat} (h : Byt l) (o k : Nat) : wd l o k < 256 ^ k := by rw [wd_eq]; exact wsum_lt h o k
theorem wd_lt {l : List Nat} (h : Byt l) (o : Nat) {k : Nat} (hk : k ≤ 8) : wd l o k < B64 := by
  have h1 := wd_pow h o k
  have h2 : 256 ^ k ≤ 256 ^ 8 := Nat.pow_le_pow_right (by decide) hk
  have h3 : 256 ^ 8 = B64 := by decide
  omega
theorem byte_pow {x k : Nat} (hx : x < 256) (hk : k < 8) : x * 256 ^ k < B64 := by
  have h2 : 256 ^ (k + 1) ≤ 256 ^ 8 := Nat.pow_le_pow_right (by decide) hk
  have h3 : 256 ^ 8 = B64 := by decide
  have h4 : (x + 1) * 256 ^ k ≤ 256 * 256 ^ k := Nat.mul_le_mul_right _ hx
  have h5 : 0 < 256 ^ k := Nat.pow_pos (by decide)
  rw [Nat.add_mul, Nat.one_mul] at h4
  rw [Nat.pow_succ] at h2
  omega
theorem wd_or {l : List Nat} (h : Byt l) (o k : Nat) : wd l o k ||| l.getD (o + k) 0 * 256 ^ k = wd l o (k + 1) := by
  have h1 : wd l o k < 2 ^ (8 * k) := by rw [Nat.pow_mul]; exact wd_pow h o k
  have h2 := Nat.two_pow_add_eq_or_of_lt h1 (l.getD (o + k) 0)
  rw [Nat.pow_mul, show (2 : Nat) ^ 8 = 256 from rfl] at h2
  rw [wd_add, Nat.or_comm, Nat.mul_comm, ← h2, Nat.add_comm]
theorem wd_bits {l : List Nat} (h : Byt l) (o : Nat) {k : Nat} (hk : k < 8) :
    bits .or .u64 (wd l o k : Int) (IntKind.u64.wrap ((l.getD (o + k) 0 : Int) * 2 ^ (8 * k))) = (wd l o (k + 1) : Int) := by
  have h1 := byte_pow (h.getD (o + k)) hk
  have h2 : IntKind.u64.wrap ((l.getD (o + k) 0 : Int) * 2 ^ (8 * k)) = ((l.getD (o + k) 0 * 256 ^ k : Nat) : Int) := by
    have e : ((l.getD (o + k) 0 : Int) * 2 ^ (8 * k)) = ((l.getD (o + k) 0 * 256 ^ k : Nat) : Int) := by
      rw [Int.natCast_mul, Int.natCast_pow, Int.pow_mul]; rfl
    rw [e, IntKind.wrap_u64]
    unfold B64 at h1
    omega
  rw [h2, bits_or_nat _ _ (wd_lt h o (by omega)) h1, wd_or h]
/-- 32 bytes as a number. -/
noncomputable def num (l : List Nat) : Nat := veil (val4 (wd l 0 8) (wd l 8 8) (wd l 16 8) (wd l 24 8))
theorem num_eq (l : List Nat) : num l = val4 (wd l 0 8) (wd l 8 8) (wd l 16 8) (wd l 24 8) := veil_eq _
theorem num_lt {l : List Nat} (h : Byt l) : num l < B256 := by
  rw [num_eq]; exact val4_lt (wd_lt h _ (by decide)) (wd_lt h _ (by decide)) (wd_lt h _ (by decide)) (wd_lt h _ (by decide))
theorem num_vec {l : List Nat} (h : Byt l) : (.agg #[.int .u64 (wd l 0 8 : Int), .int .u64 (wd l 8 8 : Int), .int .u64 (wd l 16 8 : Int), .int .u64 (wd l 24 8 : Int)] : Value) = vec (num l) := by
  rw [num_eq]; exact vec_words (wd_lt h _ (by decide)) (wd_lt h _ (by decide)) (wd_lt h _ (by decide)) (wd_lt h _ (by decide))
/-- What 64 bytes are modulo p. -/
noncomputable def wid (p : Nat) (l : List Nat) : Nat := addm p (num (l.take 32)) (frm p (num (l.drop 32)))
theorem wid_lt {p : Nat} (l : List Nat) (h : 0 < p) : wid p l < p := addm_lt _ _ h
theorem addm_mod (p a b : Nat) : addm p (a % p) b = addm p a b := by rw [addm_eq, addm_eq, Nat.mod_add_mod]
theorem fS_eq (s : Bool) : fS s = B256 * B256 % fP s := by
  have h : ∀ p o q : Nat, powm p 2 256 = o → mulm p o o = q → q = B256 * B256 % p := fun p o q h1 h2 => by
    rw [← h2, ← h1, mulm_eq, powm_eq, ← Nat.mul_mod]; rfl
  cases s
  · exact h P1 O1 S1 radix_P1 square_P1
  · exact h P2 O2 S2 radix_P2 square_P2
theorem fS_lt (s : Bool) : fS s < fP s := by rw [fS_eq]; exact Nat.mod_lt _ (by have := fP_two s; omega)
theorem mont_S (s : Bool) (v : Nat) : mont (fP s) v (fS s) = frm (fP s) v := by
  have hr := rinv_eq (fP_inv s)
  rw [mont_eq, frm_eq, fS_eq]
  generalize fP s = m at *
  generalize rinv m = r at *
  have e1 : v * (B256 * B256 % m) * r % m = v * (B256 * B256) * r % m := by
    rw [← Nat.mod_mul_mod, Nat.mul_mod_mod, Nat.mod_mul_mod]
  have e2 : v * (B256 * B256) * r = (B256 * v) * (B256 * r) := by
    rw [Nat.mul_assoc v, Nat.mul_assoc B256 B256, Nat.mul_left_comm v B256, Nat.mul_assoc B256 v]
  rw [e1, e2, Nat.mul_mod, hr, Nat.mul_one, Nat.mod_mod]
/-- The program's way to the form of 64 bytes. -/
theorem wid_frm (s : Bool) (l : List Nat) : addm (fP s) (frm (fP s) (num (l.take 32))) (mont (fP s) (frm (fP s) (num (l.drop 32))) (fS s)) = frm (fP s) (wid (fP s) l) := by
  rw [mont_S, frm_addm]; rfl
/-- The reference's way. -/
theorem wid_ref (p : Nat) (l : List Nat) : addm p (num (l.take 32) % p) (mulm p (powm p 2 256) (num (l.drop 32) % p)) = wid p l := by
  rw [addm_mod, form_eq, frm_mod]; rfl
/-- One byte 1, the others 0: the number 1. -/
theorem wid_one {p : Nat} (hp : 2 < p) : wid p ((1 :: List.replicate 70 0).take 64) = 1 := by
  have h1 : num (((1 :: List.replicate 70 0).take 64).take 32) = 1 := by rw [num_eq]; simp only [wd_eq]; rfl
  have h2 : num (((1 :: List.replicate 70 0).take 64).drop 32) = 0 := by rw [num_eq]; simp only [wd_eq]; rfl
  unfold wid
  rw [h1, h2, frm_zero, addm_eq]; exact Nat.mod_eq_of_lt (by omega)
end Go.Proofs.YtaakdmjmanbggaaDoor
