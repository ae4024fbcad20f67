/-
  Numbers of four words, sums and products modulo p, Montgomery forms, polynomials with whole coefficients: plain.
-/
import GoSem.Core.Value
import Derived.Laws.BitsAll
import Derived.Laws.Bits64
/-
  Numbers of 256 bits as four words: plain arithmetic, no program.
-/
namespace Go.Proofs.YtogenbggjodcnaaDoor

/-- 2^64 and 2^256. -/
def B64 : Nat := 18446744073709551616
def B256 : Nat := 115792089237316195423570985008687907853269984665640564039457584007913129639936

/-- A function shut to simp and to the kernel: equal to x, and no more is seen of it. -/
noncomputable def veil (x : Nat) : Nat := Classical.choose (⟨x, rfl⟩ : ∃ n, n = x)
theorem veil_eq (x : Nat) : veil x = x := Classical.choose_spec (⟨x, rfl⟩ : ∃ n, n = x)

/-- The i-th word of a number. -/
noncomputable def limb (n i : Nat) : Nat := veil (n / 2 ^ (64 * i) % B64)
theorem limb_eq (n i : Nat) : limb n i = n / 2 ^ (64 * i) % B64 := veil_eq _
theorem limb_lt (n i : Nat) : limb n i < B64 := by rw [limb_eq]; exact Nat.mod_lt _ (by decide)

/-- A number as Go's [4]uint64. -/
noncomputable abbrev vec (n : Nat) : Value := .agg #[.int .u64 (limb n 0 : Int), .int .u64 (limb n 1 : Int), .int .u64 (limb n 2 : Int), .int .u64 (limb n 3 : Int)]

def val4 (a b c d : Nat) : Nat := a + 18446744073709551616 * b + 340282366920938463463374607431768211456 * c + 6277101735386680763835789423207666416102355444464034512896 * d

theorem limb0 (n : Nat) : limb n 0 = n % 18446744073709551616 := by rw [limb_eq, B64]; omega
theorem limb1 (n : Nat) : limb n 1 = n / 18446744073709551616 % 18446744073709551616 := by rw [limb_eq, B64]
theorem limb2 (n : Nat) : limb n 2 = n / 340282366920938463463374607431768211456 % 18446744073709551616 := by rw [limb_eq, B64]
theorem limb3 (n : Nat) : limb n 3 = n / 6277101735386680763835789423207666416102355444464034512896 % 18446744073709551616 := by rw [limb_eq, B64]

theorem val4_lt {a b c d : Nat} (ha : a < B64) (hb : b < B64) (hc : c < B64) (hd : d < B64) : val4 a b c d < B256 := by
  unfold B64 at *; unfold val4 B256; omega
theorem limb_val4 {a b c d : Nat} (ha : a < B64) (hb : b < B64) (hc : c < B64) (hd : d < B64) :
    limb (val4 a b c d) 0 = a ∧ limb (val4 a b c d) 1 = b ∧ limb (val4 a b c d) 2 = c ∧ limb (val4 a b c d) 3 = d := by
  unfold B64 at *
  rw [limb0, limb1, limb2, limb3]; unfold val4
  omega
theorem val4_limb {n : Nat} (h : n < B256) : val4 (limb n 0) (limb n 1) (limb n 2) (limb n 3) = n := by
  unfold B256 at h
  rw [limb0, limb1, limb2, limb3]; unfold val4
  omega
theorem vec_words {a b c d : Nat} (ha : a < B64) (hb : b < B64) (hc : c < B64) (hd : d < B64) :
    (.agg #[.int .u64 (a : Int), .int .u64 (b : Int), .int .u64 (c : Int), .int .u64 (d : Int)] : Value) = vec (val4 a b c d) := by
  obtain ⟨h0, h1, h2, h3⟩ := limb_val4 ha hb hc hd
  rw [vec, h0, h1, h2, h3]
theorem vec_inj {m n : Nat} (hm : m < B256) (hn : n < B256) (h0 : limb m 0 = limb n 0) (h1 : limb m 1 = limb n 1) (h2 : limb m 2 = limb n 2) (h3 : limb m 3 = limb n 3) : m = n := by
  rw [← val4_limb hm, ← val4_limb hn, h0, h1, h2, h3]

/-! Sum and difference, word by word. -/
/-- Difference and borrow of two words and a borrow. -/
noncomputable def nsd (x y c : Nat) : Nat := veil ((x + 18446744073709551616 - y - c) % 18446744073709551616)
theorem nsd_eq (x y c : Nat) : nsd x y c = (x + 18446744073709551616 - y - c) % 18446744073709551616 := veil_eq _
noncomputable def nsb (x y c : Nat) : Nat := veil (if x < y + c then 1 else 0)
theorem nsb_eq (x y c : Nat) : nsb x y c = if x < y + c then 1 else 0 := veil_eq _
theorem nsb_le (x y c : Nat) : nsb x y c ≤ 1 := by rw [nsb_eq]; split <;> omega
theorem nsd_lt (x y c : Nat) : nsd x y c < B64 := by rw [nsd_eq]; exact Nat.mod_lt _ (by decide)
/-- Sum and carry of two words and a carry. -/
noncomputable def nas (x y c : Nat) : Nat := veil ((x + y + c) % 18446744073709551616)
theorem nas_eq (x y c : Nat) : nas x y c = (x + y + c) % 18446744073709551616 := veil_eq _
noncomputable def nac (x y c : Nat) : Nat := veil ((x + y + c) / 18446744073709551616)
theorem nac_eq (x y c : Nat) : nac x y c = (x + y + c) / 18446744073709551616 := veil_eq _
theorem nas_lt (x y c : Nat) : nas x y c < B64 := by rw [nas_eq]; exact Nat.mod_lt _ (by decide)
theorem nac_le {x y c : Nat} (hx : x < B64) (hy : y < B64) (hc : c ≤ 1) : nac x y c ≤ 1 := by rw [nac_eq]; unfold B64 at *; omega

/-- The borrows of a difference, word by word; the carries of a sum. -/
noncomputable def bor (a b : Nat → Nat) : Nat → Nat
  | 0 => 0
  | k + 1 => nsb (a k) (b k) (bor a b k)
noncomputable def car (a b : Nat → Nat) : Nat → Nat
  | 0 => 0
  | k + 1 => nac (a k) (b k) (car a b k)
theorem bor_le (a b : Nat → Nat) (k : Nat) : bor a b k ≤ 1 := by
  cases k
  · simp [bor]
  · exact nsb_le _ _ _
theorem car_le {a b : Nat → Nat} (ha : ∀ i, a i < B64) (hb : ∀ i, b i < B64) (k : Nat) : car a b k ≤ 1 := by
  induction k with
  | zero => simp [car]
  | succ k ih => exact nac_le (ha k) (hb k) ih

/-- The difference modulo 2^256, and whether it is negative; the sum modulo 2^256, and its carry. -/
noncomputable def dif (a b : Nat) : Nat := veil ((a + B256 - b) % B256)
theorem dif_eq (a b : Nat) : dif a b = (a + B256 - b) % B256 := veil_eq _
noncomputable def brw (a b : Nat) : Nat := veil (if a < b then 1 else 0)
theorem brw_eq (a b : Nat) : brw a b = if a < b then 1 else 0 := veil_eq _
noncomputable def sum (a b : Nat) : Nat := veil ((a + b) % B256)
theorem sum_eq (a b : Nat) : sum a b = (a + b) % B256 := veil_eq _
noncomputable def cry (a b : Nat) : Nat := veil ((a + b) / B256)
theorem cry_eq (a b : Nat) : cry a b = (a + b) / B256 := veil_eq _
theorem dif_lt (a b : Nat) : dif a b < B256 := by rw [dif_eq]; exact Nat.mod_lt _ (by decide)
theorem sum_lt (a b : Nat) : sum a b < B256 := by rw [sum_eq]; exact Nat.mod_lt _ (by decide)
theorem brw_le (a b : Nat) : brw a b ≤ 1 := by rw [brw_eq]; split <;> omega
theorem cry_le {a b : Nat} (ha : a < B256) (hb : b < B256) : cry a b ≤ 1 := by rw [cry_eq]; unfold B256 at *; omega

theorem nsd_step (x y c : Nat) (hx : x < B64) (hy : y < B64) (hc : c ≤ 1) : nsd x y c + y + c = x + 18446744073709551616 * nsb x y c ∧ nsd x y c < 18446744073709551616 := by
  rw [nsd_eq, nsb_eq]; unfold B64 at *; split <;> omega
theorem nas_step (x y c : Nat) : nas x y c + 18446744073709551616 * nac x y c = x + y + c ∧ nas x y c < 18446744073709551616 := by
  rw [nas_eq, nac_eq]; omega

theorem dif_words {a b : Nat} (ha : a < B256) (hb : b < B256) :
    val4 (nsd (limb a 0) (limb b 0) (bor (limb a) (limb b) 0)) (nsd (limb a 1) (limb b 1) (bor (limb a) (limb b) 1)) (nsd (limb a 2) (limb b 2) (bor (limb a) (limb b) 2)) (nsd (limb a 3) (limb b 3) (bor (limb a) (limb b) 3)) = dif a b ∧ bor (limb a) (limb b) 4 = brw a b := by
  have ea := val4_limb ha
  have eb := val4_limb hb
  have s0 := nsd_step (limb a 0) (limb b 0) (bor (limb a) (limb b) 0) (limb_lt _ _) (limb_lt _ _) (bor_le _ _ _)
  have s1 := nsd_step (limb a 1) (limb b 1) (bor (limb a) (limb b) 1) (limb_lt _ _) (limb_lt _ _) (bor_le _ _ _)
  have s2 := nsd_step (limb a 2) (limb b 2) (bor (limb a) (limb b) 2) (limb_lt _ _) (limb_lt _ _) (bor_le _ _ _)
  have s3 := nsd_step (limb a 3) (limb b 3) (bor (limb a) (limb b) 3) (limb_lt _ _) (limb_lt _ _) (bor_le _ _ _)
  have l4 := bor_le (limb a) (limb b) 4
  have e0 : bor (limb a) (limb b) 0 = 0 := rfl
  have e1 : nsb (limb a 0) (limb b 0) (bor (limb a) (limb b) 0) = bor (limb a) (limb b) 1 := rfl
  have e2 : nsb (limb a 1) (limb b 1) (bor (limb a) (limb b) 1) = bor (limb a) (limb b) 2 := rfl
  have e3 : nsb (limb a 2) (limb b 2) (bor (limb a) (limb b) 2) = bor (limb a) (limb b) 3 := rfl
  have e4 : nsb (limb a 3) (limb b 3) (bor (limb a) (limb b) 3) = bor (limb a) (limb b) 4 := rfl
  rw [e1] at s0; rw [e2] at s1; rw [e3] at s2; rw [e4] at s3
  rw [dif_eq, brw_eq]
  generalize nsd (limb a 0) (limb b 0) (bor (limb a) (limb b) 0) = d0 at *
  generalize nsd (limb a 1) (limb b 1) (bor (limb a) (limb b) 1) = d1 at *
  generalize nsd (limb a 2) (limb b 2) (bor (limb a) (limb b) 2) = d2 at *
  generalize nsd (limb a 3) (limb b 3) (bor (limb a) (limb b) 3) = d3 at *
  generalize bor (limb a) (limb b) 1 = c1 at *
  generalize bor (limb a) (limb b) 2 = c2 at *
  generalize bor (limb a) (limb b) 3 = c3 at *
  generalize bor (limb a) (limb b) 4 = c4 at *
  generalize bor (limb a) (limb b) 0 = c0 at *
  unfold val4 at *
  unfold B256 at *
  split <;> omega
theorem sum_words {a b : Nat} (ha : a < B256) (hb : b < B256) :
    val4 (nas (limb a 0) (limb b 0) (car (limb a) (limb b) 0)) (nas (limb a 1) (limb b 1) (car (limb a) (limb b) 1)) (nas (limb a 2) (limb b 2) (car (limb a) (limb b) 2)) (nas (limb a 3) (limb b 3) (car (limb a) (limb b) 3)) = sum a b ∧ car (limb a) (limb b) 4 = cry a b := by
  have ea := val4_limb ha
  have eb := val4_limb hb
  have s0 := nas_step (limb a 0) (limb b 0) (car (limb a) (limb b) 0)
  have s1 := nas_step (limb a 1) (limb b 1) (car (limb a) (limb b) 1)
  have s2 := nas_step (limb a 2) (limb b 2) (car (limb a) (limb b) 2)
  have s3 := nas_step (limb a 3) (limb b 3) (car (limb a) (limb b) 3)
  have l4 := car_le (limb_lt a) (limb_lt b) 4
  have e0 : car (limb a) (limb b) 0 = 0 := rfl
  have e1 : nac (limb a 0) (limb b 0) (car (limb a) (limb b) 0) = car (limb a) (limb b) 1 := rfl
  have e2 : nac (limb a 1) (limb b 1) (car (limb a) (limb b) 1) = car (limb a) (limb b) 2 := rfl
  have e3 : nac (limb a 2) (limb b 2) (car (limb a) (limb b) 2) = car (limb a) (limb b) 3 := rfl
  have e4 : nac (limb a 3) (limb b 3) (car (limb a) (limb b) 3) = car (limb a) (limb b) 4 := rfl
  rw [e1] at s0; rw [e2] at s1; rw [e3] at s2; rw [e4] at s3
  rw [sum_eq, cry_eq]
  generalize nas (limb a 0) (limb b 0) (car (limb a) (limb b) 0) = d0 at *
  generalize nas (limb a 1) (limb b 1) (car (limb a) (limb b) 1) = d1 at *
  generalize nas (limb a 2) (limb b 2) (car (limb a) (limb b) 2) = d2 at *
  generalize nas (limb a 3) (limb b 3) (car (limb a) (limb b) 3) = d3 at *
  generalize car (limb a) (limb b) 1 = c1 at *
  generalize car (limb a) (limb b) 2 = c2 at *
  generalize car (limb a) (limb b) 3 = c3 at *
  generalize car (limb a) (limb b) 4 = c4 at *
  generalize car (limb a) (limb b) 0 = c0 at *
  unfold val4 at *
  unfold B256 at *
  omega
/-- The words of a difference, of a sum, as Go's array. -/
theorem vec_dif {a b : Nat} (ha : a < B256) (hb : b < B256) :
    (.agg #[.int .u64 (nsd (limb a 0) (limb b 0) (bor (limb a) (limb b) 0) : Int), .int .u64 (nsd (limb a 1) (limb b 1) (bor (limb a) (limb b) 1) : Int), .int .u64 (nsd (limb a 2) (limb b 2) (bor (limb a) (limb b) 2) : Int), .int .u64 (nsd (limb a 3) (limb b 3) (bor (limb a) (limb b) 3) : Int)] : Value) = vec (dif a b) := by
  rw [vec_words (nsd_lt _ _ _) (nsd_lt _ _ _) (nsd_lt _ _ _) (nsd_lt _ _ _), (dif_words ha hb).1]
theorem vec_sum {a b : Nat} (ha : a < B256) (hb : b < B256) :
    (.agg #[.int .u64 (nas (limb a 0) (limb b 0) (car (limb a) (limb b) 0) : Int), .int .u64 (nas (limb a 1) (limb b 1) (car (limb a) (limb b) 1) : Int), .int .u64 (nas (limb a 2) (limb b 2) (car (limb a) (limb b) 2) : Int), .int .u64 (nas (limb a 3) (limb b 3) (car (limb a) (limb b) 3) : Int)] : Value) = vec (sum a b) := by
  rw [vec_words (nas_lt _ _ _) (nas_lt _ _ _) (nas_lt _ _ _) (nas_lt _ _ _), (sum_words ha hb).1]
/-- Subtract: less m, unless the number is less than m. -/
noncomputable def red (m a c : Nat) : Nat := veil (if c % 2 = 0 ∧ a < m then a else dif a m)
theorem red_eq (m a c : Nat) : red m a c = if c % 2 = 0 ∧ a < m then a else dif a m := veil_eq _
theorem red_lt (m : Nat) {a : Nat} (c : Nat) (ha : a < B256) : red m a c < B256 := by rw [red_eq]; split; exact ha; exact dif_lt _ _
/-- Sum, difference, product, remainder, power modulo p. -/
noncomputable def addm (p a b : Nat) : Nat := veil ((a + b) % p)
theorem addm_eq (p a b : Nat) : addm p a b = (a + b) % p := veil_eq _
noncomputable def subm (p a b : Nat) : Nat := veil ((a + p - b) % p)
theorem subm_eq (p a b : Nat) : subm p a b = (a + p - b) % p := veil_eq _
noncomputable def mulm (p a b : Nat) : Nat := veil (a * b % p)
theorem mulm_eq (p a b : Nat) : mulm p a b = a * b % p := veil_eq _
noncomputable def powm (p a e : Nat) : Nat := veil (a ^ e % p)
theorem powm_eq (p a e : Nat) : powm p a e = a ^ e % p := veil_eq _
theorem red_sum {p a b : Nat} (hp : p < B256) (ha : a < p) (hb : b < p) : red p (sum a b) (cry a b) = addm p a b := by
  rw [red_eq, dif_eq, sum_eq, cry_eq, addm_eq]
  unfold B256 at *
  by_cases h : a + b < p
  · rw [Nat.mod_eq_of_lt h, if_pos (by omega)]; omega
  · have e : (a + b) % p = a + b - p := by rw [Nat.mod_eq_sub_mod (by omega)]; exact Nat.mod_eq_of_lt (by omega)
    rw [e, if_neg (by omega)]; omega
theorem addm_lt {p : Nat} (a b : Nat) (hp : 0 < p) : addm p a b < p := by rw [addm_eq]; exact Nat.mod_lt _ hp
theorem subm_lt {p : Nat} (a b : Nat) (hp : 0 < p) : subm p a b < p := by rw [subm_eq]; exact Nat.mod_lt _ hp
theorem mulm_lt {p : Nat} (a b : Nat) (hp : 0 < p) : mulm p a b < p := by rw [mulm_eq]; exact Nat.mod_lt _ hp
theorem powm_lt {p : Nat} (a b : Nat) (hp : 0 < p) : powm p a b < p := by rw [powm_eq]; exact Nat.mod_lt _ hp
/-- The bit with the weight 2^i. -/
noncomputable def bit (a i : Nat) : Nat := veil (a / 2 ^ i % 2)
theorem bit_eq (a i : Nat) : bit a i = a / 2 ^ i % 2 := veil_eq _
/-- A word shifted. -/
noncomputable def shr (x k : Nat) : Nat := veil (x / 2 ^ k)
theorem shr_eq (x k : Nat) : shr x k = x / 2 ^ k := veil_eq _
theorem shr_zero (x : Nat) : shr x 0 = x := by rw [shr_eq]; simp
theorem shr_succ (x k : Nat) : shr x (k + 1) = shr x k / 2 := by rw [shr_eq, shr_eq, Nat.pow_succ, Nat.div_div_eq_div_mul]
theorem shr_lt {x : Nat} (k : Nat) (hx : x < B64) : shr x k < B64 := by rw [shr_eq]; exact Nat.lt_of_le_of_lt (Nat.div_le_self _ _) hx
theorem bit_limb (a i : Nat) : shr (limb a (i / 64)) (i % 64) % 2 = bit a i := by
  rw [shr_eq, bit_eq, limb_eq]
  have h : i = 64 * (i / 64) + i % 64 := by omega
  have e : B64 = 2 ^ 64 := rfl
  conv => rhs; rw [h, Nat.pow_add, ← Nat.div_div_eq_div_mul]
  generalize a / 2 ^ (64 * (i / 64)) = x
  have hr : i % 64 < 64 := Nat.mod_lt _ (by decide)
  generalize i % 64 = r at *
  rw [e]
  have e2 : (2 : Nat) ^ 64 = 2 ^ r * 2 * 2 ^ (63 - r) := by rw [← Nat.pow_succ, ← Nat.pow_add]; congr 1; omega
  rw [e2, Nat.mul_assoc, Nat.mod_mul_right_div_self, Nat.mod_mul_right_mod]
theorem bit_le (a i : Nat) : bit a i ≤ 1 := by rw [bit_eq]; omega
theorem bit_high {a i : Nat} (ha : a < B256) (hi : 256 ≤ i) : bit a i = 0 := by
  rw [bit_eq, Nat.div_eq_of_lt (Nat.lt_of_lt_of_le ha ?_)]
  have : (2 : Nat) ^ 256 ≤ 2 ^ i := Nat.pow_le_pow_right (by decide) hi
  exact this
/-- A product bit by bit, from the highest bit on. -/
theorem shr_bit (b k : Nat) : b / 2 ^ k = 2 * (b / 2 ^ (k + 1)) + bit b k := by
  rw [bit_eq, Nat.pow_succ, ← Nat.div_div_eq_div_mul]; omega
theorem mulm_zero (p a : Nat) : mulm p a 0 = 0 := by rw [mulm_eq]; simp
theorem addm_mulm (p a x y : Nat) : addm p (mulm p a x) (mulm p a y) = mulm p a (x + y) := by
  rw [addm_eq, mulm_eq, mulm_eq, mulm_eq, Nat.mul_add, ← Nat.add_mod]
theorem mulm_one (p a : Nat) (ha : a < p) : mulm p a 1 = a := by rw [mulm_eq, Nat.mul_one, Nat.mod_eq_of_lt ha]
theorem mulm_bit0 (p a b k : Nat) (h : bit b k = 0) : addm p (mulm p a (b / 2 ^ (k + 1))) (mulm p a (b / 2 ^ (k + 1))) = mulm p a (b / 2 ^ k) := by
  rw [addm_mulm, shr_bit b k, h]; congr 1; omega
theorem mulm_bit1 (p a b k : Nat) (ha : a < p) (h : bit b k = 1) : addm p (addm p (mulm p a (b / 2 ^ (k + 1))) (mulm p a (b / 2 ^ (k + 1)))) a = mulm p a (b / 2 ^ k) := by
  rw [addm_mulm]
  conv => lhs; rw [← mulm_one p a ha, mulm_one p a ha]
  have e : addm p (mulm p a (b / 2 ^ (k + 1) + b / 2 ^ (k + 1))) a = addm p (mulm p a (b / 2 ^ (k + 1) + b / 2 ^ (k + 1))) (mulm p a 1) := by rw [mulm_one p a ha]
  rw [e, addm_mulm, shr_bit b k, h]; congr 1; omega
/-- The number that the highest bits of b are. -/
noncomputable def top (b k : Nat) : Nat := veil (b / 2 ^ k)
theorem top_eq (b k : Nat) : top b k = b / 2 ^ k := veil_eq _
theorem top_zero (b : Nat) : top b 0 = b := by rw [top_eq]; simp
theorem top_256 {b : Nat} (hb : b < B256) : top b 256 = 0 := by rw [top_eq]; exact Nat.div_eq_of_lt hb
theorem top_bit0 (p a b k : Nat) (h : bit b k = 0) : addm p (mulm p a (top b (k + 1))) (mulm p a (top b (k + 1))) = mulm p a (top b k) := by
  rw [top_eq, top_eq]; exact mulm_bit0 p a b k h
theorem top_bit1 (p a b k : Nat) (ha : a < p) (h : bit b k = 1) : addm p (addm p (mulm p a (top b (k + 1))) (mulm p a (top b (k + 1)))) a = mulm p a (top b k) := by
  rw [top_eq, top_eq]; exact mulm_bit1 p a b k ha h
theorem vec_lit {n a b c d : Nat} (_hn : n < B256) (e : n = val4 a b c d) (ha : a < B64) (hb : b < B64) (hc : c < B64) (hd : d < B64) :
    (.agg #[.int .u64 (a : Int), .int .u64 (b : Int), .int .u64 (c : Int), .int .u64 (d : Int)] : Value) = vec n := by rw [vec_words ha hb hc hd, e]
theorem vec_one : (.agg #[.int .u64 1, .int .u64 0, .int .u64 0, .int .u64 0] : Value) = vec 1 := vec_lit (a := 1) (b := 0) (c := 0) (d := 0) (by decide) (by decide) (by decide) (by decide) (by decide) (by decide)
theorem vec_two : (.agg #[.int .u64 2, .int .u64 0, .int .u64 0, .int .u64 0] : Value) = vec 2 := vec_lit (a := 2) (b := 0) (c := 0) (d := 0) (by decide) (by decide) (by decide) (by decide) (by decide) (by decide)
theorem vec_zero : (.agg #[.int .u64 0, .int .u64 0, .int .u64 0, .int .u64 0] : Value) = vec 0 := vec_lit (a := 0) (b := 0) (c := 0) (d := 0) (by decide) (by decide) (by decide) (by decide) (by decide) (by decide)
end Go.Proofs.YtogenbggjodcnaaDoor
/-
  The two moduli; powers step by step: plain arithmetic, no program.
-/
namespace Go.Proofs.YtogenbggjodcnaaDoor
/-- The moduli of the two fields. -/
def P1 : Nat := 57896044618658097711785492504343953926634992332820282019728792003956564819949
def P2 : Nat := 115792089210356248762697446949407573529996955224135760342422259061068512044369
theorem vec_P1 : (.agg #[.int .u64 18446744073709551597, .int .u64 18446744073709551615, .int .u64 18446744073709551615, .int .u64 9223372036854775807] : Value) = vec P1 :=
  vec_lit (a := 18446744073709551597) (b := 18446744073709551615) (c := 18446744073709551615) (d := 9223372036854775807) (by decide) (by decide) (by decide) (by decide) (by decide) (by decide)
theorem limbs_P1 : (18446744073709551597 : Int) = (limb P1 0 : Int) ∧ (18446744073709551615 : Int) = (limb P1 1 : Int) ∧ (18446744073709551615 : Int) = (limb P1 2 : Int) ∧ (9223372036854775807 : Int) = (limb P1 3 : Int) := by
  obtain ⟨h0, h1, h2, h3⟩ := limb_val4 (a := 18446744073709551597) (b := 18446744073709551615) (c := 18446744073709551615) (d := 9223372036854775807) (by decide) (by decide) (by decide) (by decide)
  have e : P1 = val4 18446744073709551597 18446744073709551615 18446744073709551615 9223372036854775807 := by decide
  rw [e, h0, h1, h2, h3]; exact ⟨rfl, rfl, rfl, rfl⟩
theorem vec_P2 : (.agg #[.int .u64 17562291160714782033, .int .u64 13611842547513532036, .int .u64 18446744073709551615, .int .u64 18446744069414584320] : Value) = vec P2 :=
  vec_lit (a := 17562291160714782033) (b := 13611842547513532036) (c := 18446744073709551615) (d := 18446744069414584320) (by decide) (by decide) (by decide) (by decide) (by decide) (by decide)
theorem limbs_P2 : (17562291160714782033 : Int) = (limb P2 0 : Int) ∧ (13611842547513532036 : Int) = (limb P2 1 : Int) ∧ (18446744073709551615 : Int) = (limb P2 2 : Int) ∧ (18446744069414584320 : Int) = (limb P2 3 : Int) := by
  obtain ⟨h0, h1, h2, h3⟩ := limb_val4 (a := 17562291160714782033) (b := 13611842547513532036) (c := 18446744073709551615) (d := 18446744069414584320) (by decide) (by decide) (by decide) (by decide)
  have e : P2 = val4 17562291160714782033 13611842547513532036 18446744073709551615 18446744069414584320 := by decide
  rw [e, h0, h1, h2, h3]; exact ⟨rfl, rfl, rfl, rfl⟩
theorem P1_lt : P1 < B256 := by decide
theorem P2_lt : P2 < B256 := by decide
theorem P1_two : 2 < P1 := by decide
theorem P2_two : 2 < P2 := by decide

theorem powm_zero {p : Nat} (a : Nat) (hp : 1 < p) : powm p a 0 = 1 := by rw [powm_eq, Nat.pow_zero, Nat.mod_eq_of_lt hp]
theorem powm_two (p k : Nat) : addm p (powm p 2 k) (powm p 2 k) = powm p 2 (k + 1) := by
  rw [addm_eq, powm_eq, powm_eq, ← Nat.add_mod, Nat.pow_succ]; congr 1; omega
theorem powm_add (p a x y : Nat) : mulm p (powm p a x) (powm p a y) = powm p a (x + y) := by
  rw [mulm_eq, powm_eq, powm_eq, powm_eq, ← Nat.mul_mod, Nat.pow_add]
theorem powm_one {p a : Nat} (ha : a < p) : powm p a 1 = a := by rw [powm_eq, Nat.pow_one, Nat.mod_eq_of_lt ha]
theorem pow_bit0 (p a e k : Nat) (h : bit e k = 0) : mulm p (powm p a (top e (k + 1))) (powm p a (top e (k + 1))) = powm p a (top e k) := by
  rw [powm_add, top_eq, top_eq, shr_bit e k, h]; congr 1; omega
theorem pow_bit1 (p a e k : Nat) (ha : a < p) (h : bit e k = 1) : mulm p (mulm p (powm p a (top e (k + 1))) (powm p a (top e (k + 1)))) a = powm p a (top e k) := by
  have e1 : mulm p (powm p a (top e (k + 1) + top e (k + 1))) a = mulm p (powm p a (top e (k + 1) + top e (k + 1))) (powm p a 1) := by rw [powm_one ha]
  rw [powm_add, e1, powm_add, top_eq, top_eq, shr_bit e k, h]; congr 1; omega
theorem dif_le {a b : Nat} (ha : a < B256) (hb : b ≤ a) : dif a b = a - b := by rw [dif_eq]; unfold B256 at *; omega
/-- The other constants of the two fields. -/
def I1 : Nat := 9708812670373448219
def I2 : Nat := 14758798090332847183
def O1 : Nat := 38
def O2 : Nat := 26959946660873538059280334323273029441504803697035324946844617595567
def S1 : Nat := 1444
def S2 : Nat := 46533765739406314298121036767150998762426774378559716911348521029833835802274
theorem vec_O1 : (.agg #[.int .u64 38, .int .u64 0, .int .u64 0, .int .u64 0] : Value) = vec O1 :=
  vec_lit (a := 38) (b := 0) (c := 0) (d := 0) (by decide) (by decide) (by decide) (by decide) (by decide) (by decide)
theorem limbs_O1 : (38 : Int) = (limb O1 0 : Int) ∧ (0 : Int) = (limb O1 1 : Int) ∧ (0 : Int) = (limb O1 2 : Int) ∧ (0 : Int) = (limb O1 3 : Int) := by
  obtain ⟨h0, h1, h2, h3⟩ := limb_val4 (a := 38) (b := 0) (c := 0) (d := 0) (by decide) (by decide) (by decide) (by decide)
  have e : O1 = val4 38 0 0 0 := by decide
  rw [e, h0, h1, h2, h3]; exact ⟨rfl, rfl, rfl, rfl⟩
theorem vec_O2 : (.agg #[.int .u64 884452912994769583, .int .u64 4834901526196019579, .int .u64 0, .int .u64 4294967295] : Value) = vec O2 :=
  vec_lit (a := 884452912994769583) (b := 4834901526196019579) (c := 0) (d := 4294967295) (by decide) (by decide) (by decide) (by decide) (by decide) (by decide)
theorem limbs_O2 : (884452912994769583 : Int) = (limb O2 0 : Int) ∧ (4834901526196019579 : Int) = (limb O2 1 : Int) ∧ (0 : Int) = (limb O2 2 : Int) ∧ (4294967295 : Int) = (limb O2 3 : Int) := by
  obtain ⟨h0, h1, h2, h3⟩ := limb_val4 (a := 884452912994769583) (b := 4834901526196019579) (c := 0) (d := 4294967295) (by decide) (by decide) (by decide) (by decide)
  have e : O2 = val4 884452912994769583 4834901526196019579 0 4294967295 := by decide
  rw [e, h0, h1, h2, h3]; exact ⟨rfl, rfl, rfl, rfl⟩
theorem vec_S1 : (.agg #[.int .u64 1444, .int .u64 0, .int .u64 0, .int .u64 0] : Value) = vec S1 :=
  vec_lit (a := 1444) (b := 0) (c := 0) (d := 0) (by decide) (by decide) (by decide) (by decide) (by decide) (by decide)
theorem limbs_S1 : (1444 : Int) = (limb S1 0 : Int) ∧ (0 : Int) = (limb S1 1 : Int) ∧ (0 : Int) = (limb S1 2 : Int) ∧ (0 : Int) = (limb S1 3 : Int) := by
  obtain ⟨h0, h1, h2, h3⟩ := limb_val4 (a := 1444) (b := 0) (c := 0) (d := 0) (by decide) (by decide) (by decide) (by decide)
  have e : S1 = val4 1444 0 0 0 := by decide
  rw [e, h0, h1, h2, h3]; exact ⟨rfl, rfl, rfl, rfl⟩
theorem vec_S2 : (.agg #[.int .u64 9449762124159643298, .int .u64 5087230966250696614, .int .u64 2901921493521525849, .int .u64 7413256579398063648] : Value) = vec S2 :=
  vec_lit (a := 9449762124159643298) (b := 5087230966250696614) (c := 2901921493521525849) (d := 7413256579398063648) (by decide) (by decide) (by decide) (by decide) (by decide) (by decide)
theorem limbs_S2 : (9449762124159643298 : Int) = (limb S2 0 : Int) ∧ (5087230966250696614 : Int) = (limb S2 1 : Int) ∧ (2901921493521525849 : Int) = (limb S2 2 : Int) ∧ (7413256579398063648 : Int) = (limb S2 3 : Int) := by
  obtain ⟨h0, h1, h2, h3⟩ := limb_val4 (a := 9449762124159643298) (b := 5087230966250696614) (c := 2901921493521525849) (d := 7413256579398063648) (by decide) (by decide) (by decide) (by decide)
  have e : S2 = val4 9449762124159643298 5087230966250696614 2901921493521525849 7413256579398063648 := by decide
  rw [e, h0, h1, h2, h3]; exact ⟨rfl, rfl, rfl, rfl⟩
end Go.Proofs.YtogenbggjodcnaaDoor
/-
  Masks and choices of words: plain arithmetic, no program.
-/
namespace Go.Proofs.YtogenbggjodcnaaDoor
/-- The mask of the lowest bit of a word. -/
noncomputable def msk (b : Nat) : Nat := veil (if b % 2 = 1 then 18446744073709551615 else 0)
theorem msk_eq (b : Nat) : msk b = if b % 2 = 1 then 18446744073709551615 else 0 := veil_eq _
theorem msk_mod (b : Nat) : msk b % 2 = b % 2 := by rw [msk_eq]; split <;> omega
theorem msk_lt (b : Nat) : msk b < B64 := by rw [msk_eq]; unfold B64; split <;> omega
theorem msk_msk (b : Nat) : msk (msk b) = msk b := by rw [msk_eq (msk b), msk_mod, ← msk_eq]
/-- One of two. -/
noncomputable def pick (c a b : Nat) : Nat := veil (if c % 2 = 1 then a else b)
theorem pick_eq (c a b : Nat) : pick c a b = if c % 2 = 1 then a else b := veil_eq _
theorem pick_lt {a b n : Nat} (c : Nat) (ha : a < n) (hb : b < n) : pick c a b < n := by rw [pick_eq]; split <;> assumption
theorem limb_pick (c a b i : Nat) : limb (pick c a b) i = pick c (limb a i) (limb b i) := by rw [pick_eq, pick_eq]; split <;> rfl

theorem ofInt_nat (x : Nat) : BitVec.ofInt 64 (x : Int) = BitVec.ofNat 64 x := by simp
theorem bits_nat (op : BinOp) (x y z : Nat) (h : bits op .u64 (x : Int) (y : Int) = IntKind.u64.wrap (z : Int)) (hz : z < B64) : bits op .u64 (x : Int) (y : Int) = (z : Int) := by
  rw [h, IntKind.wrap_u64]; unfold B64 at hz; omega
theorem bits_and_nat (x y : Nat) (hx : x < B64) (hy : y < B64) : bits .and .u64 (x : Int) (y : Int) = ((x &&& y : Nat) : Int) := by
  have h1 : (BitVec.ofInt 64 (x : Int)).toNat = x := by rw [ofInt_nat, BitVec.toNat_ofNat]; exact Nat.mod_eq_of_lt hx
  have h2 : (BitVec.ofInt 64 (y : Int)).toNat = y := by rw [ofInt_nat, BitVec.toNat_ofNat]; exact Nat.mod_eq_of_lt hy
  have hz : x &&& y < 2 ^ 64 := Nat.and_lt_two_pow _ hy
  show IntKind.u64.wrap ((BitVec.ofInt 64 (x : Int) &&& BitVec.ofInt 64 (y : Int)).toNat : Int) = _
  rw [BitVec.toNat_and, h1, h2, IntKind.wrap_u64]
  generalize x &&& y = z at *
  omega
theorem bits_or_nat (x y : Nat) (hx : x < B64) (hy : y < B64) : bits .or .u64 (x : Int) (y : Int) = ((x ||| y : Nat) : Int) := by
  have h1 : (BitVec.ofInt 64 (x : Int)).toNat = x := by rw [ofInt_nat, BitVec.toNat_ofNat]; exact Nat.mod_eq_of_lt hx
  have h2 : (BitVec.ofInt 64 (y : Int)).toNat = y := by rw [ofInt_nat, BitVec.toNat_ofNat]; exact Nat.mod_eq_of_lt hy
  have hz : x ||| y < 2 ^ 64 := Nat.or_lt_two_pow hx hy
  show IntKind.u64.wrap ((BitVec.ofInt 64 (x : Int) ||| BitVec.ofInt 64 (y : Int)).toNat : Int) = _
  rw [BitVec.toNat_or, h1, h2, IntKind.wrap_u64]
  generalize x ||| y = z at *
  omega
theorem bits_xor_nat (x y : Nat) (hx : x < B64) (hy : y < B64) : bits .xor .u64 (x : Int) (y : Int) = ((x ^^^ y : Nat) : Int) := bits_xor_u64_nat x y hx hy
theorem fromBit_word (b : Nat) (hb : b < B64) : IntKind.u64.wrap (-(bits .and .u64 (b : Int) 1)) = (msk b : Int) := by
  have h := bits_and_nat b 1 hb (by decide)
  rw [show ((1 : Nat) : Int) = 1 from rfl] at h
  rw [h, Nat.and_one_is_mod, msk_eq, IntKind.wrap_u64]
  split <;> omega
theorem and_ones (x : Nat) (hx : x < B64) : 18446744073709551615 &&& x = x := by
  have e : (18446744073709551615 : Nat) = 2 ^ 64 - 1 := rfl
  rw [e, Nat.and_comm, Nat.and_two_pow_sub_one_eq_mod]; exact Nat.mod_eq_of_lt hx
theorem xor_lt64 {x y : Nat} (hx : x < B64) (hy : y < B64) : x ^^^ y < B64 := Nat.xor_lt_two_pow (n := 64) hx hy
/-- b ^ m & (a ^ b) chooses by a mask. -/
theorem choose_word (c a b : Nat) (ha : a < B64) (hb : b < B64) :
    bits .xor .u64 (b : Int) (bits .and .u64 (msk c : Int) (bits .xor .u64 (a : Int) (b : Int))) = (pick c a b : Int) := by
  rw [bits_xor_nat a b ha hb, bits_and_nat _ _ (msk_lt c) (xor_lt64 ha hb), msk_eq, pick_eq]
  split
  · rw [and_ones _ (xor_lt64 ha hb), bits_xor_nat _ _ hb (xor_lt64 ha hb)]
    congr 1
    rw [Nat.xor_comm a b, ← Nat.xor_assoc, Nat.xor_self, Nat.zero_xor]
  · rw [Nat.zero_and, bits_xor_nat _ _ hb (by decide), Nat.xor_zero]
theorem andNot_msk (x y : Nat) : bits .andNot .u64 (msk x : Int) (msk y : Int) = (msk (pick y 0 x) : Int) := by
  rw [pick_eq, msk_eq, msk_eq, msk_eq]
  split <;> split <;> simp_all <;> decide
theorem red_pick (m a c : Nat) : pick (msk (pick c 0 (brw a m))) a (dif a m) = red m a c := by
  rw [red_eq, pick_eq, msk_mod, pick_eq, brw_eq]
  by_cases h : c % 2 = 1
  · rw [if_pos h, if_neg (by decide), if_neg (by omega)]
  · rw [if_neg h]
    by_cases g : a < m
    · rw [if_pos g, if_pos (by decide), if_pos ⟨by omega, g⟩]
    · rw [if_neg g, if_neg (by decide), if_neg (fun h => g h.2)]
/-- A field's constants as Go's struct. -/
noncomputable abbrev fld (id : Int) (m i o s : Nat) : Value := .agg #[.int .i64 id, .int .u64 (limb m 0 : Int), .int .u64 (limb m 1 : Int), .int .u64 (limb m 2 : Int), .int .u64 (limb m 3 : Int), .int .u64 (i : Int), .int .u64 (limb o 0 : Int), .int .u64 (limb o 1 : Int), .int .u64 (limb o 2 : Int), .int .u64 (limb o 3 : Int), .int .u64 (limb s 0 : Int), .int .u64 (limb s 1 : Int), .int .u64 (limb s 2 : Int), .int .u64 (limb s 3 : Int)]
end Go.Proofs.YtogenbggjodcnaaDoor
/-
  Montgomery's product: plain arithmetic, no program.
-/
namespace Go.Proofs.YtogenbggjodcnaaDoor

/-- High and low word of a product and two words. -/
noncomputable def mah (a b c d : Nat) : Nat := veil ((a * b + c + d) / 18446744073709551616)
theorem mah_eq (a b c d : Nat) : mah a b c d = (a * b + c + d) / 18446744073709551616 := veil_eq _
noncomputable def mal (a b c d : Nat) : Nat := veil ((a * b + c + d) % 18446744073709551616)
theorem mal_eq (a b c d : Nat) : mal a b c d = (a * b + c + d) % 18446744073709551616 := veil_eq _
theorem ma_step (a b c d : Nat) : mal a b c d + 18446744073709551616 * mah a b c d = a * b + c + d := by
  rw [mah_eq, mal_eq]; omega
theorem mal_lt (a b c d : Nat) : mal a b c d < B64 := by rw [mal_eq]; exact Nat.mod_lt _ (by decide)
theorem mah_lt {a b c d : Nat} (ha : a < B64) (hb : b < B64) (hc : c < B64) (hd : d < B64) : mah a b c d < B64 := by
  rw [mah_eq]
  unfold B64 at *
  have := Nat.mul_le_mul (show a ≤ 18446744073709551615 by omega) (show b ≤ 18446744073709551615 by omega)
  omega
/-- The carries and the words of a row of products. -/
noncomputable def mcar (x : Nat) (a t : Nat → Nat) : Nat → Nat
  | 0 => 0
  | k + 1 => mah (a k) x (t k) (mcar x a t k)
noncomputable def mwd (x : Nat) (a t : Nat → Nat) (k : Nat) : Nat := mal (a k) x (t k) (mcar x a t k)
noncomputable def dcar (q : Nat) (m t : Nat → Nat) : Nat → Nat
  | 0 => 0
  | k + 1 => mah q (m k) (t k) (dcar q m t k)
noncomputable def dwd (q : Nat) (m t : Nat → Nat) (k : Nat) : Nat := mal q (m k) (t k) (dcar q m t k)
theorem mcar_lt {x : Nat} {a t : Nat → Nat} (hx : x < B64) (ha : ∀ k, a k < B64) (ht : ∀ k, t k < B64) : ∀ k, mcar x a t k < B64
  | 0 => by unfold mcar; decide
  | k + 1 => mah_lt (ha k) hx (ht k) (mcar_lt hx ha ht k)
theorem dcar_lt {q : Nat} {m t : Nat → Nat} (hq : q < B64) (hm : ∀ k, m k < B64) (ht : ∀ k, t k < B64) : ∀ k, dcar q m t k < B64
  | 0 => by unfold dcar; decide
  | k + 1 => mah_lt hq (hm k) (ht k) (dcar_lt hq hm ht k)
theorem mwd_lt (x : Nat) (a t : Nat → Nat) (k : Nat) : mwd x a t k < B64 := mal_lt _ _ _ _
theorem dwd_lt (q : Nat) (m t : Nat → Nat) (k : Nat) : dwd q m t k < B64 := mal_lt _ _ _ _
/-- A product of two words, its low half. -/
noncomputable def mulw (a b : Nat) : Nat := veil (a * b % 18446744073709551616)
theorem mulw_eq (a b : Nat) : mulw a b = a * b % 18446744073709551616 := veil_eq _
theorem mulw_lt (a b : Nat) : mulw a b < B64 := by rw [mulw_eq]; exact Nat.mod_lt _ (by decide)
theorem mul_val4 (x a b c d : Nat) : x * val4 a b c d = val4 (x * a) (x * b) (x * c) (x * d) := by
  unfold val4
  simp only [Nat.mul_add, Nat.mul_left_comm x]
/-- The lowest word falls away. -/
theorem low_zero {n0 m0 inv : Nat} (h : m0 * inv % 18446744073709551616 = 18446744073709551615) : (mulw n0 inv * m0 + n0 + 0) % 18446744073709551616 = 0 := by
  have e : m0 * inv = 18446744073709551616 * (m0 * inv / 18446744073709551616) + 18446744073709551615 := by rw [← h]; exact (Nat.div_add_mod _ _).symm
  generalize m0 * inv / 18446744073709551616 = w at e
  have e2 : mulw n0 inv * m0 % 18446744073709551616 = n0 * (m0 * inv) % 18446744073709551616 := by
    rw [mulw_eq, Nat.mod_mul_mod, Nat.mul_assoc, Nat.mul_comm inv m0]
  have e3 : n0 * (m0 * inv) + n0 = 18446744073709551616 * (n0 * w + n0) := by
    rw [e, Nat.mul_add, Nat.mul_add, ← Nat.mul_assoc n0, Nat.mul_comm n0 18446744073709551616, Nat.mul_assoc]
    omega
  rw [Nat.add_zero, Nat.add_mod, e2, ← Nat.add_mod, e3, Nat.mul_mod_right]
/-- What a round's words come to. -/
noncomputable def rnd (x inv : Nat) (a m t : Nat → Nat) : Nat → Nat
  | 0 => dwd (mulw (mwd x a t 0) inv) m (mwd x a t) 1
  | 1 => dwd (mulw (mwd x a t 0) inv) m (mwd x a t) 2
  | 2 => dwd (mulw (mwd x a t 0) inv) m (mwd x a t) 3
  | 3 => nas (nas (t 4) (mcar x a t 4) 0) (dcar (mulw (mwd x a t 0) inv) m (mwd x a t) 4) 0
  | 4 => nac (t 4) (mcar x a t 4) 0 + nac (nas (t 4) (mcar x a t 4) 0) (dcar (mulw (mwd x a t 0) inv) m (mwd x a t) 4) 0
  | _ => 0
def num5 (t : Nat → Nat) : Nat := val4 (t 0) (t 1) (t 2) (t 3) + 115792089237316195423570985008687907853269984665640564039457584007913129639936 * t 4
theorem rnd_lt {x inv : Nat} {a m t : Nat → Nat} (hx : x < B64) (ha : ∀ k, a k < B64) (hm : ∀ k, m k < B64) (ht : ∀ k, t k < B64) (k : Nat) : rnd x inv a m t k < B64 := by
  match k with
  | 0 => exact dwd_lt _ _ _ _
  | 1 => exact dwd_lt _ _ _ _
  | 2 => exact dwd_lt _ _ _ _
  | 3 => exact nas_lt _ _ _
  | 4 =>
    have h1 := nac_le (ht 4) (mcar_lt hx ha ht 4) (Nat.zero_le 1)
    have h2 := nac_le (nas_lt (t 4) (mcar x a t 4) 0) (dcar_lt (mulw_lt (mwd x a t 0) inv) hm (mwd_lt x a t) 4) (Nat.zero_le 1)
    simp only [rnd]
    unfold B64
    omega
  | k + 5 => simp only [rnd]; decide
set_option maxHeartbeats 1000000 in
theorem rnd_num {x inv : Nat} {a m t : Nat → Nat} (h : m 0 * inv % 18446744073709551616 = 18446744073709551615) :
    18446744073709551616 * num5 (rnd x inv a m t) = num5 t + x * val4 (a 0) (a 1) (a 2) (a 3) + mulw (mwd x a t 0) inv * val4 (m 0) (m 1) (m 2) (m 3) := by
  have s0 : mwd x a t 0 + 18446744073709551616 * mcar x a t 1 = a 0 * x + t 0 + 0 := ma_step _ _ _ _
  have s1 : mwd x a t 1 + 18446744073709551616 * mcar x a t 2 = a 1 * x + t 1 + mcar x a t 1 := ma_step _ _ _ _
  have s2 : mwd x a t 2 + 18446744073709551616 * mcar x a t 3 = a 2 * x + t 2 + mcar x a t 2 := ma_step _ _ _ _
  have s3 : mwd x a t 3 + 18446744073709551616 * mcar x a t 4 = a 3 * x + t 3 + mcar x a t 3 := ma_step _ _ _ _
  have s4 := (nas_step (t 4) (mcar x a t 4) 0).1
  rw [mul_val4, mul_val4, Nat.mul_comm x (a 0), Nat.mul_comm x (a 1), Nat.mul_comm x (a 2), Nat.mul_comm x (a 3)]
  simp only [num5, rnd]
  generalize hq : mulw (mwd x a t 0) inv = q
  have z : (q * m 0 + mwd x a t 0 + 0) % 18446744073709551616 = 0 := by rw [← hq]; exact low_zero h
  have d0 : dwd q m (mwd x a t) 0 + 18446744073709551616 * dcar q m (mwd x a t) 1 = q * m 0 + mwd x a t 0 + 0 := ma_step _ _ _ _
  have d1 : dwd q m (mwd x a t) 1 + 18446744073709551616 * dcar q m (mwd x a t) 2 = q * m 1 + mwd x a t 1 + dcar q m (mwd x a t) 1 := ma_step _ _ _ _
  have d2 : dwd q m (mwd x a t) 2 + 18446744073709551616 * dcar q m (mwd x a t) 3 = q * m 2 + mwd x a t 2 + dcar q m (mwd x a t) 2 := ma_step _ _ _ _
  have d3 : dwd q m (mwd x a t) 3 + 18446744073709551616 * dcar q m (mwd x a t) 4 = q * m 3 + mwd x a t 3 + dcar q m (mwd x a t) 3 := ma_step _ _ _ _
  have d4 := (nas_step (nas (t 4) (mcar x a t 4) 0) (dcar q m (mwd x a t) 4) 0).1
  have dl := dwd_lt q m (mwd x a t) 0
  unfold B64 at dl
  generalize nas (nas (t 4) (mcar x a t 4) 0) (dcar q m (mwd x a t) 4) 0 = r3 at *
  generalize nac (nas (t 4) (mcar x a t 4) 0) (dcar q m (mwd x a t) 4) 0 = k1 at *
  generalize nas (t 4) (mcar x a t 4) 0 = s4 at *
  generalize nac (t 4) (mcar x a t 4) 0 = s5 at *
  generalize dwd q m (mwd x a t) 0 = r_ at *
  generalize dwd q m (mwd x a t) 1 = r0 at *
  generalize dwd q m (mwd x a t) 2 = r1 at *
  generalize dwd q m (mwd x a t) 3 = r2 at *
  generalize dcar q m (mwd x a t) 1 = e1 at *
  generalize dcar q m (mwd x a t) 2 = e2 at *
  generalize dcar q m (mwd x a t) 3 = e3 at *
  generalize dcar q m (mwd x a t) 4 = e4 at *
  generalize mcar x a t 1 = c1 at *
  generalize mcar x a t 2 = c2 at *
  generalize mcar x a t 3 = c3 at *
  generalize mcar x a t 4 = c4 at *
  generalize mwd x a t 0 = n0 at *
  generalize mwd x a t 1 = n1 at *
  generalize mwd x a t 2 = n2 at *
  generalize mwd x a t 3 = n3 at *
  generalize q * m 0 = p0 at *
  generalize q * m 1 = p1 at *
  generalize q * m 2 = p2 at *
  generalize q * m 3 = p3 at *
  generalize a 0 * x = f0 at *
  generalize a 1 * x = f1 at *
  generalize a 2 * x = f2 at *
  generalize a 3 * x = f3 at *
  have hr : r_ = 0 := by omega
  subst hr
  unfold val4
  omega
/-- The words behind i rounds. -/
def Rounds (m a b i : Nat) (t : Nat → Nat) : Prop := ∃ Q, B64 ^ i * num5 t = a * (b % B64 ^ i) + Q * m ∧ Q < B64 ^ i
theorem Rounds.zero (m a b : Nat) : Rounds m a b 0 (fun _ => 0) := ⟨0, by simp [num5, val4, Nat.mod_one], by decide⟩
theorem limb_pow (b i : Nat) : b % B64 ^ (i + 1) = b % B64 ^ i + B64 ^ i * limb b i := by
  rw [Nat.mod_pow_succ, limb_eq, show B64 = 2 ^ 64 by decide, Nat.pow_mul]
theorem Rounds.step {m a b i inv : Nat} {t : Nat → Nat} (hm : m < B256) (ha : a < B256) (h : limb m 0 * inv % 18446744073709551616 = 18446744073709551615) (hr : Rounds m a b i t) : Rounds m a b (i + 1) (rnd (limb b i) inv (limb a) (limb m) t) := by
  obtain ⟨Q, e, hQ⟩ := hr
  have r := rnd_num (x := limb b i) (a := limb a) (t := t) h
  rw [val4_limb hm, val4_limb ha] at r
  generalize hq : mulw (mwd (limb b i) (limb a) t 0) inv = q at r
  have hql : q < B64 := by rw [← hq]; exact mulw_lt _ _
  refine ⟨Q + B64 ^ i * q, ?_, ?_⟩
  · rw [limb_pow, Nat.pow_succ, Nat.mul_assoc, show B64 = 18446744073709551616 from rfl, r, ← show B64 = 18446744073709551616 from rfl, Nat.mul_add, Nat.mul_add, e, Nat.mul_add, Nat.add_mul, Nat.mul_assoc (B64 ^ i) q m, Nat.mul_left_comm a (B64 ^ i), Nat.mul_comm a (limb b i)]
    omega
  · rw [Nat.pow_succ]
    have : B64 ^ i * q + B64 ^ i ≤ B64 ^ i * B64 := by rw [← Nat.mul_succ]; exact Nat.mul_le_mul_left _ hql
    omega
/-- The inverse of 2^256. -/
noncomputable def rinv (m : Nat) : Nat := open Classical in if h : ∃ y, B256 * y % m = 1 then Classical.choose h else 0
theorem rinv_eq {m : Nat} (h : ∃ y, B256 * y % m = 1) : B256 * rinv m % m = 1 := by
  unfold rinv
  rw [dif_pos h]
  exact Classical.choose_spec h
/-- Montgomery's product; the form of a value; the value of a form. -/
noncomputable def mont (m a b : Nat) : Nat := veil (a * b * rinv m % m)
theorem mont_eq (m a b : Nat) : mont m a b = a * b * rinv m % m := veil_eq _
theorem mont_lt {m : Nat} (a b : Nat) (hm : 0 < m) : mont m a b < m := by rw [mont_eq]; exact Nat.mod_lt _ hm
/-- A field's constants. -/
def FieldOK (m inv : Nat) : Prop := m < B256 ∧ 2 < m ∧ limb m 0 * inv % 18446744073709551616 = 18446744073709551615 ∧ (∃ y, B256 * y % m = 1) ∧ inv < B64
theorem mont_of {m T Q a b : Nat} (h : ∃ y, B256 * y % m = 1) (e : B256 * T = a * b + Q * m) : T % m = mont m a b := by
  have r := rinv_eq h
  have e1 : a * b % m = B256 * T % m := by rw [e, Nat.add_mul_mod_self_right]
  rw [mont_eq, Nat.mul_mod, e1, ← Nat.mul_mod, Nat.mul_assoc, Nat.mul_left_comm, Nat.mul_mod T, r]
  by_cases h1 : 1 < m
  · rw [Nat.mul_one, Nat.mod_mod]
  · rw [Nat.mul_one, Nat.mod_mod]
/-- Behind four rounds, and the last subtraction. -/
theorem Rounds.fin {m a b inv : Nat} {t : Nat → Nat} (hF : FieldOK m inv) (hb : b < B256) (hab : a * b < B256 * m) (ht : ∀ k, t k < B64) (hr : Rounds m a b 4 t) : red m (val4 (t 0) (t 1) (t 2) (t 3)) (t 4) = mont m a b := by
  obtain ⟨Q, e, hQ⟩ := hr
  obtain ⟨hm, h2, _, hy, _⟩ := hF
  have hB : B64 ^ 4 = B256 := by decide
  rw [hB] at e hQ
  rw [Nat.mod_eq_of_lt hb] at e
  have hx := val4_lt (ht 0) (ht 1) (ht 2) (ht 3)
  have hT := mont_of hy e
  have hlt : num5 t < 2 * m := by
    have h1 : Q * m ≤ B256 * m := Nat.mul_le_mul_right m (Nat.le_of_lt hQ)
    refine Nat.lt_of_mul_lt_mul_left (a := B256) ?_
    rw [e, show B256 * (2 * m) = B256 * m + B256 * m by rw [Nat.mul_left_comm]; omega]
    omega
  rw [← hT]
  unfold num5 at hlt ⊢
  generalize val4 (t 0) (t 1) (t 2) (t 3) = x at *
  generalize t 4 = c at *
  rw [red_eq, dif_eq]
  unfold B256 at *
  have hc : c ≤ 1 := by omega
  by_cases hcm : x + 115792089237316195423570985008687907853269984665640564039457584007913129639936 * c < m
  · rw [if_pos (by omega), Nat.mod_eq_of_lt hcm]; omega
  · have e2 : (x + 115792089237316195423570985008687907853269984665640564039457584007913129639936 * c) % m = x + 115792089237316195423570985008687907853269984665640564039457584007913129639936 * c - m := by rw [Nat.mod_eq_sub_mod (by omega)]; exact Nat.mod_eq_of_lt (by omega)
    rw [e2, if_neg (by omega)]
    omega
theorem fieldOK_1 : FieldOK P1 I1 := by
  refine ⟨P1_lt, P1_two, ?_, ⟨10665060850805439052171011777115991512801182798151104582581619579676209308938, by decide⟩, by decide⟩
  have e : limb P1 0 = 18446744073709551597 := by have := limbs_P1.1; omega
  rw [e]; decide
theorem fieldOK_2 : FieldOK P2 I2 := by
  refine ⟨P2_lt, P2_two, ?_, ⟨43790243014242295660885426880012836369732278457577312309071968676491870960761, by decide⟩, by decide⟩
  have e : limb P2 0 = 17562291160714782033 := by have := limbs_P2.1; omega
  rw [e]; decide
/-- The form of a value, the value of a form. -/
noncomputable def frm (m v : Nat) : Nat := veil (B256 * v % m)
theorem frm_eq (m v : Nat) : frm m v = B256 * v % m := veil_eq _
theorem frm_lt {m : Nat} (v : Nat) (hm : 0 < m) : frm m v < m := by rw [frm_eq]; exact Nat.mod_lt _ hm
noncomputable def valm (m a : Nat) : Nat := veil (a * rinv m % m)
theorem valm_eq (m a : Nat) : valm m a = a * rinv m % m := veil_eq _
theorem valm_lt {m : Nat} (a : Nat) (hm : 0 < m) : valm m a < m := by rw [valm_eq]; exact Nat.mod_lt _ hm
theorem valm_frm {m v : Nat} (h : ∃ y, B256 * y % m = 1) (hv : v < m) : valm m (frm m v) = v := by
  rw [valm_eq, frm_eq, Nat.mod_mul_mod, Nat.mul_right_comm, Nat.mul_mod, rinv_eq h, Nat.one_mul, Nat.mod_mod, Nat.mod_eq_of_lt hv]
theorem frm_valm {m a : Nat} (h : ∃ y, B256 * y % m = 1) (ha : a < m) : frm m (valm m a) = a := by
  rw [valm_eq, frm_eq, Nat.mul_mod_mod, Nat.mul_left_comm, Nat.mul_mod, rinv_eq h, Nat.mul_one, Nat.mod_mod, Nat.mod_eq_of_lt ha]
theorem frm_inj {m v u : Nat} (h : ∃ y, B256 * y % m = 1) (hv : v < m) (hu : u < m) (e : frm m v = frm m u) : v = u := by
  rw [← valm_frm h hv, e, valm_frm h hu]
theorem frm_mulm {m : Nat} (h : ∃ y, B256 * y % m = 1) (x y : Nat) : mont m (frm m x) (frm m y) = frm m (mulm m x y) := by
  rw [mont_eq, frm_eq, frm_eq, frm_eq, mulm_eq, Nat.mul_mod_mod]
  have e : B256 * x % m * (B256 * y % m) * rinv m % m = B256 * x * (B256 * y) * rinv m % m := by
    rw [Nat.mul_mod, ← Nat.mul_mod (B256 * x), ← Nat.mul_mod]
  rw [e, show B256 * x * (B256 * y) * rinv m = B256 * (x * y) * (B256 * rinv m) by simp only [Nat.mul_assoc, Nat.mul_left_comm, Nat.mul_comm], Nat.mul_mod, rinv_eq h, Nat.mul_one, Nat.mod_mod]
theorem frm_addm (m x y : Nat) : addm m (frm m x) (frm m y) = frm m (addm m x y) := by
  rw [addm_eq, frm_eq, frm_eq, frm_eq, addm_eq, ← Nat.add_mod, ← Nat.mul_add, Nat.mul_mod_mod]
theorem frm_zero (m : Nat) : frm m 0 = 0 := by rw [frm_eq, Nat.mul_zero, Nat.zero_mod]
theorem frm_mod (m v : Nat) : frm m (v % m) = frm m v := by rw [frm_eq, frm_eq, Nat.mul_mod_mod]
end Go.Proofs.YtogenbggjodcnaaDoor
/-
  The constants of the two fields, reckoned: plain arithmetic, no program.
-/
namespace Go.Proofs.YtogenbggjodcnaaDoor
/-- The approximations of an inverse modulo 2^64. -/
def newton (p : Int) : Nat → Int
  | 0 => 1
  | k + 1 => IntKind.u64.wrap (newton p k * IntKind.u64.wrap (2 - IntKind.u64.wrap (p * newton p k)))
theorem newton_P1 : IntKind.u64.wrap (-(newton (limb P1 0 : Int) 6)) = (I1 : Int) := by rw [← limbs_P1.1]; decide
theorem newton_P2 : IntKind.u64.wrap (-(newton (limb P2 0 : Int) 6)) = (I2 : Int) := by rw [← limbs_P2.1]; decide
theorem radix_P1 : powm P1 2 256 = O1 := by rw [powm_eq]; decide
theorem radix_P2 : powm P2 2 256 = O2 := by rw [powm_eq]; decide
theorem square_P1 : mulm P1 O1 O1 = S1 := by rw [mulm_eq]; decide
theorem square_P2 : mulm P2 O2 O2 = S2 := by rw [mulm_eq]; decide
theorem limb_P1_pos : ((limb P1 0 : Int) == 0) = false := by rw [← limbs_P1.1]; decide
theorem limb_P2_pos : ((limb P2 0 : Int) == 0) = false := by rw [← limbs_P2.1]; decide
end Go.Proofs.YtogenbggjodcnaaDoor
/-
  Halving modulo an odd number; the fields by their number: plain arithmetic, no program.
-/
namespace Go.Proofs.YtogenbggjodcnaaDoor

/-- Half of a number modulo p. -/
noncomputable def hlf (p a : Nat) : Nat := veil (if a % 2 = 1 then (a + p) / 2 else a / 2)
theorem hlf_eq (p a : Nat) : hlf p a = if a % 2 = 1 then (a + p) / 2 else a / 2 := veil_eq _
theorem hlf_lt {p a : Nat} (hodd : p % 2 = 1) (ha : a < p) : hlf p a < p := by rw [hlf_eq]; split <;> omega
theorem hlf_two {p : Nat} (a : Nat) (hodd : p % 2 = 1) : 2 * hlf p a % p = a % p := by
  rw [hlf_eq]
  split
  · rw [show 2 * ((a + p) / 2) = a + p by omega, Nat.add_mod_right]
  · rw [show 2 * (a / 2) = a by omega]
/-- The words of half a number of 256 bits and one. -/
noncomputable def hwd (a c i : Nat) : Nat := veil (limb a i / 2 + (if i < 3 then limb a (i + 1) % 2 else c) * 9223372036854775808)
theorem hwd_eq (a c i : Nat) : hwd a c i = limb a i / 2 + (if i < 3 then limb a (i + 1) % 2 else c) * 9223372036854775808 := veil_eq _
theorem hwd_lt {c : Nat} (a i : Nat) (hc : c ≤ 1) : hwd a c i < B64 := by
  have := limb_lt a i
  rw [hwd_eq]
  unfold B64 at *
  split <;> omega
theorem hwd_num {a c : Nat} (ha : a < B256) (_hc : c ≤ 1) : val4 (hwd a c 0) (hwd a c 1) (hwd a c 2) (hwd a c 3) = (a + c * B256) / 2 := by
  have e := val4_limb ha
  simp only [hwd_eq]
  rw [if_pos (by omega), if_pos (by omega), if_pos (by omega), if_neg (by omega)]
  have l0 := limb_lt a 0
  have l1 := limb_lt a 1
  have l2 := limb_lt a 2
  have l3 := limb_lt a 3
  generalize limb a 0 = x0 at *
  generalize limb a 1 = x1 at *
  generalize limb a 2 = x2 at *
  generalize limb a 3 = x3 at *
  unfold val4 at *
  unfold B256 B64 at *
  omega
theorem hlf_odd {p a : Nat} (h : a % 2 = 1) (_hp : p < B256) (_ha : a < B256) : (sum a p + cry a p * B256) / 2 = hlf p a := by
  rw [hlf_eq, if_pos h, sum_eq, cry_eq]
  unfold B256 at *
  omega
theorem hlf_even {p a : Nat} (h : ¬ a % 2 = 1) : (a + 0 * B256) / 2 = hlf p a := by rw [hlf_eq, if_neg h]; omega
theorem limb_par (a : Nat) : limb a 0 % 2 = a % 2 := by rw [limb0]; omega
/-- Halved again and again. -/
noncomputable def hv (p a : Nat) : Nat → Nat
  | 0 => a
  | k + 1 => hlf p (hv p a k)
theorem hv_lt {p a : Nat} (hodd : p % 2 = 1) (ha : a < p) : ∀ k, hv p a k < p
  | 0 => ha
  | k + 1 => hlf_lt hodd (hv_lt hodd ha k)
theorem hv_pow {p a : Nat} (hodd : p % 2 = 1) : ∀ k, 2 ^ k * hv p a k % p = a % p
  | 0 => by rw [Nat.pow_zero, Nat.one_mul]; rfl
  | k + 1 => by
    have e := hlf_two (hv p a k) hodd
    rw [Nat.pow_succ, Nat.mul_assoc, show hv p a (k + 1) = hlf p (hv p a k) from rfl, Nat.mul_mod, e, ← Nat.mul_mod, hv_pow hodd k]
theorem hv_value {p a : Nat} (hodd : p % 2 = 1) (h : ∃ y, B256 * y % p = 1) (ha : a < p) : hv p a 256 = valm p a := by
  have e := hv_pow (a := a) hodd 256
  have hl := hv_lt hodd ha 256
  have hB : (2 : Nat) ^ 256 = B256 := by decide
  rw [hB] at e
  generalize hv p a 256 = x at *
  rw [valm_eq, Nat.mul_mod, ← e, ← Nat.mul_mod, Nat.mul_right_comm, Nat.mul_mod, rinv_eq h, Nat.one_mul, Nat.mod_mod, Nat.mod_eq_of_lt hl]
theorem FieldOK.odd {m inv : Nat} (h : FieldOK m inv) : m % 2 = 1 := by
  obtain ⟨_, _, h, _, _⟩ := h
  have e : limb m 0 * inv % 2 = 1 := by omega
  rw [← limb_par]
  rw [Nat.mul_mod] at e
  by_cases h0 : limb m 0 % 2 = 1
  · exact h0
  · rw [show limb m 0 % 2 = 0 by omega] at e; simp at e
theorem form_eq {p : Nat} (v : Nat) : mulm p (powm p 2 256) v = frm p v := by
  rw [mulm_eq, powm_eq, frm_eq, Nat.mod_mul_mod]
  rfl
/-- The constants of the two fields. -/
def fP (s : Bool) : Nat := if s then P2 else P1
def fI (s : Bool) : Nat := if s then I2 else I1
def fO (s : Bool) : Nat := if s then O2 else O1
def fS (s : Bool) : Nat := if s then S2 else S1
def fID (s : Bool) : Int := if s then 2 else 1
noncomputable abbrev FV (s : Bool) : Value := fld (fID s) (fP s) (fI s) (fO s) (fS s)
theorem fOK (s : Bool) : FieldOK (fP s) (fI s) := by cases s; exact fieldOK_1; exact fieldOK_2
theorem fP_lt (s : Bool) : fP s < B256 := (fOK s).1
theorem fP_two (s : Bool) : 2 < fP s := (fOK s).2.1
theorem fP_odd (s : Bool) : fP s % 2 = 1 := (fOK s).odd
theorem fP_inv (s : Bool) : ∃ y, B256 * y % fP s = 1 := (fOK s).2.2.2.1
theorem fO_eq (s : Bool) : fO s = frm (fP s) 1 := by
  rw [← form_eq]
  cases s
  · show O1 = mulm P1 (powm P1 2 256) 1
    rw [radix_P1, mulm_one _ _ (by decide)]
  · show O2 = mulm P2 (powm P2 2 256) 1
    rw [radix_P2, mulm_one _ _ (by decide)]
end Go.Proofs.YtogenbggjodcnaaDoor
/-
  Polynomials with whole numbers as coefficients: values, sums, products, quotients by a linear one. Plain.
-/
namespace Go.Proofs.YtogenbggjodcnaaDoor

/-- The value. -/
def pe (x : Int) : List Int → Int
  | [] => 0
  | c :: r => c + x * pe x r
/-- The sum. -/
def pa : List Int → List Int → List Int
  | [], b => b
  | a, [] => a
  | x :: a, y :: b => (x + y) :: pa a b
/-- The product; with an empty second one: zeros. -/
def pm : List Int → List Int → List Int
  | [], _ => []
  | x :: a, b => pa (b.map (x * ·)) (0 :: pm a b)
/-- The coefficient of a product. -/
def pc : List Int → List Int → Nat → Int
  | [], _, _ => 0
  | x :: _, b, 0 => x * b.getD 0 0
  | x :: a, b, t + 1 => x * b.getD (t + 1) 0 + pc a b t
/-- The quotient by X - x. -/
def pq (x : Int) : List Int → List Int
  | [] => []
  | [_] => []
  | _ :: d :: r => pe x (d :: r) :: pq x (d :: r)
theorem pa_nil (a : List Int) : pa a [] = a := by cases a <;> rfl
theorem nil_pa (a : List Int) : pa [] a = a := by cases a <;> rfl
theorem pa_len : ∀ a b : List Int, (pa a b).length = max a.length b.length
  | [], b => by rw [nil_pa]; simp
  | x :: a, [] => by rw [pa_nil]; simp
  | x :: a, y :: b => by simp only [pa, List.length_cons, pa_len a b]; omega
theorem gd_cons (x : Int) (a : List Int) (t : Nat) : (x :: a).getD (t + 1) 0 = a.getD t 0 := rfl
theorem gd_head (x : Int) (a : List Int) : (x :: a).getD 0 0 = x := rfl
theorem gd_nil (t : Nat) : ([] : List Int).getD t 0 = 0 := by simp [List.getD]
theorem gd_none {a : List Int} {t : Nat} (h : a.length ≤ t) : a.getD t 0 = 0 := by simp [List.getD, List.getElem?_eq_none h]
theorem pa_get : ∀ (a b : List Int) (t : Nat), (pa a b).getD t 0 = a.getD t 0 + b.getD t 0
  | [], b, t => by rw [nil_pa, gd_nil]; omega
  | x :: a, [], t => by rw [pa_nil, gd_nil]; omega
  | x :: a, y :: b, 0 => rfl
  | x :: a, y :: b, t + 1 => by simp only [pa, gd_cons]; exact pa_get a b t
theorem sc_get (k : Int) : ∀ (a : List Int) (t : Nat), (a.map (k * ·)).getD t 0 = k * a.getD t 0
  | [], t => by rw [List.map_nil, gd_nil, Int.mul_zero]
  | x :: a, 0 => rfl
  | x :: a, t + 1 => by rw [List.map_cons, gd_cons, gd_cons]; exact sc_get k a t
theorem pm_get : ∀ (a b : List Int) (t : Nat), (pm a b).getD t 0 = pc a b t
  | [], b, t => by rw [pm, gd_nil]; cases t <;> rfl
  | x :: a, b, 0 => by rw [pm, pa_get, sc_get, gd_head, pc]; omega
  | x :: a, b, t + 1 => by rw [pm, pa_get, sc_get, gd_cons, pm_get a b t, pc]
theorem pm_len : ∀ (a b : List Int), a ≠ [] → b ≠ [] → (pm a b).length = a.length + b.length - 1
  | [], b, h, _ => absurd rfl h
  | [x], b, _, hb => by
    have : 0 < b.length := List.length_pos_iff.2 hb
    simp only [pm, pa_len, List.length_map, List.length_cons, List.length_nil]; omega
  | x :: y :: a, b, _, hb => by
    have : 0 < b.length := List.length_pos_iff.2 hb
    rw [pm, pa_len, List.length_map, List.length_cons, pm_len (y :: a) b (by simp) hb]
    simp only [List.length_cons]; omega
theorem pe_pa (x : Int) : ∀ a b, pe x (pa a b) = pe x a + pe x b
  | [], b => by rw [nil_pa]; simp [pe]
  | c :: a, [] => by rw [pa_nil]; simp [pe]
  | c :: a, d :: b => by
    have := pe_pa x a b
    simp only [pa, pe, this]; grind
theorem pe_sc (x k : Int) : ∀ a, pe x (a.map (k * ·)) = k * pe x a
  | [] => by simp [pe]
  | c :: a => by
    have := pe_sc x k a
    simp only [List.map_cons, pe, this]; grind
theorem pe_pm (x : Int) : ∀ a b, pe x (pm a b) = pe x a * pe x b
  | [], b => by simp [pm, pe]
  | c :: a, b => by
    have := pe_pm x a b
    simp only [pm, pe, pe_pa, pe_sc, this]; grind
theorem pq_len (x : Int) : ∀ l, (pq x l).length = l.length - 1
  | [] => rfl
  | [_] => rfl
  | _ :: d :: r => by rw [pq, List.length_cons, pq_len x (d :: r)]; simp
theorem pq_get (x : Int) : ∀ (l : List Int) (t : Nat), (pq x l).getD t 0 = pe x (l.drop (t + 1))
  | [], t => by simp [pq, pe]
  | [c], t => by simp [pq, pe]
  | c :: d :: r, 0 => rfl
  | c :: d :: r, t + 1 => by rw [pq, gd_cons, pq_get x (d :: r) t]; rfl
theorem pe_drop (x : Int) : ∀ (l : List Int) (t : Nat), pe x (l.drop t) = l.getD t 0 + x * pe x (l.drop (t + 1))
  | [], t => by simp [pe]
  | c :: r, 0 => by simp [pe]
  | c :: r, t + 1 => by rw [gd_cons, List.drop_succ_cons, List.drop_succ_cons]; exact pe_drop x r t
/-- A product with a linear polynomial, coefficient by coefficient. -/
theorem pc_lin (u v : Int) : ∀ (a : List Int) (t : Nat), pc a [u, v] t = a.getD t 0 * u + (if t = 0 then 0 else a.getD (t - 1) 0 * v)
  | [], 0 => by simp [pc]
  | [], t + 1 => by simp [pc]
  | x :: a, 0 => by simp [pc]
  | x :: a, 1 => by
    have := pc_lin u v a 0
    simp only [if_pos] at this
    rw [pc, this, if_neg (by omega), show (x :: a).getD 1 0 = a.getD 0 0 from rfl]
    show x * v + _ = _ + (x :: a).getD 0 0 * v
    rw [gd_head]; omega
  | x :: a, t + 2 => by
    rw [pc, pc_lin u v a (t + 1), if_neg (by omega), if_neg (by omega), show (x :: a).getD (t + 2) 0 = a.getD (t + 1) 0 from rfl, show t + 2 - 1 = t + 1 by omega, show (x :: a).getD (t + 1) 0 = a.getD t 0 from rfl, show t + 1 - 1 = t by omega]
    have : ([u, v] : List Int).getD (t + 1 + 1) 0 = 0 := by simp [List.getD]
    rw [this]; omega
theorem ext_gd {a b : List Int} (hl : a.length = b.length) (h : ∀ t, t < a.length → a.getD t 0 = b.getD t 0) : a = b := by
  refine List.ext_getElem hl fun t h1 h2 => ?_
  have := h t h1
  simpa [List.getD, List.getElem?_eq_getElem h1, List.getElem?_eq_getElem h2] using this
/-- DIVISION: the quotient times X - x plus the value is the polynomial. -/
theorem pq_back (x : Int) (l : List Int) (t : Nat) : (pa (pm (pq x l) [-x, 1]) [pe x l]).getD t 0 = l.getD t 0 := by
  rw [pa_get, pm_get, pc_lin, pq_get]
  cases t with
  | zero => rw [if_pos rfl, gd_head]; have := pe_drop x l 0; rw [List.drop_zero] at this; rw [this]; grind
  | succ t =>
    rw [if_neg (by omega), pq_get, show t + 1 - 1 = t by omega, gd_cons, gd_nil]
    have := pe_drop x l (t + 1)
    rw [this]; grind
end Go.Proofs.YtogenbggjodcnaaDoor
