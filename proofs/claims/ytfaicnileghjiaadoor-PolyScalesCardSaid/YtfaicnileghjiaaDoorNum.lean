/-
  Numbers of 256 bits as four words: plain arithmetic, no program.
-/
import GoSem.Core.Value
namespace Go.Proofs.YtfaicnileghjiaaDoor

/-- 2^64 and 2^256. -/
def B64 : Nat := 18446744073709551616
def B256 : Nat := 115792089237316195423570985008687907853269984665640564039457584007913129639936

/-- A function shut to simp and to the kernel: equal to x, and no more is seen of it. -/
noncomputable def veil (x : Nat) : Nat := Classical.choose (⟨x, rfl⟩ : ∃ n, n = x)
theorem veil_eq (x : Nat) : veil x = x := Classical.choose_spec (⟨x, rfl⟩ : ∃ n, n = x)

/-- The i-th word of a number. -/
noncomputable def limb (n i : Nat) : Nat := veil (n / 2 ^ (64 * i) % B64)
theorem limb_eq (n i : Nat) : limb n i = n / 2 ^ (64 * i) % B64 := veil_eq _
theorem limb_lt (n i : Nat) : limb n i < B64 := by rw [limb_eq]; exact Nat.mod_lt _ (by decide)

/-- A number as Go's [4]uint64. -/
noncomputable abbrev vec (n : Nat) : Value := .agg #[.int .u64 (limb n 0 : Int), .int .u64 (limb n 1 : Int), .int .u64 (limb n 2 : Int), .int .u64 (limb n 3 : Int)]

def val4 (a b c d : Nat) : Nat := a + 18446744073709551616 * b + 340282366920938463463374607431768211456 * c + 6277101735386680763835789423207666416102355444464034512896 * d

theorem limb0 (n : Nat) : limb n 0 = n % 18446744073709551616 := by rw [limb_eq, B64]; omega
theorem limb1 (n : Nat) : limb n 1 = n / 18446744073709551616 % 18446744073709551616 := by rw [limb_eq, B64]
theorem limb2 (n : Nat) : limb n 2 = n / 340282366920938463463374607431768211456 % 18446744073709551616 := by rw [limb_eq, B64]
theorem limb3 (n : Nat) : limb n 3 = n / 6277101735386680763835789423207666416102355444464034512896 % 18446744073709551616 := by rw [limb_eq, B64]

theorem val4_lt {a b c d : Nat} (ha : a < B64) (hb : b < B64) (hc : c < B64) (hd : d < B64) : val4 a b c d < B256 := by
  unfold B64 at *; unfold val4 B256; omega
theorem limb_val4 {a b c d : Nat} (ha : a < B64) (hb : b < B64) (hc : c < B64) (hd : d < B64) :
    limb (val4 a b c d) 0 = a ∧ limb (val4 a b c d) 1 = b ∧ limb (val4 a b c d) 2 = c ∧ limb (val4 a b c d) 3 = d := by
  unfold B64 at *
  rw [limb0, limb1, limb2, limb3]; unfold val4
  omega
theorem val4_limb {n : Nat} (h : n < B256) : val4 (limb n 0) (limb n 1) (limb n 2) (limb n 3) = n := by
  unfold B256 at h
  rw [limb0, limb1, limb2, limb3]; unfold val4
  omega
theorem vec_words {a b c d : Nat} (ha : a < B64) (hb : b < B64) (hc : c < B64) (hd : d < B64) :
    (.agg #[.int .u64 (a : Int), .int .u64 (b : Int), .int .u64 (c : Int), .int .u64 (d : Int)] : Value) = vec (val4 a b c d) := by
  obtain ⟨h0, h1, h2, h3⟩ := limb_val4 ha hb hc hd
  rw [vec, h0, h1, h2, h3]
theorem vec_inj {m n : Nat} (hm : m < B256) (hn : n < B256) (h0 : limb m 0 = limb n 0) (h1 : limb m 1 = limb n 1) (h2 : limb m 2 = limb n 2) (h3 : limb m 3 = limb n 3) : m = n := by
  rw [← val4_limb hm, ← val4_limb hn, h0, h1, h2, h3]

/-! Sum and difference, word by word. -/
/-- Difference and borrow of two words and a borrow. -/
noncomputable def nsd (x y c : Nat) : Nat := veil ((x + 18446744073709551616 - y - c) % 18446744073709551616)
theorem nsd_eq (x y c : Nat) : nsd x y c = (x + 18446744073709551616 - y - c) % 18446744073709551616 := veil_eq _
noncomputable def nsb (x y c : Nat) : Nat := veil (if x < y + c then 1 else 0)
theorem nsb_eq (x y c : Nat) : nsb x y c = if x < y + c then 1 else 0 := veil_eq _
theorem nsb_le (x y c : Nat) : nsb x y c ≤ 1 := by rw [nsb_eq]; split <;> omega
theorem nsd_lt (x y c : Nat) : nsd x y c < B64 := by rw [nsd_eq]; exact Nat.mod_lt _ (by decide)
/-- Sum and carry of two words and a carry. -/
noncomputable def nas (x y c : Nat) : Nat := veil ((x + y + c) % 18446744073709551616)
theorem nas_eq (x y c : Nat) : nas x y c = (x + y + c) % 18446744073709551616 := veil_eq _
noncomputable def nac (x y c : Nat) : Nat := veil ((x + y + c) / 18446744073709551616)
theorem nac_eq (x y c : Nat) : nac x y c = (x + y + c) / 18446744073709551616 := veil_eq _
theorem nas_lt (x y c : Nat) : nas x y c < B64 := by rw [nas_eq]; exact Nat.mod_lt _ (by decide)
theorem nac_le {x y c : Nat} (hx : x < B64) (hy : y < B64) (hc : c ≤ 1) : nac x y c ≤ 1 := by rw [nac_eq]; unfold B64 at *; omega

/-- The borrows of a difference, word by word; the carries of a sum. -/
noncomputable def bor (a b : Nat → Nat) : Nat → Nat
  | 0 => 0
  | k + 1 => nsb (a k) (b k) (bor a b k)
noncomputable def car (a b : Nat → Nat) : Nat → Nat
  | 0 => 0
  | k + 1 => nac (a k) (b k) (car a b k)
theorem bor_le (a b : Nat → Nat) (k : Nat) : bor a b k ≤ 1 := by
  cases k
  · simp [bor]
  · exact nsb_le _ _ _
theorem car_le {a b : Nat → Nat} (ha : ∀ i, a i < B64) (hb : ∀ i, b i < B64) (k : Nat) : car a b k ≤ 1 := by
  induction k with
  | zero => simp [car]
  | succ k ih => exact nac_le (ha k) (hb k) ih

/-- The difference modulo 2^256, and whether it is negative; the sum modulo 2^256, and its carry. -/
noncomputable def dif (a b : Nat) : Nat := veil ((a + B256 - b) % B256)
theorem dif_eq (a b : Nat) : dif a b = (a + B256 - b) % B256 := veil_eq _
noncomputable def brw (a b : Nat) : Nat := veil (if a < b then 1 else 0)
theorem brw_eq (a b : Nat) : brw a b = if a < b then 1 else 0 := veil_eq _
noncomputable def sum (a b : Nat) : Nat := veil ((a + b) % B256)
theorem sum_eq (a b : Nat) : sum a b = (a + b) % B256 := veil_eq _
noncomputable def cry (a b : Nat) : Nat := veil ((a + b) / B256)
theorem cry_eq (a b : Nat) : cry a b = (a + b) / B256 := veil_eq _
theorem dif_lt (a b : Nat) : dif a b < B256 := by rw [dif_eq]; exact Nat.mod_lt _ (by decide)
theorem sum_lt (a b : Nat) : sum a b < B256 := by rw [sum_eq]; exact Nat.mod_lt _ (by decide)
theorem brw_le (a b : Nat) : brw a b ≤ 1 := by rw [brw_eq]; split <;> omega
theorem cry_le {a b : Nat} (ha : a < B256) (hb : b < B256) : cry a b ≤ 1 := by rw [cry_eq]; unfold B256 at *; omega

theorem nsd_step (x y c : Nat) (hx : x < B64) (hy : y < B64) (hc : c ≤ 1) : nsd x y c + y + c = x + 18446744073709551616 * nsb x y c ∧ nsd x y c < 18446744073709551616 := by
  rw [nsd_eq, nsb_eq]; unfold B64 at *; split <;> omega
theorem nas_step (x y c : Nat) : nas x y c + 18446744073709551616 * nac x y c = x + y + c ∧ nas x y c < 18446744073709551616 := by
  rw [nas_eq, nac_eq]; omega

theorem dif_words {a b : Nat} (ha : a < B256) (hb : b < B256) :
    val4 (nsd (limb a 0) (limb b 0) (bor (limb a) (limb b) 0)) (nsd (limb a 1) (limb b 1) (bor (limb a) (limb b) 1)) (nsd (limb a 2) (limb b 2) (bor (limb a) (limb b) 2)) (nsd (limb a 3) (limb b 3) (bor (limb a) (limb b) 3)) = dif a b ∧ bor (limb a) (limb b) 4 = brw a b := by
  have ea := val4_limb ha
  have eb := val4_limb hb
  have s0 := nsd_step (limb a 0) (limb b 0) (bor (limb a) (limb b) 0) (limb_lt _ _) (limb_lt _ _) (bor_le _ _ _)
  have s1 := nsd_step (limb a 1) (limb b 1) (bor (limb a) (limb b) 1) (limb_lt _ _) (limb_lt _ _) (bor_le _ _ _)
  have s2 := nsd_step (limb a 2) (limb b 2) (bor (limb a) (limb b) 2) (limb_lt _ _) (limb_lt _ _) (bor_le _ _ _)
  have s3 := nsd_step (limb a 3) (limb b 3) (bor (limb a) (limb b) 3) (limb_lt _ _) (limb_lt _ _) (bor_le _ _ _)
  have l4 := bor_le (limb a) (limb b) 4
  have e0 : bor (limb a) (limb b) 0 = 0 := rfl
  have e1 : nsb (limb a 0) (limb b 0) (bor (limb a) (limb b) 0) = bor (limb a) (limb b) 1 := rfl
  have e2 : nsb (limb a 1) (limb b 1) (bor (limb a) (limb b) 1) = bor (limb a) (limb b) 2 := rfl
  have e3 : nsb (limb a 2) (limb b 2) (bor (limb a) (limb b) 2) = bor (limb a) (limb b) 3 := rfl
  have e4 : nsb (limb a 3) (limb b 3) (bor (limb a) (limb b) 3) = bor (limb a) (limb b) 4 := rfl
  rw [e1] at s0; rw [e2] at s1; rw [e3] at s2; rw [e4] at s3
  rw [dif_eq, brw_eq]
  generalize nsd (limb a 0) (limb b 0) (bor (limb a) (limb b) 0) = d0 at *
  generalize nsd (limb a 1) (limb b 1) (bor (limb a) (limb b) 1) = d1 at *
  generalize nsd (limb a 2) (limb b 2) (bor (limb a) (limb b) 2) = d2 at *
  generalize nsd (limb a 3) (limb b 3) (bor (limb a) (limb b) 3) = d3 at *
  generalize bor (limb a) (limb b) 1 = c1 at *
  generalize bor (limb a) (limb b) 2 = c2 at *
  generalize bor (limb a) (limb b) 3 = c3 at *
  generalize bor (limb a) (limb b) 4 = c4 at *
  generalize bor (limb a) (limb b) 0 = c0 at *
  unfold val4 at *
  unfold B256 at *
  split <;> omega
theorem sum_words {a b : Nat} (ha : a < B256) (hb : b < B256) :
    val4 (nas (limb a 0) (limb b 0) (car (limb a) (limb b) 0)) (nas (limb a 1) (limb b 1) (car (limb a) (limb b) 1)) (nas (limb a 2) (limb b 2) (car (limb a) (limb b) 2)) (nas (limb a 3) (limb b 3) (car (limb a) (limb b) 3)) = sum a b ∧ car (limb a) (limb b) 4 = cry a b := by
  have ea := val4_limb ha
  have eb := val4_limb hb
  have s0 := nas_step (limb a 0) (limb b 0) (car (limb a) (limb b) 0)
  have s1 := nas_step (limb a 1) (limb b 1) (car (limb a) (limb b) 1)
  have s2 := nas_step (limb a 2) (limb b 2) (car (limb a) (limb b) 2)
  have s3 := nas_step (limb a 3) (limb b 3) (car (limb a) (limb b) 3)
  have l4 := car_le (limb_lt a) (limb_lt b) 4
  have e0 : car (limb a) (limb b) 0 = 0 := rfl
  have e1 : nac (limb a 0) (limb b 0) (car (limb a) (limb b) 0) = car (limb a) (limb b) 1 := rfl
  have e2 : nac (limb a 1) (limb b 1) (car (limb a) (limb b) 1) = car (limb a) (limb b) 2 := rfl
  have e3 : nac (limb a 2) (limb b 2) (car (limb a) (limb b) 2) = car (limb a) (limb b) 3 := rfl
  have e4 : nac (limb a 3) (limb b 3) (car (limb a) (limb b) 3) = car (limb a) (limb b) 4 := rfl
  rw [e1] at s0; rw [e2] at s1; rw [e3] at s2; rw [e4] at s3
  rw [sum_eq, cry_eq]
  generalize nas (limb a 0) (limb b 0) (car (limb a) (limb b) 0) = d0 at *
  generalize nas (limb a 1) (limb b 1) (car (limb a) (limb b) 1) = d1 at *
  generalize nas (limb a 2) (limb b 2) (car (limb a) (limb b) 2) = d2 at *
  generalize nas (limb a 3) (limb b 3) (car (limb a) (limb b) 3) = d3 at *
  generalize car (limb a) (limb b) 1 = c1 at *
  generalize car (limb a) (limb b) 2 = c2 at *
  generalize car (limb a) (limb b) 3 = c3 at *
  generalize car (limb a) (limb b) 4 = c4 at *
  generalize car (limb a) (limb b) 0 = c0 at *
  unfold val4 at *
  unfold B256 at *
  omega
/-- The words of a difference, of a sum, as Go's array. -/
theorem vec_dif {a b : Nat} (ha : a < B256) (hb : b < B256) :
    (.agg #[.int .u64 (nsd (limb a 0) (limb b 0) (bor (limb a) (limb b) 0) : Int), .int .u64 (nsd (limb a 1) (limb b 1) (bor (limb a) (limb b) 1) : Int), .int .u64 (nsd (limb a 2) (limb b 2) (bor (limb a) (limb b) 2) : Int), .int .u64 (nsd (limb a 3) (limb b 3) (bor (limb a) (limb b) 3) : Int)] : Value) = vec (dif a b) := by
  rw [vec_words (nsd_lt _ _ _) (nsd_lt _ _ _) (nsd_lt _ _ _) (nsd_lt _ _ _), (dif_words ha hb).1]
theorem vec_sum {a b : Nat} (ha : a < B256) (hb : b < B256) :
    (.agg #[.int .u64 (nas (limb a 0) (limb b 0) (car (limb a) (limb b) 0) : Int), .int .u64 (nas (limb a 1) (limb b 1) (car (limb a) (limb b) 1) : Int), .int .u64 (nas (limb a 2) (limb b 2) (car (limb a) (limb b) 2) : Int), .int .u64 (nas (limb a 3) (limb b 3) (car (limb a) (limb b) 3) : Int)] : Value) = vec (sum a b) := by
  rw [vec_words (nas_lt _ _ _) (nas_lt _ _ _) (nas_lt _ _ _) (nas_lt _ _ _), (sum_words ha hb).1]
/-- Subtract: less m, unless the number is less than m. -/
noncomputable def red (m a c : Nat) : Nat := veil (if c % 2 = 0 ∧ a < m then a else dif a m)
theorem red_eq (m a c : Nat) : red m a c = if c % 2 = 0 ∧ a < m then a else dif a m := veil_eq _
theorem red_lt (m : Nat) {a : Nat} (c : Nat) (ha : a < B256) : red m a c < B256 := by rw [red_eq]; split; exact ha; exact dif_lt _ _
/-- Sum, difference, product, remainder, power modulo p. -/
noncomputable def addm (p a b : Nat) : Nat := veil ((a + b) % p)
theorem addm_eq (p a b : Nat) : addm p a b = (a + b) % p := veil_eq _
noncomputable def subm (p a b : Nat) : Nat := veil ((a + p - b) % p)
theorem subm_eq (p a b : Nat) : subm p a b = (a + p - b) % p := veil_eq _
noncomputable def mulm (p a b : Nat) : Nat := veil (a * b % p)
theorem mulm_eq (p a b : Nat) : mulm p a b = a * b % p := veil_eq _
noncomputable def powm (p a e : Nat) : Nat := veil (a ^ e % p)
theorem powm_eq (p a e : Nat) : powm p a e = a ^ e % p := veil_eq _
theorem red_sum {p a b : Nat} (hp : p < B256) (ha : a < p) (hb : b < p) : red p (sum a b) (cry a b) = addm p a b := by
  rw [red_eq, dif_eq, sum_eq, cry_eq, addm_eq]
  unfold B256 at *
  by_cases h : a + b < p
  · rw [Nat.mod_eq_of_lt h, if_pos (by omega)]; omega
  · have e : (a + b) % p = a + b - p := by rw [Nat.mod_eq_sub_mod (by omega)]; exact Nat.mod_eq_of_lt (by omega)
    rw [e, if_neg (by omega)]; omega
theorem addm_lt {p : Nat} (a b : Nat) (hp : 0 < p) : addm p a b < p := by rw [addm_eq]; exact Nat.mod_lt _ hp
theorem subm_lt {p : Nat} (a b : Nat) (hp : 0 < p) : subm p a b < p := by rw [subm_eq]; exact Nat.mod_lt _ hp
theorem mulm_lt {p : Nat} (a b : Nat) (hp : 0 < p) : mulm p a b < p := by rw [mulm_eq]; exact Nat.mod_lt _ hp
theorem powm_lt {p : Nat} (a b : Nat) (hp : 0 < p) : powm p a b < p := by rw [powm_eq]; exact Nat.mod_lt _ hp
/-- The bit with the weight 2^i. -/
noncomputable def bit (a i : Nat) : Nat := veil (a / 2 ^ i % 2)
theorem bit_eq (a i : Nat) : bit a i = a / 2 ^ i % 2 := veil_eq _
/-- A word shifted. -/
noncomputable def shr (x k : Nat) : Nat := veil (x / 2 ^ k)
theorem shr_eq (x k : Nat) : shr x k = x / 2 ^ k := veil_eq _
theorem shr_zero (x : Nat) : shr x 0 = x := by rw [shr_eq]; simp
theorem shr_succ (x k : Nat) : shr x (k + 1) = shr x k / 2 := by rw [shr_eq, shr_eq, Nat.pow_succ, Nat.div_div_eq_div_mul]
theorem shr_lt {x : Nat} (k : Nat) (hx : x < B64) : shr x k < B64 := by rw [shr_eq]; exact Nat.lt_of_le_of_lt (Nat.div_le_self _ _) hx
theorem bit_limb (a i : Nat) : shr (limb a (i / 64)) (i % 64) % 2 = bit a i := by
  rw [shr_eq, bit_eq, limb_eq]
  have h : i = 64 * (i / 64) + i % 64 := by omega
  have e : B64 = 2 ^ 64 := rfl
  conv => rhs; rw [h, Nat.pow_add, ← Nat.div_div_eq_div_mul]
  generalize a / 2 ^ (64 * (i / 64)) = x
  have hr : i % 64 < 64 := Nat.mod_lt _ (by decide)
  generalize i % 64 = r at *
  rw [e]
  have e2 : (2 : Nat) ^ 64 = 2 ^ r * 2 * 2 ^ (63 - r) := by rw [← Nat.pow_succ, ← Nat.pow_add]; congr 1; omega
  rw [e2, Nat.mul_assoc, Nat.mod_mul_right_div_self, Nat.mod_mul_right_mod]
theorem bit_le (a i : Nat) : bit a i ≤ 1 := by rw [bit_eq]; omega
theorem bit_high {a i : Nat} (ha : a < B256) (hi : 256 ≤ i) : bit a i = 0 := by
  rw [bit_eq, Nat.div_eq_of_lt (Nat.lt_of_lt_of_le ha ?_)]
  have : (2 : Nat) ^ 256 ≤ 2 ^ i := Nat.pow_le_pow_right (by decide) hi
  exact this
/-- A product bit by bit, from the highest bit on. -/
theorem shr_bit (b k : Nat) : b / 2 ^ k = 2 * (b / 2 ^ (k + 1)) + bit b k := by
  rw [bit_eq, Nat.pow_succ, ← Nat.div_div_eq_div_mul]; omega
theorem mulm_zero (p a : Nat) : mulm p a 0 = 0 := by rw [mulm_eq]; simp
theorem addm_mulm (p a x y : Nat) : addm p (mulm p a x) (mulm p a y) = mulm p a (x + y) := by
  rw [addm_eq, mulm_eq, mulm_eq, mulm_eq, Nat.mul_add, ← Nat.add_mod]
theorem mulm_one (p a : Nat) (ha : a < p) : mulm p a 1 = a := by rw [mulm_eq, Nat.mul_one, Nat.mod_eq_of_lt ha]
theorem mulm_bit0 (p a b k : Nat) (h : bit b k = 0) : addm p (mulm p a (b / 2 ^ (k + 1))) (mulm p a (b / 2 ^ (k + 1))) = mulm p a (b / 2 ^ k) := by
  rw [addm_mulm, shr_bit b k, h]; congr 1; omega
theorem mulm_bit1 (p a b k : Nat) (ha : a < p) (h : bit b k = 1) : addm p (addm p (mulm p a (b / 2 ^ (k + 1))) (mulm p a (b / 2 ^ (k + 1)))) a = mulm p a (b / 2 ^ k) := by
  rw [addm_mulm]
  conv => lhs; rw [← mulm_one p a ha, mulm_one p a ha]
  have e : addm p (mulm p a (b / 2 ^ (k + 1) + b / 2 ^ (k + 1))) a = addm p (mulm p a (b / 2 ^ (k + 1) + b / 2 ^ (k + 1))) (mulm p a 1) := by rw [mulm_one p a ha]
  rw [e, addm_mulm, shr_bit b k, h]; congr 1; omega
/-- The number that the highest bits of b are. -/
noncomputable def top (b k : Nat) : Nat := veil (b / 2 ^ k)
theorem top_eq (b k : Nat) : top b k = b / 2 ^ k := veil_eq _
theorem top_zero (b : Nat) : top b 0 = b := by rw [top_eq]; simp
theorem top_256 {b : Nat} (hb : b < B256) : top b 256 = 0 := by rw [top_eq]; exact Nat.div_eq_of_lt hb
theorem top_bit0 (p a b k : Nat) (h : bit b k = 0) : addm p (mulm p a (top b (k + 1))) (mulm p a (top b (k + 1))) = mulm p a (top b k) := by
  rw [top_eq, top_eq]; exact mulm_bit0 p a b k h
theorem top_bit1 (p a b k : Nat) (ha : a < p) (h : bit b k = 1) : addm p (addm p (mulm p a (top b (k + 1))) (mulm p a (top b (k + 1)))) a = mulm p a (top b k) := by
  rw [top_eq, top_eq]; exact mulm_bit1 p a b k ha h
theorem vec_lit {n a b c d : Nat} (_hn : n < B256) (e : n = val4 a b c d) (ha : a < B64) (hb : b < B64) (hc : c < B64) (hd : d < B64) :
    (.agg #[.int .u64 (a : Int), .int .u64 (b : Int), .int .u64 (c : Int), .int .u64 (d : Int)] : Value) = vec n := by rw [vec_words ha hb hc hd, e]
theorem vec_one : (.agg #[.int .u64 1, .int .u64 0, .int .u64 0, .int .u64 0] : Value) = vec 1 := vec_lit (a := 1) (b := 0) (c := 0) (d := 0) (by decide) (by decide) (by decide) (by decide) (by decide) (by decide)
theorem vec_two : (.agg #[.int .u64 2, .int .u64 0, .int .u64 0, .int .u64 0] : Value) = vec 2 := vec_lit (a := 2) (b := 0) (c := 0) (d := 0) (by decide) (by decide) (by decide) (by decide) (by decide) (by decide)
theorem vec_zero : (.agg #[.int .u64 0, .int .u64 0, .int .u64 0, .int .u64 0] : Value) = vec 0 := vec_lit (a := 0) (b := 0) (c := 0) (d := 0) (by decide) (by decide) (by decide) (by decide) (by decide) (by decide)
end Go.Proofs.YtfaicnileghjiaaDoor
