/-
  Numbers in sixteen digits of 16 bits: plain arithmetic, no program.
-/
import Derived.Test.YthmhdhamhlomoaaDoorNum
import Derived.Laws.Bits64
namespace Go.Proofs.YthmhdhamhlomoaaDoor
/-- The digit with the weight 65536^i. -/
noncomputable def dig (a i : Nat) : Nat := veil (a / 65536 ^ i % 65536)
theorem dig_eq (a i : Nat) : dig a i = a / 65536 ^ i % 65536 := veil_eq _
theorem dig_lt (a i : Nat) : dig a i < 65536 := by rw [dig_eq]; exact Nat.mod_lt _ (by decide)
/-- 65536^j. -/
noncomputable def pw (j : Nat) : Nat := veil (65536 ^ j)
theorem pw_eq (j : Nat) : pw j = 65536 ^ j := veil_eq _
theorem pw_zero : pw 0 = 1 := by rw [pw_eq]
theorem pw_succ (j : Nat) (h : j < 3) : IntKind.u64.wrap ((pw j : Int) * 65536) = (pw (j + 1) : Int) := by
  rw [IntKind.wrap_u64, pw_eq, pw_eq]
  match j, h with
  | 0, _ => rfl
  | 1, _ => rfl
  | 2, _ => rfl
/-- A word without its last k digits. -/
noncomputable def sh16 (x k : Nat) : Nat := veil (x / 65536 ^ k)
theorem sh16_eq (x k : Nat) : sh16 x k = x / 65536 ^ k := veil_eq _
theorem sh16_zero (x : Nat) : sh16 x 0 = x := by rw [sh16_eq]; simp
theorem sh16_succ (x k : Nat) : sh16 x k / 65536 = sh16 x (k + 1) := by rw [sh16_eq, sh16_eq, Nat.pow_succ, Nat.div_div_eq_div_mul]
theorem sh16_lt {x : Nat} (k : Nat) (hx : x < B64) : sh16 x k < B64 := by rw [sh16_eq]; exact Nat.lt_of_le_of_lt (Nat.div_le_self _ _) hx
theorem dig_limb (a i k : Nat) (hk : k < 4) : sh16 (limb a i) k % 65536 = dig a (4 * i + k) := by
  rw [sh16_eq, dig_eq, limb_eq]
  have e1 : 65536 ^ (4 * i + k) = 2 ^ (64 * i) * 65536 ^ k := by
    rw [Nat.pow_add]; congr 1
    rw [show (65536 : Nat) = 2 ^ 16 from rfl, ← Nat.pow_mul]; congr 1; omega
  rw [e1, ← Nat.div_div_eq_div_mul]
  generalize a / 2 ^ (64 * i) = x
  have e2 : B64 = 65536 ^ k * (65536 * 65536 ^ (3 - k)) := by
    rw [← Nat.pow_succ', ← Nat.pow_add]
    have : k + (3 - k).succ = 4 := by omega
    rw [this]; rfl
  rw [e2, Nat.mod_mul_right_div_self, Nat.mod_mul_right_mod]

/-- What the words hold when i digits have come. -/
noncomputable def acc (f : Nat → Nat) : Nat → Nat → Nat
  | 0, _ => 0
  | i + 1, j => if i / 4 = j then acc f i j + f i * 65536 ^ (i % 4) else acc f i j
theorem acc_low (f : Nat → Nat) (j : Nat) : ∀ i, i ≤ 4 * j → acc f i j = 0 := by
  intro i
  induction i with
  | zero => intro _; rfl
  | succ i ih => intro h; rw [acc, if_neg (by omega)]; exact ih (by omega)
theorem acc_lt {f : Nat → Nat} (hf : ∀ i, f i < 65536) (j : Nat) : ∀ r, r ≤ 4 → acc f (4 * j + r) j < 65536 ^ r := by
  intro r
  induction r with
  | zero => intro _; rw [acc_low f j _ (by omega)]; decide
  | succ r ih =>
    intro h
    have := ih (by omega)
    rw [← Nat.add_assoc, acc, if_pos (by omega), show (4 * j + r) % 4 = r by omega, Nat.pow_succ]
    have h1 : f (4 * j + r) * 65536 ^ r ≤ 65535 * 65536 ^ r := Nat.mul_le_mul_right _ (by have := hf (4 * j + r); omega)
    omega
theorem acc_here {f : Nat → Nat} (hf : ∀ i, f i < 65536) (k : Nat) : acc f k (k / 4) < 65536 ^ (k % 4) := by
  have := acc_lt hf (k / 4) (k % 4) (by omega)
  rwa [show 4 * (k / 4) + k % 4 = k by omega] at this
theorem acc_other (f : Nat → Nat) (k j : Nat) (h : k / 4 ≠ j) : acc f (k + 1) j = acc f k j := by rw [acc, if_neg h]
theorem acc_word {f : Nat → Nat} (hf : ∀ i, f i < 65536) (k : Nat) :
    IntKind.u64.wrap ((acc f k (k / 4) : Int) + IntKind.u64.wrap ((f k : Int) * (pw (k % 4) : Int))) = (acc f (k + 1) (k / 4) : Int) := by
  have h1 := acc_here hf k
  have h2 := hf k
  rw [IntKind.wrap_u64, IntKind.wrap_u64, pw_eq, acc, if_pos rfl]
  have hr : k % 4 = 0 ∨ k % 4 = 1 ∨ k % 4 = 2 ∨ k % 4 = 3 := by omega
  rcases hr with e | e | e | e <;> rw [e] at h1 ⊢ <;> simp at h1 ⊢ <;> omega
theorem acc_lt64 {f : Nat → Nat} (hf : ∀ i, f i < 65536) (j : Nat) : acc f 16 j < B64 := by
  by_cases h : j < 4
  · have := acc_lt hf j 4 (by omega)
    have e : ∀ d i, i + d = 16 → 4 * j + 4 ≤ i → acc f i j = acc f (4 * j + 4) j := by
      intro d i hi hl
      induction i generalizing d with
      | zero => omega
      | succ i ih =>
        by_cases g : 4 * j + 4 = i + 1
        · rw [g]
        · rw [acc_other f i j (by omega)]; exact ih (d + 1) (by omega) (by omega)
    rw [e 0 16 rfl (by omega)]
    exact this
  · rw [acc_low f j 16 (by omega)]; decide

/-- The first k digits as a number. -/
noncomputable def num (f : Nat → Nat) : Nat → Nat
  | 0 => 0
  | k + 1 => num f k + f k * 65536 ^ k
theorem val4_acc (f : Nat → Nat) : val4 (acc f 16 0) (acc f 16 1) (acc f 16 2) (acc f 16 3) = num f 16 := by
  simp [acc, num, val4]
  omega
theorem num_dig (a k : Nat) : num (dig a) k = a % 65536 ^ k := by
  induction k with
  | zero => simp [num, Nat.mod_one]
  | succ k ih => rw [num, ih, dig_eq, Nat.pow_succ, Nat.mod_mul, Nat.mul_comm]
theorem num_dig16 {a : Nat} (ha : a < B256) : num (dig a) 16 = a := by rw [num_dig]; exact Nat.mod_eq_of_lt ha

/-- Difference and borrow of two digits; sum and carry. -/
noncomputable def dsd (x y c : Nat) : Nat := veil (if x < y + c then x + 65536 - y - c else x - y - c)
theorem dsd_eq (x y c : Nat) : dsd x y c = if x < y + c then x + 65536 - y - c else x - y - c := veil_eq _
noncomputable def bor16 (a b : Nat → Nat) : Nat → Nat
  | 0 => 0
  | k + 1 => nsb (a k) (b k) (bor16 a b k)
theorem bor16_le (a b : Nat → Nat) (k : Nat) : bor16 a b k ≤ 1 := by
  cases k
  · simp [bor16]
  · exact nsb_le _ _ _
theorem dsd_lt {x y c : Nat} (hx : x < 65536) (hy : y < 65536) (hc : c ≤ 1) : dsd x y c < 65536 := by rw [dsd_eq]; split <;> omega
theorem dsd_step {x y c : Nat} (hx : x < 65536) (hy : y < 65536) (hc : c ≤ 1) : dsd x y c + y + c = x + 65536 * nsb x y c := by rw [dsd_eq, nsb_eq]; split <;> omega
noncomputable def sub16 (a b : Nat) (k : Nat) : Nat := dsd (dig a k) (dig b k) (bor16 (dig a) (dig b) k)
theorem sub16_lt (a b k : Nat) : sub16 a b k < 65536 := dsd_lt (dig_lt _ _) (dig_lt _ _) (bor16_le _ _ _)
theorem sub16_num (a b k : Nat) : num (sub16 a b) k + b % 65536 ^ k = a % 65536 ^ k + 65536 ^ k * bor16 (dig a) (dig b) k := by
  induction k with
  | zero => simp [num, bor16, Nat.mod_one]
  | succ k ih =>
    have hs := dsd_step (dig_lt a k) (dig_lt b k) (bor16_le (dig a) (dig b) k)
    have ea := num_dig a (k + 1)
    have eb := num_dig b (k + 1)
    rw [num, num_dig] at ea eb
    rw [num, ← ea, ← eb, Nat.pow_succ, bor16]
    unfold sub16 at *
    generalize nsb (dig a k) (dig b k) (bor16 (dig a) (dig b) k) = c' at *
    generalize dsd (dig a k) (dig b k) (bor16 (dig a) (dig b) k) = d at *
    generalize bor16 (dig a) (dig b) k = c at *
    generalize 65536 ^ k = P at *
    have h2 : (d + dig b k + c) * P = (dig a k + 65536 * c') * P := by rw [hs]
    rw [Nat.add_mul, Nat.add_mul, Nat.add_mul, Nat.mul_assoc] at h2
    rw [Nat.mul_comm P c] at ih
    rw [Nat.mul_comm P 65536, Nat.mul_assoc, Nat.mul_comm P c']
    omega
theorem sub16_words {a b : Nat} (ha : a < B256) (hb : b < B256) : num (sub16 a b) 16 = dif a b ∧ bor16 (dig a) (dig b) 16 = brw a b := by
  have h := sub16_num a b 16
  have hl : num (sub16 a b) 16 < B256 := by
    have := val4_lt (acc_lt64 (sub16_lt a b) 0) (acc_lt64 (sub16_lt a b) 1) (acc_lt64 (sub16_lt a b) 2) (acc_lt64 (sub16_lt a b) 3)
    rwa [val4_acc] at this
  have hc := bor16_le (dig a) (dig b) 16
  rw [Nat.mod_eq_of_lt (show b < 65536 ^ 16 from hb), Nat.mod_eq_of_lt (show a < 65536 ^ 16 from ha)] at h
  have e : (65536 : Nat) ^ 16 = B256 := rfl
  rw [e] at h
  rw [dif_eq, brw_eq]
  generalize bor16 (dig a) (dig b) 16 = c at *
  generalize num (sub16 a b) 16 = s at *
  unfold B256 at *
  have hc2 : c = 0 ∨ c = 1 := by omega
  rcases hc2 with rfl | rfl <;> split <;> omega
noncomputable def car16 (a b : Nat → Nat) : Nat → Nat
  | 0 => 0
  | k + 1 => (a k + b k + car16 a b k) / 65536
theorem car16_le {a b : Nat → Nat} (ha : ∀ i, a i < 65536) (hb : ∀ i, b i < 65536) (k : Nat) : car16 a b k ≤ 1 := by
  induction k with
  | zero => simp [car16]
  | succ k ih => rw [car16]; have := ha k; have := hb k; omega
noncomputable def add16 (a b : Nat) (k : Nat) : Nat := veil ((dig a k + dig b k + car16 (dig a) (dig b) k) % 65536)
theorem add16_eq (a b k : Nat) : add16 a b k = (dig a k + dig b k + car16 (dig a) (dig b) k) % 65536 := veil_eq _
theorem add16_lt (a b k : Nat) : add16 a b k < 65536 := by rw [add16_eq]; exact Nat.mod_lt _ (by decide)
theorem add16_num (a b k : Nat) : num (add16 a b) k + 65536 ^ k * car16 (dig a) (dig b) k = a % 65536 ^ k + b % 65536 ^ k := by
  induction k with
  | zero => simp [num, car16, Nat.mod_one]
  | succ k ih =>
    have ea := num_dig a (k + 1)
    have eb := num_dig b (k + 1)
    rw [num, num_dig] at ea eb
    rw [num, ← ea, ← eb, Nat.pow_succ, car16, add16_eq]
    have hs : (dig a k + dig b k + car16 (dig a) (dig b) k) % 65536 + 65536 * ((dig a k + dig b k + car16 (dig a) (dig b) k) / 65536) = dig a k + dig b k + car16 (dig a) (dig b) k := by omega
    generalize (dig a k + dig b k + car16 (dig a) (dig b) k) % 65536 = d at *
    generalize (dig a k + dig b k + car16 (dig a) (dig b) k) / 65536 = c' at *
    generalize car16 (dig a) (dig b) k = c at *
    generalize 65536 ^ k = P at *
    have h2 : (d + 65536 * c') * P = (dig a k + dig b k + c) * P := by rw [hs]
    rw [Nat.add_mul, Nat.add_mul, Nat.add_mul, Nat.mul_assoc] at h2
    rw [Nat.mul_comm P c] at ih
    rw [Nat.mul_comm P 65536, Nat.mul_assoc, Nat.mul_comm P c']
    omega
theorem add16_words {a b : Nat} (ha : a < B256) (hb : b < B256) : num (add16 a b) 16 = sum a b ∧ car16 (dig a) (dig b) 16 = cry a b := by
  have h := add16_num a b 16
  have hl : num (add16 a b) 16 < B256 := by
    have := val4_lt (acc_lt64 (add16_lt a b) 0) (acc_lt64 (add16_lt a b) 1) (acc_lt64 (add16_lt a b) 2) (acc_lt64 (add16_lt a b) 3)
    rwa [val4_acc] at this
  have hc := car16_le (dig_lt a) (dig_lt b) 16
  rw [Nat.mod_eq_of_lt (show b < 65536 ^ 16 from hb), Nat.mod_eq_of_lt (show a < 65536 ^ 16 from ha)] at h
  have e : (65536 : Nat) ^ 16 = B256 := rfl
  rw [e] at h
  rw [sum_eq, cry_eq]
  generalize car16 (dig a) (dig b) 16 = c at *
  generalize num (add16 a b) 16 = s at *
  unfold B256 at *
  have hc2 : c = 0 ∨ c = 1 := by omega
  rcases hc2 with rfl | rfl <;> omega
/-- Digits as a row's cells. -/
noncomputable def digs (f : Nat → Nat) (n : Nat) : List Value := (List.range n).map fun i => .int .i64 (f i : Int)
theorem digs_length (f : Nat → Nat) (n : Nat) : (digs f n).length = n := by simp [digs]
theorem digs_get (f : Nat → Nat) {n i : Nat} (h : i < n) : (digs f n)[i]? = some (.int .i64 (f i : Int)) := by simp [digs, h]
theorem digs_succ (f : Nat → Nat) (n : Nat) : digs f (n + 1) = digs f n ++ [.int .i64 (f n : Int)] := by simp [digs, List.range_succ]
end Go.Proofs.YthmhdhamhlomoaaDoor
