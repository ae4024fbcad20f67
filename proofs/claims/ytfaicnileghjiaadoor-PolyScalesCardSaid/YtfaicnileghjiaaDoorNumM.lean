/-
  Montgomery's product: plain arithmetic, no program.
-/
import Derived.Test.YtfaicnileghjiaaDoorNum2
import Derived.Test.YtfaicnileghjiaaDoorNum3
namespace Go.Proofs.YtfaicnileghjiaaDoor

/-- High and low word of a product and two words. -/
noncomputable def mah (a b c d : Nat) : Nat := veil ((a * b + c + d) / 18446744073709551616)
theorem mah_eq (a b c d : Nat) : mah a b c d = (a * b + c + d) / 18446744073709551616 := veil_eq _
noncomputable def mal (a b c d : Nat) : Nat := veil ((a * b + c + d) % 18446744073709551616)
theorem mal_eq (a b c d : Nat) : mal a b c d = (a * b + c + d) % 18446744073709551616 := veil_eq _
theorem ma_step (a b c d : Nat) : mal a b c d + 18446744073709551616 * mah a b c d = a * b + c + d := by
  rw [mah_eq, mal_eq]; omega
theorem mal_lt (a b c d : Nat) : mal a b c d < B64 := by rw [mal_eq]; exact Nat.mod_lt _ (by decide)
theorem mah_lt {a b c d : Nat} (ha : a < B64) (hb : b < B64) (hc : c < B64) (hd : d < B64) : mah a b c d < B64 := by
  rw [mah_eq]
  unfold B64 at *
  have := Nat.mul_le_mul (show a ≤ 18446744073709551615 by omega) (show b ≤ 18446744073709551615 by omega)
  omega
/-- The carries and the words of a row of products. -/
noncomputable def mcar (x : Nat) (a t : Nat → Nat) : Nat → Nat
  | 0 => 0
  | k + 1 => mah (a k) x (t k) (mcar x a t k)
noncomputable def mwd (x : Nat) (a t : Nat → Nat) (k : Nat) : Nat := mal (a k) x (t k) (mcar x a t k)
noncomputable def dcar (q : Nat) (m t : Nat → Nat) : Nat → Nat
  | 0 => 0
  | k + 1 => mah q (m k) (t k) (dcar q m t k)
noncomputable def dwd (q : Nat) (m t : Nat → Nat) (k : Nat) : Nat := mal q (m k) (t k) (dcar q m t k)
theorem mcar_lt {x : Nat} {a t : Nat → Nat} (hx : x < B64) (ha : ∀ k, a k < B64) (ht : ∀ k, t k < B64) : ∀ k, mcar x a t k < B64
  | 0 => by unfold mcar; decide
  | k + 1 => mah_lt (ha k) hx (ht k) (mcar_lt hx ha ht k)
theorem dcar_lt {q : Nat} {m t : Nat → Nat} (hq : q < B64) (hm : ∀ k, m k < B64) (ht : ∀ k, t k < B64) : ∀ k, dcar q m t k < B64
  | 0 => by unfold dcar; decide
  | k + 1 => mah_lt hq (hm k) (ht k) (dcar_lt hq hm ht k)
theorem mwd_lt (x : Nat) (a t : Nat → Nat) (k : Nat) : mwd x a t k < B64 := mal_lt _ _ _ _
theorem dwd_lt (q : Nat) (m t : Nat → Nat) (k : Nat) : dwd q m t k < B64 := mal_lt _ _ _ _
/-- A product of two words, its low half. -/
noncomputable def mulw (a b : Nat) : Nat := veil (a * b % 18446744073709551616)
theorem mulw_eq (a b : Nat) : mulw a b = a * b % 18446744073709551616 := veil_eq _
theorem mulw_lt (a b : Nat) : mulw a b < B64 := by rw [mulw_eq]; exact Nat.mod_lt _ (by decide)
theorem mul_val4 (x a b c d : Nat) : x * val4 a b c d = val4 (x * a) (x * b) (x * c) (x * d) := by
  unfold val4
  simp only [Nat.mul_add, Nat.mul_left_comm x]
/-- The lowest word falls away. -/
theorem low_zero {n0 m0 inv : Nat} (h : m0 * inv % 18446744073709551616 = 18446744073709551615) : (mulw n0 inv * m0 + n0 + 0) % 18446744073709551616 = 0 := by
  have e : m0 * inv = 18446744073709551616 * (m0 * inv / 18446744073709551616) + 18446744073709551615 := by rw [← h]; exact (Nat.div_add_mod _ _).symm
  generalize m0 * inv / 18446744073709551616 = w at e
  have e2 : mulw n0 inv * m0 % 18446744073709551616 = n0 * (m0 * inv) % 18446744073709551616 := by
    rw [mulw_eq, Nat.mod_mul_mod, Nat.mul_assoc, Nat.mul_comm inv m0]
  have e3 : n0 * (m0 * inv) + n0 = 18446744073709551616 * (n0 * w + n0) := by
    rw [e, Nat.mul_add, Nat.mul_add, ← Nat.mul_assoc n0, Nat.mul_comm n0 18446744073709551616, Nat.mul_assoc]
    omega
  rw [Nat.add_zero, Nat.add_mod, e2, ← Nat.add_mod, e3, Nat.mul_mod_right]
/-- What a round's words come to. -/
noncomputable def rnd (x inv : Nat) (a m t : Nat → Nat) : Nat → Nat
  | 0 => dwd (mulw (mwd x a t 0) inv) m (mwd x a t) 1
  | 1 => dwd (mulw (mwd x a t 0) inv) m (mwd x a t) 2
  | 2 => dwd (mulw (mwd x a t 0) inv) m (mwd x a t) 3
  | 3 => nas (nas (t 4) (mcar x a t 4) 0) (dcar (mulw (mwd x a t 0) inv) m (mwd x a t) 4) 0
  | 4 => nac (t 4) (mcar x a t 4) 0 + nac (nas (t 4) (mcar x a t 4) 0) (dcar (mulw (mwd x a t 0) inv) m (mwd x a t) 4) 0
  | _ => 0
def num5 (t : Nat → Nat) : Nat := val4 (t 0) (t 1) (t 2) (t 3) + 115792089237316195423570985008687907853269984665640564039457584007913129639936 * t 4
theorem rnd_lt {x inv : Nat} {a m t : Nat → Nat} (hx : x < B64) (ha : ∀ k, a k < B64) (hm : ∀ k, m k < B64) (ht : ∀ k, t k < B64) (k : Nat) : rnd x inv a m t k < B64 := by
  match k with
  | 0 => exact dwd_lt _ _ _ _
  | 1 => exact dwd_lt _ _ _ _
  | 2 => exact dwd_lt _ _ _ _
  | 3 => exact nas_lt _ _ _
  | 4 =>
    have h1 := nac_le (ht 4) (mcar_lt hx ha ht 4) (Nat.zero_le 1)
    have h2 := nac_le (nas_lt (t 4) (mcar x a t 4) 0) (dcar_lt (mulw_lt (mwd x a t 0) inv) hm (mwd_lt x a t) 4) (Nat.zero_le 1)
    simp only [rnd]
    unfold B64
    omega
  | k + 5 => simp only [rnd]; decide
set_option maxHeartbeats 1000000 in
theorem rnd_num {x inv : Nat} {a m t : Nat → Nat} (h : m 0 * inv % 18446744073709551616 = 18446744073709551615) :
    18446744073709551616 * num5 (rnd x inv a m t) = num5 t + x * val4 (a 0) (a 1) (a 2) (a 3) + mulw (mwd x a t 0) inv * val4 (m 0) (m 1) (m 2) (m 3) := by
  have s0 : mwd x a t 0 + 18446744073709551616 * mcar x a t 1 = a 0 * x + t 0 + 0 := ma_step _ _ _ _
  have s1 : mwd x a t 1 + 18446744073709551616 * mcar x a t 2 = a 1 * x + t 1 + mcar x a t 1 := ma_step _ _ _ _
  have s2 : mwd x a t 2 + 18446744073709551616 * mcar x a t 3 = a 2 * x + t 2 + mcar x a t 2 := ma_step _ _ _ _
  have s3 : mwd x a t 3 + 18446744073709551616 * mcar x a t 4 = a 3 * x + t 3 + mcar x a t 3 := ma_step _ _ _ _
  have s4 := (nas_step (t 4) (mcar x a t 4) 0).1
  rw [mul_val4, mul_val4, Nat.mul_comm x (a 0), Nat.mul_comm x (a 1), Nat.mul_comm x (a 2), Nat.mul_comm x (a 3)]
  simp only [num5, rnd]
  generalize hq : mulw (mwd x a t 0) inv = q
  have z : (q * m 0 + mwd x a t 0 + 0) % 18446744073709551616 = 0 := by rw [← hq]; exact low_zero h
  have d0 : dwd q m (mwd x a t) 0 + 18446744073709551616 * dcar q m (mwd x a t) 1 = q * m 0 + mwd x a t 0 + 0 := ma_step _ _ _ _
  have d1 : dwd q m (mwd x a t) 1 + 18446744073709551616 * dcar q m (mwd x a t) 2 = q * m 1 + mwd x a t 1 + dcar q m (mwd x a t) 1 := ma_step _ _ _ _
  have d2 : dwd q m (mwd x a t) 2 + 18446744073709551616 * dcar q m (mwd x a t) 3 = q * m 2 + mwd x a t 2 + dcar q m (mwd x a t) 2 := ma_step _ _ _ _
  have d3 : dwd q m (mwd x a t) 3 + 18446744073709551616 * dcar q m (mwd x a t) 4 = q * m 3 + mwd x a t 3 + dcar q m (mwd x a t) 3 := ma_step _ _ _ _
  have d4 := (nas_step (nas (t 4) (mcar x a t 4) 0) (dcar q m (mwd x a t) 4) 0).1
  have dl := dwd_lt q m (mwd x a t) 0
  unfold B64 at dl
  generalize nas (nas (t 4) (mcar x a t 4) 0) (dcar q m (mwd x a t) 4) 0 = r3 at *
  generalize nac (nas (t 4) (mcar x a t 4) 0) (dcar q m (mwd x a t) 4) 0 = k1 at *
  generalize nas (t 4) (mcar x a t 4) 0 = s4 at *
  generalize nac (t 4) (mcar x a t 4) 0 = s5 at *
  generalize dwd q m (mwd x a t) 0 = r_ at *
  generalize dwd q m (mwd x a t) 1 = r0 at *
  generalize dwd q m (mwd x a t) 2 = r1 at *
  generalize dwd q m (mwd x a t) 3 = r2 at *
  generalize dcar q m (mwd x a t) 1 = e1 at *
  generalize dcar q m (mwd x a t) 2 = e2 at *
  generalize dcar q m (mwd x a t) 3 = e3 at *
  generalize dcar q m (mwd x a t) 4 = e4 at *
  generalize mcar x a t 1 = c1 at *
  generalize mcar x a t 2 = c2 at *
  generalize mcar x a t 3 = c3 at *
  generalize mcar x a t 4 = c4 at *
  generalize mwd x a t 0 = n0 at *
  generalize mwd x a t 1 = n1 at *
  generalize mwd x a t 2 = n2 at *
  generalize mwd x a t 3 = n3 at *
  generalize q * m 0 = p0 at *
  generalize q * m 1 = p1 at *
  generalize q * m 2 = p2 at *
  generalize q * m 3 = p3 at *
  generalize a 0 * x = f0 at *
  generalize a 1 * x = f1 at *
  generalize a 2 * x = f2 at *
  generalize a 3 * x = f3 at *
  have hr : r_ = 0 := by omega
  subst hr
  unfold val4
  omega
/-- The words behind i rounds. -/
def Rounds (m a b i : Nat) (t : Nat → Nat) : Prop := ∃ Q, B64 ^ i * num5 t = a * (b % B64 ^ i) + Q * m ∧ Q < B64 ^ i
theorem Rounds.zero (m a b : Nat) : Rounds m a b 0 (fun _ => 0) := ⟨0, by simp [num5, val4, Nat.mod_one], by decide⟩
theorem limb_pow (b i : Nat) : b % B64 ^ (i + 1) = b % B64 ^ i + B64 ^ i * limb b i := by
  rw [Nat.mod_pow_succ, limb_eq, show B64 = 2 ^ 64 by decide, Nat.pow_mul]
theorem Rounds.step {m a b i inv : Nat} {t : Nat → Nat} (hm : m < B256) (ha : a < B256) (h : limb m 0 * inv % 18446744073709551616 = 18446744073709551615) (hr : Rounds m a b i t) : Rounds m a b (i + 1) (rnd (limb b i) inv (limb a) (limb m) t) := by
  obtain ⟨Q, e, hQ⟩ := hr
  have r := rnd_num (x := limb b i) (a := limb a) (t := t) h
  rw [val4_limb hm, val4_limb ha] at r
  generalize hq : mulw (mwd (limb b i) (limb a) t 0) inv = q at r
  have hql : q < B64 := by rw [← hq]; exact mulw_lt _ _
  refine ⟨Q + B64 ^ i * q, ?_, ?_⟩
  · rw [limb_pow, Nat.pow_succ, Nat.mul_assoc, show B64 = 18446744073709551616 from rfl, r, ← show B64 = 18446744073709551616 from rfl, Nat.mul_add, Nat.mul_add, e, Nat.mul_add, Nat.add_mul, Nat.mul_assoc (B64 ^ i) q m, Nat.mul_left_comm a (B64 ^ i), Nat.mul_comm a (limb b i)]
    omega
  · rw [Nat.pow_succ]
    have : B64 ^ i * q + B64 ^ i ≤ B64 ^ i * B64 := by rw [← Nat.mul_succ]; exact Nat.mul_le_mul_left _ hql
    omega
/-- The inverse of 2^256. -/
noncomputable def rinv (m : Nat) : Nat := open Classical in if h : ∃ y, B256 * y % m = 1 then Classical.choose h else 0
theorem rinv_eq {m : Nat} (h : ∃ y, B256 * y % m = 1) : B256 * rinv m % m = 1 := by
  unfold rinv
  rw [dif_pos h]
  exact Classical.choose_spec h
/-- Montgomery's product; the form of a value; the value of a form. -/
noncomputable def mont (m a b : Nat) : Nat := veil (a * b * rinv m % m)
theorem mont_eq (m a b : Nat) : mont m a b = a * b * rinv m % m := veil_eq _
theorem mont_lt {m : Nat} (a b : Nat) (hm : 0 < m) : mont m a b < m := by rw [mont_eq]; exact Nat.mod_lt _ hm
/-- A field's constants. -/
def FieldOK (m inv : Nat) : Prop := m < B256 ∧ 2 < m ∧ limb m 0 * inv % 18446744073709551616 = 18446744073709551615 ∧ (∃ y, B256 * y % m = 1) ∧ inv < B64
theorem mont_of {m T Q a b : Nat} (h : ∃ y, B256 * y % m = 1) (e : B256 * T = a * b + Q * m) : T % m = mont m a b := by
  have r := rinv_eq h
  have e1 : a * b % m = B256 * T % m := by rw [e, Nat.add_mul_mod_self_right]
  rw [mont_eq, Nat.mul_mod, e1, ← Nat.mul_mod, Nat.mul_assoc, Nat.mul_left_comm, Nat.mul_mod T, r]
  by_cases h1 : 1 < m
  · rw [Nat.mul_one, Nat.mod_mod]
  · rw [Nat.mul_one, Nat.mod_mod]
/-- Behind four rounds, and the last subtraction. -/
theorem Rounds.fin {m a b inv : Nat} {t : Nat → Nat} (hF : FieldOK m inv) (hb : b < B256) (hab : a * b < B256 * m) (ht : ∀ k, t k < B64) (hr : Rounds m a b 4 t) : red m (val4 (t 0) (t 1) (t 2) (t 3)) (t 4) = mont m a b := by
  obtain ⟨Q, e, hQ⟩ := hr
  obtain ⟨hm, h2, _, hy, _⟩ := hF
  have hB : B64 ^ 4 = B256 := by decide
  rw [hB] at e hQ
  rw [Nat.mod_eq_of_lt hb] at e
  have hx := val4_lt (ht 0) (ht 1) (ht 2) (ht 3)
  have hT := mont_of hy e
  have hlt : num5 t < 2 * m := by
    have h1 : Q * m ≤ B256 * m := Nat.mul_le_mul_right m (Nat.le_of_lt hQ)
    refine Nat.lt_of_mul_lt_mul_left (a := B256) ?_
    rw [e, show B256 * (2 * m) = B256 * m + B256 * m by rw [Nat.mul_left_comm]; omega]
    omega
  rw [← hT]
  unfold num5 at hlt ⊢
  generalize val4 (t 0) (t 1) (t 2) (t 3) = x at *
  generalize t 4 = c at *
  rw [red_eq, dif_eq]
  unfold B256 at *
  have hc : c ≤ 1 := by omega
  by_cases hcm : x + 115792089237316195423570985008687907853269984665640564039457584007913129639936 * c < m
  · rw [if_pos (by omega), Nat.mod_eq_of_lt hcm]; omega
  · have e2 : (x + 115792089237316195423570985008687907853269984665640564039457584007913129639936 * c) % m = x + 115792089237316195423570985008687907853269984665640564039457584007913129639936 * c - m := by rw [Nat.mod_eq_sub_mod (by omega)]; exact Nat.mod_eq_of_lt (by omega)
    rw [e2, if_neg (by omega)]
    omega
theorem fieldOK_1 : FieldOK P1 I1 := by
  refine ⟨P1_lt, P1_two, ?_, ⟨10665060850805439052171011777115991512801182798151104582581619579676209308938, by decide⟩, by decide⟩
  have e : limb P1 0 = 18446744073709551597 := by have := limbs_P1.1; omega
  rw [e]; decide
theorem fieldOK_2 : FieldOK P2 I2 := by
  refine ⟨P2_lt, P2_two, ?_, ⟨43790243014242295660885426880012836369732278457577312309071968676491870960761, by decide⟩, by decide⟩
  have e : limb P2 0 = 17562291160714782033 := by have := limbs_P2.1; omega
  rw [e]; decide
/-- The form of a value, the value of a form. -/
noncomputable def frm (m v : Nat) : Nat := veil (B256 * v % m)
theorem frm_eq (m v : Nat) : frm m v = B256 * v % m := veil_eq _
theorem frm_lt {m : Nat} (v : Nat) (hm : 0 < m) : frm m v < m := by rw [frm_eq]; exact Nat.mod_lt _ hm
noncomputable def valm (m a : Nat) : Nat := veil (a * rinv m % m)
theorem valm_eq (m a : Nat) : valm m a = a * rinv m % m := veil_eq _
theorem valm_lt {m : Nat} (a : Nat) (hm : 0 < m) : valm m a < m := by rw [valm_eq]; exact Nat.mod_lt _ hm
theorem valm_frm {m v : Nat} (h : ∃ y, B256 * y % m = 1) (hv : v < m) : valm m (frm m v) = v := by
  rw [valm_eq, frm_eq, Nat.mod_mul_mod, Nat.mul_right_comm, Nat.mul_mod, rinv_eq h, Nat.one_mul, Nat.mod_mod, Nat.mod_eq_of_lt hv]
theorem frm_valm {m a : Nat} (h : ∃ y, B256 * y % m = 1) (ha : a < m) : frm m (valm m a) = a := by
  rw [valm_eq, frm_eq, Nat.mul_mod_mod, Nat.mul_left_comm, Nat.mul_mod, rinv_eq h, Nat.mul_one, Nat.mod_mod, Nat.mod_eq_of_lt ha]
theorem frm_inj {m v u : Nat} (h : ∃ y, B256 * y % m = 1) (hv : v < m) (hu : u < m) (e : frm m v = frm m u) : v = u := by
  rw [← valm_frm h hv, e, valm_frm h hu]
theorem frm_mulm {m : Nat} (h : ∃ y, B256 * y % m = 1) (x y : Nat) : mont m (frm m x) (frm m y) = frm m (mulm m x y) := by
  rw [mont_eq, frm_eq, frm_eq, frm_eq, mulm_eq, Nat.mul_mod_mod]
  have e : B256 * x % m * (B256 * y % m) * rinv m % m = B256 * x * (B256 * y) * rinv m % m := by
    rw [Nat.mul_mod, ← Nat.mul_mod (B256 * x), ← Nat.mul_mod]
  rw [e, show B256 * x * (B256 * y) * rinv m = B256 * (x * y) * (B256 * rinv m) by simp only [Nat.mul_assoc, Nat.mul_left_comm, Nat.mul_comm], Nat.mul_mod, rinv_eq h, Nat.mul_one, Nat.mod_mod]
theorem frm_addm (m x y : Nat) : addm m (frm m x) (frm m y) = frm m (addm m x y) := by
  rw [addm_eq, frm_eq, frm_eq, frm_eq, addm_eq, ← Nat.add_mod, ← Nat.mul_add, Nat.mul_mod_mod]
theorem frm_zero (m : Nat) : frm m 0 = 0 := by rw [frm_eq, Nat.mul_zero, Nat.zero_mod]
theorem frm_mod (m v : Nat) : frm m (v % m) = frm m v := by rw [frm_eq, frm_eq, Nat.mul_mod_mod]
end Go.Proofs.YtfaicnileghjiaaDoor
