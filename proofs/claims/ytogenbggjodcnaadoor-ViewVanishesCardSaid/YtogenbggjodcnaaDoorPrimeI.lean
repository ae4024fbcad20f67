/-
  The fields are prime; powers and inverses: plain.
-/
import Derived.Test.YtogenbggjodcnaaDoorPlainN
import Derived.Laws.Bits64b
/-
  Fermat's little theorem at the two moduli, by Lucas' certificates: plain numbers, no program.
-/
namespace Go.Proofs.YtogenbggjodcnaaDoor

/-- A power modulo n by squaring. -/
def pwm (n : Nat) : Nat → Nat → Nat → Nat
  | 0, _, _ => 1 % n
  | k + 1, a, e => if e % 2 = 1 then a * pwm n k (a * a % n) (e / 2) % n else pwm n k (a * a % n) (e / 2)
theorem pwm_eq (n : Nat) : ∀ k a e, e < 2 ^ k → pwm n k a e = a ^ e % n
  | 0, a, e, h => by
    obtain rfl : e = 0 := by simp at h; omega
    simp [pwm]
  | k + 1, a, e, h => by
    have hk : e / 2 < 2 ^ k := by rw [Nat.pow_succ] at h; omega
    have ih := pwm_eq n k (a * a % n) (e / 2) hk
    have e2 : (a * a % n) ^ (e / 2) % n = a ^ (2 * (e / 2)) % n := by
      rw [← Nat.pow_mod, Nat.pow_mul, Nat.pow_two]
    unfold pwm
    rw [ih, e2]
    by_cases h1 : e % 2 = 1
    · rw [if_pos h1, Nat.mul_mod, Nat.mod_mod, ← Nat.mul_mod]
      have : e = 2 * (e / 2) + 1 := by omega
      conv => rhs; rw [this, Nat.pow_succ, Nat.mul_comm]
    · rw [if_neg h1]
      have : e = 2 * (e / 2) := by omega
      conv => rhs; rw [this]

def IsP (n : Nat) : Prop := 1 < n ∧ ∀ m, m ∣ n → m = 1 ∨ m = n
def Fer (n : Nat) : Prop := 1 < n ∧ ∀ a, 0 < a → a < n → a ^ (n - 1) % n = 1

theorem Fer.isP {n : Nat} (h : Fer n) : IsP n := by
  refine ⟨h.1, fun m hm => ?_⟩
  by_cases h1 : m = 1
  · exact .inl h1
  · by_cases h2 : m = n
    · exact .inr h2
    · exfalso
      have hn := h.1
      have hle := Nat.le_of_dvd (by omega) hm
      have h0 : 0 < m := Nat.pos_of_dvd_of_pos hm (by omega)
      have hf := h.2 m h0 (by omega)
      have hd : m ∣ m ^ (n - 1) := Nat.dvd_trans ⟨1, by simp⟩ (Nat.pow_dvd_pow m (show 1 ≤ n - 1 by omega))
      have hd1 : m ∣ m ^ (n - 1) % n := (Nat.dvd_mod_iff hm).2 hd
      rw [hf] at hd1
      exact h1 (Nat.dvd_one.1 hd1)

def nodiv (n : Nat) : Nat → Bool
  | 0 => true
  | k + 1 => (decide (k < 2) || n % k != 0) && nodiv n k
theorem nodiv_spec (n : Nat) : ∀ k, nodiv n k = true → ∀ m, 1 < m → m < k → ¬ m ∣ n
  | 0, _, m, _, h => by omega
  | k + 1, h, m, h1, h2 => by
    simp only [nodiv, Bool.and_eq_true, Bool.or_eq_true, decide_eq_true_eq, bne_iff_ne, ne_eq] at h
    by_cases hm : m = k
    · subst hm
      intro hd
      have := Nat.mod_eq_zero_of_dvd hd
      omega
    · exact nodiv_spec n k h.2 m h1 (by omega)
theorem isP_small {n : Nat} (h1 : 1 < n) (h : nodiv n n = true) : IsP n := by
  refine ⟨h1, fun m hm => ?_⟩
  have hle := Nat.le_of_dvd (by omega) hm
  have h0 : 0 < m := Nat.pos_of_dvd_of_pos hm (by omega)
  by_cases e : m = n
  · exact .inr e
  · by_cases e1 : m = 1
    · exact .inl e1
    · exact absurd hm (nodiv_spec n n h m (by omega) (by omega))

def prd : List Nat → Nat
  | [] => 1
  | q :: r => q * prd r
theorem prd_fac : ∀ fs : List Nat, (∀ q ∈ fs, IsP q) → ∀ m, m ∣ prd fs → (∀ q ∈ fs, ¬ q ∣ m) → m = 1
  | [], _, m, h, _ => Nat.dvd_one.1 h
  | q :: r, hp, m, h, hn => by
    have hq := hp q (by simp)
    have hqm := hn q (by simp)
    have hc : Nat.Coprime m q := by
      have hg := Nat.gcd_dvd_right m q
      rcases hq.2 _ hg with h1 | h1
      · exact h1
      · exact absurd (h1 ▸ Nat.gcd_dvd_left m q) hqm
    exact prd_fac r (fun x hx => hp x (by simp [hx])) m (hc.dvd_of_dvd_mul_left h) (fun x hx => hn x (by simp [hx]))

theorem exists_min {P : Nat → Prop} : ∀ k, P k → ∃ d, P d ∧ ∀ e, e < d → ¬ P e := by
  intro k
  induction k using Nat.strongRecOn with
  | ind k ih =>
    intro hk
    by_cases h : ∃ e, e < k ∧ P e
    · obtain ⟨e, he, hp⟩ := h
      exact ih e he hp
    · exact ⟨k, hk, fun e he hp => h ⟨e, he, hp⟩⟩

theorem pigeon : ∀ (n : Nat) (f : Nat → Nat), (∀ i, i < n → f i < n) → (∀ i j, i < n → j < n → f i = f j → i = j) → ∀ y, y < n → ∃ i, i < n ∧ f i = y
  | 0, _, _, _, y, h => by omega
  | n + 1, f, hb, hi, y, hy => by
    have hin : ∀ i, i < n → f i ≠ f n := fun i h e => by have := hi i n (by omega) (by omega) e; omega
    -- the map with n's own image put in the place of n
    have hg := pigeon n (fun i => if f i = n then f n else f i)
      (fun i h => by
        have h1 := hb i (by omega); have h2 := hb n (by omega); have h3 := hin i h
        show (if f i = n then f n else f i) < n
        split <;> omega)
      (fun i j h1 h2 e => by
        have a1 := hin i h1; have a2 := hin j h2
        have e' : (if f i = n then f n else f i) = (if f j = n then f n else f j) := e
        split at e' <;> split at e'
        · exact hi i j (by omega) (by omega) (by omega)
        · omega
        · omega
        · exact hi i j (by omega) (by omega) e')
    by_cases hn : f n = y
    · exact ⟨n, by omega, hn⟩
    · by_cases hfn : f n = n
      · obtain ⟨i, h1, h2⟩ := hg y (by omega)
        have h2' : (if f i = n then f n else f i) = y := h2
        have := hin i h1
        split at h2'
        · omega
        · exact ⟨i, by omega, h2'⟩
      · have hfl : f n < n := by have := hb n (by omega); omega
        -- some i below n goes to n
        obtain ⟨i, h1, h2⟩ := hg (f n) hfl
        have h2' : (if f i = n then f n else f i) = f n := h2
        have h3 := hin i h1
        have hi' : f i = n := by
          split at h2'
          · assumption
          · exact absurd h2' h3
        by_cases hyn : y = n
        · exact ⟨i, by omega, by omega⟩
        · obtain ⟨j, k1, k2⟩ := hg y (by omega)
          have k2' : (if f j = n then f n else f j) = y := k2
          split at k2'
          · exact absurd k2' hn
          · exact ⟨j, by omega, k2'⟩

theorem pm_add (g n a b : Nat) : g ^ (a + b) % n = (g ^ a % n) * (g ^ b % n) % n := by rw [Nat.pow_add, Nat.mul_mod]
theorem pm_mul1 {g n d : Nat} (hn : 1 < n) (h : g ^ d % n = 1) (k : Nat) : g ^ (d * k) % n = 1 := by
  rw [Nat.pow_mul, Nat.pow_mod, h, Nat.one_pow, Nat.mod_eq_of_lt hn]

/-- Lucas: g's order is n - 1, so its powers are all the numbers below n but 0. -/
theorem lucas (n g : Nat) (fs : List Nat) (hn : 1 < n) (hP : ∀ q ∈ fs, IsP q) (hf : prd fs = n - 1) (h1 : g ^ (n - 1) % n = 1)
    (h2 : ∀ q ∈ fs, g ^ ((n - 1) / q) % n ≠ 1) : Fer n := by
  have hN : 0 < n - 1 := by omega
  obtain ⟨d, ⟨hd0, hd1⟩, hmin⟩ := exists_min (P := fun d => 0 < d ∧ g ^ d % n = 1) (n - 1) ⟨hN, h1⟩
  have hdN : d = n - 1 := by
    have hr : (n - 1) % d = 0 := by
      by_cases hr : (n - 1) % d = 0
      · exact hr
      · exfalso
        have hlt := Nat.mod_lt (n - 1) hd0
        refine hmin _ hlt ⟨by omega, ?_⟩
        have e := pm_add g n (d * ((n - 1) / d)) ((n - 1) % d)
        rw [Nat.div_add_mod, h1, pm_mul1 hn hd1, Nat.one_mul, Nat.mod_mod] at e
        exact e.symm
    have hdk : d * ((n - 1) / d) = n - 1 := by have := Nat.div_add_mod (n - 1) d; omega
    by_cases hk : (n - 1) / d = 1
    · rw [hk, Nat.mul_one] at hdk; exact hdk
    · exfalso
      have hkd : (n - 1) / d ∣ prd fs := by rw [hf]; exact ⟨d, by rw [Nat.mul_comm]; exact hdk.symm⟩
      refine hk (prd_fac fs hP _ hkd (fun q hq hqd => h2 q hq ?_))
      obtain ⟨c, hc⟩ := hqd
      have hq0 : 0 < q := by have := (hP q hq).1; omega
      have : (n - 1) / q = d * c := by
        rw [← hdk, hc, show d * (q * c) = q * (d * c) by rw [Nat.mul_left_comm], Nat.mul_div_cancel_left _ hq0]
      rw [this]
      exact pm_mul1 hn hd1 c
  subst hdN
  have hnz : ∀ i, i < n - 1 → 0 < g ^ i % n := fun i hi => by
    refine Nat.pos_of_ne_zero (fun e => ?_)
    have e2 := pm_add g n i (n - 1 - i)
    rw [show i + (n - 1 - i) = n - 1 by omega, h1, e, Nat.zero_mul, Nat.zero_mod] at e2
    omega
  have hne : ∀ i j, i < j → j < n - 1 → g ^ i % n ≠ g ^ j % n := fun i j hij hj e => by
    have e2 := pm_add g n j (n - 1 - j)
    rw [show j + (n - 1 - j) = n - 1 by omega, h1, ← e, ← pm_add] at e2
    exact hmin (i + (n - 1 - j)) (by omega) ⟨by omega, e2.symm⟩
  have hs := pigeon (n - 1) (fun i => g ^ i % n - 1)
    (fun i hi => by have := Nat.mod_lt (g ^ i) (show 0 < n by omega); have := hnz i hi; show g ^ i % n - 1 < n - 1; omega)
    (fun i j hi hj e => by
      have a := hnz i hi; have b := hnz j hj
      have e' : g ^ i % n - 1 = g ^ j % n - 1 := e
      rcases Nat.lt_trichotomy i j with h | h | h
      · exact absurd (show g ^ i % n = g ^ j % n by omega) (hne i j h hj)
      · exact h
      · exact absurd (show g ^ j % n = g ^ i % n by omega) (hne j i h hi))
  refine ⟨hn, fun a h0 ha => ?_⟩
  obtain ⟨i, hi, he⟩ := hs (a - 1) (by omega)
  have he' : g ^ i % n - 1 = a - 1 := he
  have := hnz i hi
  have ea : g ^ i % n = a := by omega
  rw [← ea, ← Nat.pow_mod, ← Nat.pow_mul, Nat.mul_comm]
  exact pm_mul1 hn h1 i

/-- A certificate, checked by squaring. -/
def lucasB (n g k : Nat) (fs : List Nat) : Bool :=
  decide (1 < n) && decide (prd fs = n - 1) && decide (n - 1 < 2 ^ k) && decide (pwm n k g (n - 1) = 1) && fs.all fun q => decide (pwm n k g ((n - 1) / q) ≠ 1)
theorem lucas_of (n g k : Nat) (fs : List Nat) (h : lucasB n g k fs = true) (hP : ∀ q ∈ fs, IsP q) : Fer n := by
  simp only [lucasB, Bool.and_eq_true, decide_eq_true_eq, List.all_eq_true] at h
  obtain ⟨⟨⟨⟨a, b⟩, c⟩, d⟩, e⟩ := h
  refine lucas n g fs a hP b (by rw [← pwm_eq n k g _ c]; exact d) (fun q hq => ?_)
  rw [← pwm_eq n k g _ (Nat.lt_of_le_of_lt (Nat.div_le_self _ _) c)]
  exact e q hq

theorem prime_2 : IsP 2 := isP_small (by decide) (by decide +kernel)
theorem prime_3 : IsP 3 := isP_small (by decide) (by decide +kernel)
theorem prime_17 : IsP 17 := isP_small (by decide) (by decide +kernel)
theorem prime_479 : IsP 479 := isP_small (by decide) (by decide +kernel)
theorem fer_32573 : Fer 32573 := lucas_of 32573 2 15 [2, 2, 17, 479] (by decide +kernel) (by
  intro q hq
  simp only [List.mem_cons, List.not_mem_nil, or_false] at hq
  rcases hq with rfl | rfl | rfl | rfl
  · exact prime_2
  · exact prime_2
  · exact prime_17
  · exact prime_479)
theorem prime_32573 : IsP 32573 := fer_32573.isP
theorem fer_65147 : Fer 65147 := lucas_of 65147 2 16 [2, 32573] (by decide +kernel) (by
  intro q hq
  simp only [List.mem_cons, List.not_mem_nil, or_false] at hq
  rcases hq with rfl | rfl
  · exact prime_2
  · exact prime_32573)
theorem prime_65147 : IsP 65147 := fer_65147.isP
theorem prime_353 : IsP 353 := isP_small (by decide) (by decide +kernel)
theorem prime_59 : IsP 59 := isP_small (by decide) (by decide +kernel)
theorem prime_487 : IsP 487 := isP_small (by decide) (by decide +kernel)
theorem fer_57467 : Fer 57467 := lucas_of 57467 2 16 [2, 59, 487] (by decide +kernel) (by
  intro q hq
  simp only [List.mem_cons, List.not_mem_nil, or_false] at hq
  rcases hq with rfl | rfl | rfl
  · exact prime_2
  · exact prime_59
  · exact prime_487)
theorem prime_57467 : IsP 57467 := fer_57467.isP
theorem prime_7 : IsP 7 := isP_small (by decide) (by decide +kernel)
theorem prime_131 : IsP 131 := isP_small (by decide) (by decide +kernel)
theorem fer_132049 : Fer 132049 := lucas_of 132049 26 18 [2, 2, 2, 2, 3, 3, 7, 131] (by decide +kernel) (by
  intro q hq
  simp only [List.mem_cons, List.not_mem_nil, or_false] at hq
  rcases hq with rfl | rfl | rfl | rfl | rfl | rfl | rfl | rfl
  · exact prime_2
  · exact prime_2
  · exact prime_2
  · exact prime_2
  · exact prime_3
  · exact prime_3
  · exact prime_7
  · exact prime_131)
theorem prime_132049 : IsP 132049 := fer_132049.isP
theorem prime_43 : IsP 43 := isP_small (by decide) (by decide +kernel)
theorem prime_23 : IsP 23 := isP_small (by decide) (by decide +kernel)
theorem fer_3727 : Fer 3727 := lucas_of 3727 3 12 [2, 3, 3, 3, 3, 23] (by decide +kernel) (by
  intro q hq
  simp only [List.mem_cons, List.not_mem_nil, or_false] at hq
  rcases hq with rfl | rfl | rfl | rfl | rfl | rfl
  · exact prime_2
  · exact prime_3
  · exact prime_3
  · exact prime_3
  · exact prime_3
  · exact prime_23)
theorem prime_3727 : IsP 3727 := fer_3727.isP
theorem fer_1923133 : Fer 1923133 := lucas_of 1923133 2 21 [2, 2, 3, 43, 3727] (by decide +kernel) (by
  intro q hq
  simp only [List.mem_cons, List.not_mem_nil, or_false] at hq
  rcases hq with rfl | rfl | rfl | rfl | rfl
  · exact prime_2
  · exact prime_2
  · exact prime_3
  · exact prime_43
  · exact prime_3727)
theorem prime_1923133 : IsP 1923133 := fer_1923133.isP
theorem prime_31 : IsP 31 := isP_small (by decide) (by decide +kernel)
theorem prime_107 : IsP 107 := isP_small (by decide) (by decide +kernel)
theorem prime_223 : IsP 223 := isP_small (by decide) (by decide +kernel)
theorem prime_173 : IsP 173 := isP_small (by decide) (by decide +kernel)
theorem fer_4153 : Fer 4153 := lucas_of 4153 5 13 [2, 2, 2, 3, 173] (by decide +kernel) (by
  intro q hq
  simp only [List.mem_cons, List.not_mem_nil, or_false] at hq
  rcases hq with rfl | rfl | rfl | rfl | rfl
  · exact prime_2
  · exact prime_2
  · exact prime_2
  · exact prime_3
  · exact prime_173)
theorem prime_4153 : IsP 4153 := fer_4153.isP
theorem prime_5 : IsP 5 := isP_small (by decide) (by decide +kernel)
theorem prime_1723 : IsP 1723 := isP_small (by decide) (by decide +kernel)
theorem fer_430751 : Fer 430751 := lucas_of 430751 17 19 [2, 5, 5, 5, 1723] (by decide +kernel) (by
  intro q hq
  simp only [List.mem_cons, List.not_mem_nil, or_false] at hq
  rcases hq with rfl | rfl | rfl | rfl | rfl
  · exact prime_2
  · exact prime_5
  · exact prime_5
  · exact prime_5
  · exact prime_1723)
theorem prime_430751 : IsP 430751 := fer_430751.isP
theorem fer_31757755568855353 : Fer 31757755568855353 := lucas_of 31757755568855353 10 55 [2, 2, 2, 3, 31, 107, 223, 4153, 430751] (by decide +kernel) (by
  intro q hq
  simp only [List.mem_cons, List.not_mem_nil, or_false] at hq
  rcases hq with rfl | rfl | rfl | rfl | rfl | rfl | rfl | rfl | rfl
  · exact prime_2
  · exact prime_2
  · exact prime_2
  · exact prime_3
  · exact prime_31
  · exact prime_107
  · exact prime_223
  · exact prime_4153
  · exact prime_430751)
theorem prime_31757755568855353 : IsP 31757755568855353 := fer_31757755568855353.isP
theorem prime_19 : IsP 19 := isP_small (by decide) (by decide +kernel)
theorem prime_83 : IsP 83 := isP_small (by decide) (by decide +kernel)
theorem fer_9463 : Fer 9463 := lucas_of 9463 3 14 [2, 3, 19, 83] (by decide +kernel) (by
  intro q hq
  simp only [List.mem_cons, List.not_mem_nil, or_false] at hq
  rcases hq with rfl | rfl | rfl | rfl
  · exact prime_2
  · exact prime_3
  · exact prime_19
  · exact prime_83)
theorem prime_9463 : IsP 9463 := fer_9463.isP
theorem fer_37853 : Fer 37853 := lucas_of 37853 2 16 [2, 2, 9463] (by decide +kernel) (by
  intro q hq
  simp only [List.mem_cons, List.not_mem_nil, or_false] at hq
  rcases hq with rfl | rfl | rfl
  · exact prime_2
  · exact prime_2
  · exact prime_9463)
theorem prime_37853 : IsP 37853 := fer_37853.isP
theorem fer_75707 : Fer 75707 := lucas_of 75707 2 17 [2, 37853] (by decide +kernel) (by
  intro q hq
  simp only [List.mem_cons, List.not_mem_nil, or_false] at hq
  rcases hq with rfl | rfl
  · exact prime_2
  · exact prime_37853)
theorem prime_75707 : IsP 75707 := fer_75707.isP
theorem prime_13 : IsP 13 := isP_small (by decide) (by decide +kernel)
theorem prime_2437 : IsP 2437 := isP_small (by decide) (by decide +kernel)
theorem prime_97 : IsP 97 := isP_small (by decide) (by decide +kernel)
theorem prime_419 : IsP 419 := isP_small (by decide) (by decide +kernel)
theorem fer_569003 : Fer 569003 := lucas_of 569003 2 20 [2, 7, 97, 419] (by decide +kernel) (by
  intro q hq
  simp only [List.mem_cons, List.not_mem_nil, or_false] at hq
  rcases hq with rfl | rfl | rfl | rfl
  · exact prime_2
  · exact prime_7
  · exact prime_97
  · exact prime_419)
theorem prime_569003 : IsP 569003 := fer_569003.isP
theorem fer_2773320623 : Fer 2773320623 := lucas_of 2773320623 5 32 [2, 2437, 569003] (by decide +kernel) (by
  intro q hq
  simp only [List.mem_cons, List.not_mem_nil, or_false] at hq
  rcases hq with rfl | rfl | rfl
  · exact prime_2
  · exact prime_2437
  · exact prime_569003)
theorem prime_2773320623 : IsP 2773320623 := fer_2773320623.isP
theorem fer_72106336199 : Fer 72106336199 := lucas_of 72106336199 7 37 [2, 13, 2773320623] (by decide +kernel) (by
  intro q hq
  simp only [List.mem_cons, List.not_mem_nil, or_false] at hq
  rcases hq with rfl | rfl | rfl
  · exact prime_2
  · exact prime_13
  · exact prime_2773320623)
theorem prime_72106336199 : IsP 72106336199 := fer_72106336199.isP
theorem prime_47 : IsP 47 := isP_small (by decide) (by decide +kernel)
theorem prime_127 : IsP 127 := isP_small (by decide) (by decide +kernel)
theorem prime_103 : IsP 103 := isP_small (by decide) (by decide +kernel)
theorem prime_991 : IsP 991 := isP_small (by decide) (by decide +kernel)
theorem fer_8574133 : Fer 8574133 := lucas_of 8574133 2 24 [2, 2, 3, 7, 103, 991] (by decide +kernel) (by
  intro q hq
  simp only [List.mem_cons, List.not_mem_nil, or_false] at hq
  rcases hq with rfl | rfl | rfl | rfl | rfl | rfl
  · exact prime_2
  · exact prime_2
  · exact prime_3
  · exact prime_7
  · exact prime_103
  · exact prime_991)
theorem prime_8574133 : IsP 8574133 := fer_8574133.isP
theorem fer_1919519569386763 : Fer 1919519569386763 := lucas_of 1919519569386763 2 51 [2, 3, 7, 19, 47, 47, 127, 8574133] (by decide +kernel) (by
  intro q hq
  simp only [List.mem_cons, List.not_mem_nil, or_false] at hq
  rcases hq with rfl | rfl | rfl | rfl | rfl | rfl | rfl | rfl
  · exact prime_2
  · exact prime_3
  · exact prime_7
  · exact prime_19
  · exact prime_47
  · exact prime_47
  · exact prime_127
  · exact prime_8574133)
theorem prime_1919519569386763 : IsP 1919519569386763 := fer_1919519569386763.isP
theorem fer_75445702479781427272750846543864801 : Fer 75445702479781427272750846543864801 := lucas_of 75445702479781427272750846543864801 7 116 [2, 2, 2, 2, 2, 3, 3, 5, 5, 75707, 72106336199, 1919519569386763] (by decide +kernel) (by
  intro q hq
  simp only [List.mem_cons, List.not_mem_nil, or_false] at hq
  rcases hq with rfl | rfl | rfl | rfl | rfl | rfl | rfl | rfl | rfl | rfl | rfl | rfl
  · exact prime_2
  · exact prime_2
  · exact prime_2
  · exact prime_2
  · exact prime_2
  · exact prime_3
  · exact prime_3
  · exact prime_5
  · exact prime_5
  · exact prime_75707
  · exact prime_72106336199
  · exact prime_1919519569386763)
theorem prime_75445702479781427272750846543864801 : IsP 75445702479781427272750846543864801 := fer_75445702479781427272750846543864801.isP
theorem fer_74058212732561358302231226437062788676166966415465897661863160754340907 : Fer 74058212732561358302231226437062788676166966415465897661863160754340907 := lucas_of 74058212732561358302231226437062788676166966415465897661863160754340907 2 236 [2, 3, 353, 57467, 132049, 1923133, 31757755568855353, 75445702479781427272750846543864801] (by decide +kernel) (by
  intro q hq
  simp only [List.mem_cons, List.not_mem_nil, or_false] at hq
  rcases hq with rfl | rfl | rfl | rfl | rfl | rfl | rfl | rfl
  · exact prime_2
  · exact prime_3
  · exact prime_353
  · exact prime_57467
  · exact prime_132049
  · exact prime_1923133
  · exact prime_31757755568855353
  · exact prime_75445702479781427272750846543864801)
theorem prime_74058212732561358302231226437062788676166966415465897661863160754340907 : IsP 74058212732561358302231226437062788676166966415465897661863160754340907 := fer_74058212732561358302231226437062788676166966415465897661863160754340907.isP
theorem fer_P1 : Fer P1 := lucas_of P1 2 255 [2, 2, 3, 65147, 74058212732561358302231226437062788676166966415465897661863160754340907] (by decide +kernel) (by
  intro q hq
  simp only [List.mem_cons, List.not_mem_nil, or_false] at hq
  rcases hq with rfl | rfl | rfl | rfl | rfl
  · exact prime_2
  · exact prime_2
  · exact prime_3
  · exact prime_65147
  · exact prime_74058212732561358302231226437062788676166966415465897661863160754340907)
theorem prime_71 : IsP 71 := isP_small (by decide) (by decide +kernel)
theorem prime_373 : IsP 373 := isP_small (by decide) (by decide +kernel)
theorem fer_3407 : Fer 3407 := lucas_of 3407 5 12 [2, 13, 131] (by decide +kernel) (by
  intro q hq
  simp only [List.mem_cons, List.not_mem_nil, or_false] at hq
  rcases hq with rfl | rfl | rfl
  · exact prime_2
  · exact prime_13
  · exact prime_131)
theorem prime_3407 : IsP 3407 := fer_3407.isP
theorem prime_727 : IsP 727 := isP_small (by decide) (by decide +kernel)
theorem fer_17449 : Fer 17449 := lucas_of 17449 14 15 [2, 2, 2, 3, 727] (by decide +kernel) (by
  intro q hq
  simp only [List.mem_cons, List.not_mem_nil, or_false] at hq
  rcases hq with rfl | rfl | rfl | rfl | rfl
  · exact prime_2
  · exact prime_2
  · exact prime_2
  · exact prime_3
  · exact prime_727)
theorem prime_17449 : IsP 17449 := fer_17449.isP
theorem prime_37 : IsP 37 := isP_small (by decide) (by decide +kernel)
theorem fer_9547 : Fer 9547 := lucas_of 9547 2 14 [2, 3, 37, 43] (by decide +kernel) (by
  intro q hq
  simp only [List.mem_cons, List.not_mem_nil, or_false] at hq
  rcases hq with rfl | rfl | rfl | rfl
  · exact prime_2
  · exact prime_3
  · exact prime_37
  · exact prime_43)
theorem prime_9547 : IsP 9547 := fer_9547.isP
theorem fer_38189 : Fer 38189 := lucas_of 38189 2 16 [2, 2, 9547] (by decide +kernel) (by
  intro q hq
  simp only [List.mem_cons, List.not_mem_nil, or_false] at hq
  rcases hq with rfl | rfl | rfl
  · exact prime_2
  · exact prime_2
  · exact prime_9547)
theorem prime_38189 : IsP 38189 := fer_38189.isP
theorem prime_229 : IsP 229 := isP_small (by decide) (by decide +kernel)
theorem prime_1201 : IsP 1201 := isP_small (by decide) (by decide +kernel)
theorem fer_9350987 : Fer 9350987 := lucas_of 9350987 2 24 [2, 17, 229, 1201] (by decide +kernel) (by
  intro q hq
  simp only [List.mem_cons, List.not_mem_nil, or_false] at hq
  rcases hq with rfl | rfl | rfl | rfl
  · exact prime_2
  · exact prime_17
  · exact prime_229
  · exact prime_1201)
theorem prime_9350987 : IsP 9350987 := fer_9350987.isP
theorem fer_187019741 : Fer 187019741 := lucas_of 187019741 2 28 [2, 2, 5, 9350987] (by decide +kernel) (by
  intro q hq
  simp only [List.mem_cons, List.not_mem_nil, or_false] at hq
  rcases hq with rfl | rfl | rfl | rfl
  · exact prime_2
  · exact prime_2
  · exact prime_5
  · exact prime_9350987)
theorem prime_187019741 : IsP 187019741 := fer_187019741.isP
theorem prime_29 : IsP 29 := isP_small (by decide) (by decide +kernel)
theorem prime_311 : IsP 311 := isP_small (by decide) (by decide +kernel)
theorem fer_311245691 : Fer 311245691 := lucas_of 311245691 2 29 [2, 5, 7, 17, 29, 29, 311] (by decide +kernel) (by
  intro q hq
  simp only [List.mem_cons, List.not_mem_nil, or_false] at hq
  rcases hq with rfl | rfl | rfl | rfl | rfl | rfl | rfl
  · exact prime_2
  · exact prime_5
  · exact prime_7
  · exact prime_17
  · exact prime_29
  · exact prime_29
  · exact prime_311)
theorem prime_311245691 : IsP 311245691 := fer_311245691.isP
theorem fer_622491383 : Fer 622491383 := lucas_of 622491383 5 30 [2, 311245691] (by decide +kernel) (by
  intro q hq
  simp only [List.mem_cons, List.not_mem_nil, or_false] at hq
  rcases hq with rfl | rfl
  · exact prime_2
  · exact prime_311245691)
theorem prime_622491383 : IsP 622491383 := fer_622491383.isP
theorem prime_263 : IsP 263 := isP_small (by decide) (by decide +kernel)
theorem fer_126241 : Fer 126241 := lucas_of 126241 7 17 [2, 2, 2, 2, 2, 3, 5, 263] (by decide +kernel) (by
  intro q hq
  simp only [List.mem_cons, List.not_mem_nil, or_false] at hq
  rcases hq with rfl | rfl | rfl | rfl | rfl | rfl | rfl | rfl
  · exact prime_2
  · exact prime_2
  · exact prime_2
  · exact prime_2
  · exact prime_2
  · exact prime_3
  · exact prime_5
  · exact prime_263)
theorem prime_126241 : IsP 126241 := fer_126241.isP
theorem prime_337 : IsP 337 := isP_small (by decide) (by decide +kernel)
theorem fer_104471 : Fer 104471 := lucas_of 104471 11 17 [2, 5, 31, 337] (by decide +kernel) (by
  intro q hq
  simp only [List.mem_cons, List.not_mem_nil, or_false] at hq
  rcases hq with rfl | rfl | rfl | rfl
  · exact prime_2
  · exact prime_5
  · exact prime_31
  · exact prime_337)
theorem prime_104471 : IsP 104471 := fer_104471.isP
theorem fer_3969899 : Fer 3969899 := lucas_of 3969899 2 22 [2, 19, 104471] (by decide +kernel) (by
  intro q hq
  simp only [List.mem_cons, List.not_mem_nil, or_false] at hq
  rcases hq with rfl | rfl | rfl
  · exact prime_2
  · exact prime_19
  · exact prime_104471)
theorem prime_3969899 : IsP 3969899 := fer_3969899.isP
theorem fer_1002328039319 : Fer 1002328039319 := lucas_of 1002328039319 19 40 [2, 126241, 3969899] (by decide +kernel) (by
  intro q hq
  simp only [List.mem_cons, List.not_mem_nil, or_false] at hq
  rcases hq with rfl | rfl | rfl
  · exact prime_2
  · exact prime_126241
  · exact prime_3969899)
theorem prime_1002328039319 : IsP 1002328039319 := fer_1002328039319.isP
theorem prime_1297 : IsP 1297 := isP_small (by decide) (by decide +kernel)
theorem fer_16879 : Fer 16879 := lucas_of 16879 3 15 [2, 3, 29, 97] (by decide +kernel) (by
  intro q hq
  simp only [List.mem_cons, List.not_mem_nil, or_false] at hq
  rcases hq with rfl | rfl | rfl | rfl
  · exact prime_2
  · exact prime_3
  · exact prime_29
  · exact prime_97)
theorem prime_16879 : IsP 16879 := fer_16879.isP
theorem prime_11 : IsP 11 := isP_small (by decide) (by decide +kernel)
theorem prime_1511 : IsP 1511 := isP_small (by decide) (by decide +kernel)
theorem fer_3023 : Fer 3023 := lucas_of 3023 5 12 [2, 1511] (by decide +kernel) (by
  intro q hq
  simp only [List.mem_cons, List.not_mem_nil, or_false] at hq
  rcases hq with rfl | rfl
  · exact prime_2
  · exact prime_1511)
theorem prime_3023 : IsP 3023 := fer_3023.isP
theorem prime_41 : IsP 41 := isP_small (by decide) (by decide +kernel)
theorem fer_155317 : Fer 155317 := lucas_of 155317 5 18 [2, 2, 3, 7, 43, 43] (by decide +kernel) (by
  intro q hq
  simp only [List.mem_cons, List.not_mem_nil, or_false] at hq
  rcases hq with rfl | rfl | rfl | rfl | rfl | rfl
  · exact prime_2
  · exact prime_2
  · exact prime_3
  · exact prime_7
  · exact prime_43
  · exact prime_43)
theorem prime_155317 : IsP 155317 := fer_155317.isP
theorem fer_191039911 : Fer 191039911 := lucas_of 191039911 3 28 [2, 3, 5, 41, 155317] (by decide +kernel) (by
  intro q hq
  simp only [List.mem_cons, List.not_mem_nil, or_false] at hq
  rcases hq with rfl | rfl | rfl | rfl | rfl
  · exact prime_2
  · exact prime_3
  · exact prime_5
  · exact prime_41
  · exact prime_155317)
theorem prime_191039911 : IsP 191039911 := fer_191039911.isP
theorem fer_208150935158385979 : Fer 208150935158385979 := lucas_of 208150935158385979 2 58 [2, 3, 11, 43, 127, 3023, 191039911] (by decide +kernel) (by
  intro q hq
  simp only [List.mem_cons, List.not_mem_nil, or_false] at hq
  rcases hq with rfl | rfl | rfl | rfl | rfl | rfl | rfl
  · exact prime_2
  · exact prime_3
  · exact prime_11
  · exact prime_43
  · exact prime_127
  · exact prime_3023
  · exact prime_191039911)
theorem prime_208150935158385979 : IsP 208150935158385979 := fer_208150935158385979.isP
theorem fer_2624747550333869278416773953 : Fer 2624747550333869278416773953 := lucas_of 2624747550333869278416773953 7 92 [2, 2, 2, 2, 2, 2, 3, 3, 1297, 16879, 208150935158385979] (by decide +kernel) (by
  intro q hq
  simp only [List.mem_cons, List.not_mem_nil, or_false] at hq
  rcases hq with rfl | rfl | rfl | rfl | rfl | rfl | rfl | rfl | rfl | rfl | rfl
  · exact prime_2
  · exact prime_2
  · exact prime_2
  · exact prime_2
  · exact prime_2
  · exact prime_2
  · exact prime_3
  · exact prime_3
  · exact prime_1297
  · exact prime_16879
  · exact prime_208150935158385979)
theorem prime_2624747550333869278416773953 : IsP 2624747550333869278416773953 := fer_2624747550333869278416773953.isP
theorem fer_P2 : Fer P2 := lucas_of P2 7 256 [2, 2, 2, 2, 3, 71, 131, 373, 3407, 17449, 38189, 187019741, 622491383, 1002328039319, 2624747550333869278416773953] (by decide +kernel) (by
  intro q hq
  simp only [List.mem_cons, List.not_mem_nil, or_false] at hq
  rcases hq with rfl | rfl | rfl | rfl | rfl | rfl | rfl | rfl | rfl | rfl | rfl | rfl | rfl | rfl | rfl
  · exact prime_2
  · exact prime_2
  · exact prime_2
  · exact prime_2
  · exact prime_3
  · exact prime_71
  · exact prime_131
  · exact prime_373
  · exact prime_3407
  · exact prime_17449
  · exact prime_38189
  · exact prime_187019741
  · exact prime_622491383
  · exact prime_1002328039319
  · exact prime_2624747550333869278416773953)
end Go.Proofs.YtogenbggjodcnaaDoor
/-
  Powers by windows of four bits; whether words are zero: plain.
-/
namespace Go.Proofs.YtogenbggjodcnaaDoor

/-- All words united. -/
noncomputable def orl (l : List Nat) : Nat := veil (l.foldl (· ||| ·) 0)
theorem orl_nil : orl [] = 0 := veil_eq _
theorem orl_snoc (l : List Nat) (x : Nat) : orl (l ++ [x]) = orl l ||| x := by unfold orl; rw [veil_eq, veil_eq, List.foldl_append]; rfl
theorem orl_take {l : List Nat} {k x : Nat} (h : l[k]? = some x) : orl (l.take (k + 1)) = orl (l.take k) ||| x := by
  have hk : k < l.length := (List.getElem?_eq_some_iff.1 h).1
  rw [List.take_succ_eq_append_getElem hk, orl_snoc]
  rw [List.getElem?_eq_getElem hk] at h; cases h; rfl
theorem or_zero (a b : Nat) : a ||| b = 0 ↔ a = 0 ∧ b = 0 := by
  constructor
  · intro h
    have h1 : a ≤ a ||| b := Nat.left_le_or
    have h2 : b ≤ a ||| b := Nat.right_le_or
    omega
  · rintro ⟨rfl, rfl⟩; rfl
theorem orl_lt {l : List Nat} (h : ∀ x ∈ l, x < B64) : orl l < B64 := by
  unfold orl; rw [veil_eq]
  have key : ∀ (l : List Nat) (a : Nat), a < B64 → (∀ x ∈ l, x < B64) → l.foldl (· ||| ·) a < B64 := by
    intro l
    induction l with
    | nil => intro a ha _; exact ha
    | cons x l ih => intro a ha h; exact ih _ (Nat.or_lt_two_pow (n := 64) ha (h x (by simp))) (fun y hy => h y (by simp [hy]))
  exact key l 0 (by decide) h
theorem orl_zero (l : List Nat) : orl l = 0 ↔ ∀ x ∈ l, x = 0 := by
  unfold orl; rw [veil_eq]
  have key : ∀ (l : List Nat) (a : Nat), l.foldl (· ||| ·) a = 0 ↔ a = 0 ∧ ∀ x ∈ l, x = 0 := by
    intro l
    induction l with
    | nil => intro a; simp
    | cons x l ih => intro a; rw [List.foldl_cons, ih, or_zero]; simp [and_assoc]
  rw [key]; simp
/-- The mask of whether a word is zero. -/
noncomputable def zmk (u : Nat) : Nat := veil (if u = 0 then 18446744073709551615 else 0)
theorem zmk_eq (u : Nat) : zmk u = if u = 0 then 18446744073709551615 else 0 := veil_eq _
theorem zmk_lt (u : Nat) : zmk u < B64 := by rw [zmk_eq]; unfold B64; split <;> omega
/-- The bit of whether a word is zero. -/
noncomputable def zbt (u : Nat) : Nat := veil (if u = 0 then 1 else 0)
theorem zbt_eq (u : Nat) : zbt u = if u = 0 then 1 else 0 := veil_eq _
theorem zbt_lt (u : Nat) : zbt u < B64 := by rw [zbt_eq]; unfold B64; split <;> omega
theorem msk_zbt (u : Nat) : msk (zbt u) = zmk u := by rw [msk_eq, zbt_eq, zmk_eq]; split <;> rfl
theorem or_neg (u : Nat) (hu : u < 18446744073709551616) : (u ||| ((18446744073709551616 - u) % 18446744073709551616)) / 9223372036854775808 = if u = 0 then 0 else 1 := by
  by_cases h : u = 0
  · subst h; rfl
  · rw [if_neg h, Nat.mod_eq_of_lt (by omega)]
    have h1 : u ≤ u ||| (18446744073709551616 - u) := Nat.left_le_or
    have h2 : 18446744073709551616 - u ≤ u ||| (18446744073709551616 - u) := Nat.right_le_or
    have h3 : u ||| (18446744073709551616 - u) < 2 ^ 64 := Nat.or_lt_two_pow hu (by omega)
    omega
theorem xor_zero (a b : Nat) : a ^^^ b = 0 ↔ a = b := by
  constructor
  · intro h
    have e : a ^^^ (a ^^^ b) = b := by rw [← Nat.xor_assoc, Nat.xor_self, Nat.zero_xor]
    rw [h, Nat.xor_zero] at e; exact e
  · rintro rfl; exact Nat.xor_self a
theorem pick_zmk (u a b : Nat) : pick (zmk u) a b = if u = 0 then a else b := by rw [pick_eq, zmk_eq]; by_cases h : u = 0 <;> simp [h]
/-- The window number i of four bits; what stands above. -/
noncomputable def nib (e i : Nat) : Nat := veil (e / 16 ^ i % 16)
theorem nib_eq (e i : Nat) : nib e i = e / 16 ^ i % 16 := veil_eq _
theorem nib_lt (e i : Nat) : nib e i < 16 := by rw [nib_eq]; omega
noncomputable def wtop (e i : Nat) : Nat := veil (e / 16 ^ i)
theorem wtop_eq (e i : Nat) : wtop e i = e / 16 ^ i := veil_eq _
theorem wtop_zero (e : Nat) : wtop e 0 = e := by rw [wtop_eq]; simp
theorem wtop_64 {e : Nat} (he : e < B256) : wtop e 64 = 0 := by
  rw [wtop_eq]; exact Nat.div_eq_of_lt (by unfold B256 at he; exact he)
theorem wtop_step (e i : Nat) : wtop e i = 16 * wtop e (i + 1) + nib e i := by
  rw [wtop_eq, wtop_eq, nib_eq, Nat.pow_succ, ← Nat.div_div_eq_div_mul]; omega
theorem pow_window (p a e i : Nat) : mulm p (powm p a (16 * wtop e (i + 1))) (powm p a (nib e i)) = powm p a (wtop e i) := by
  rw [powm_add, ← wtop_step]
theorem pow_double (p a k : Nat) : mulm p (powm p a k) (powm p a k) = powm p a (2 * k) := by rw [powm_add, show k + k = 2 * k by omega]
theorem powm_step {p a : Nat} (ha : a < p) (k : Nat) : mulm p (powm p a k) a = powm p a (k + 1) := by
  rw [← powm_add, powm_one ha]
/-- The low four bits of a word and of the words behind it. -/
theorem nib_word {e q s : Nat} (hs : s % 4 = 0) (hs2 : s < 64) (x : Nat) :
    ((limb e q / 2 ^ s) ||| (x * 2 ^ (64 - s) % 18446744073709551616)) % 16 = nib e ((64 * q + s) / 4) := by
  have h1 : x * 2 ^ (64 - s) % 18446744073709551616 % 16 = 0 := by
    have e1 : x * 2 ^ (64 - s) % 18446744073709551616 % 16 = x * 2 ^ (64 - s) % 16 := Nat.mod_mod_of_dvd _ ⟨1152921504606846976, rfl⟩
    rw [e1]
    obtain ⟨r, hr⟩ : ∃ r, 64 - s = r + 4 := ⟨60 - s, by omega⟩
    rw [hr, Nat.pow_add, ← Nat.mul_assoc]
    show x * 2 ^ r * 16 % 16 = 0
    exact Nat.mul_mod_left _ _
  have h2 : ∀ a b : Nat, (a ||| b) % 16 = (a % 16) ||| (b % 16) := fun a b => by
    have := Nat.or_mod_two_pow (a := a) (b := b) (n := 4)
    exact this
  rw [h2, h1, Nat.or_zero, limb_eq, nib_eq]
  unfold B64
  have e2 : e / 2 ^ (64 * q) % 18446744073709551616 / 2 ^ s % 16 = e / 2 ^ (64 * q) / 2 ^ s % 16 := by
    have e3 : (18446744073709551616 : Nat) = 2 ^ s * 2 ^ (64 - s) := by rw [← Nat.pow_add, show s + (64 - s) = 64 by omega]
    rw [e3, Nat.mod_mul_right_div_self]
    obtain ⟨r, hr⟩ : ∃ r, 64 - s = r + 4 := ⟨60 - s, by omega⟩
    rw [hr, Nat.pow_add, show (2 : Nat) ^ 4 = 16 from rfl]
    exact Nat.mod_mod_of_dvd _ ⟨2 ^ r, Nat.mul_comm _ _⟩
  rw [e2, Nat.div_div_eq_div_mul, ← Nat.pow_add]
  congr 2
  have e4 : 64 * q + s = 4 * ((64 * q + s) / 4) := by omega
  conv => lhs; rw [e4, Nat.pow_mul]
end Go.Proofs.YtogenbggjodcnaaDoor
/-
  Inverses modulo a prime, and inverses of many at once: plain.
-/
namespace Go.Proofs.YtogenbggjodcnaaDoor

theorem mulm_assoc (p a b c : Nat) : mulm p (mulm p a b) c = mulm p a (mulm p b c) := by
  rw [mulm_eq, mulm_eq, mulm_eq, mulm_eq, Nat.mod_mul_mod, Nat.mul_mod_mod, Nat.mul_assoc]
theorem mulm_comm (p a b : Nat) : mulm p a b = mulm p b a := by rw [mulm_eq, mulm_eq, Nat.mul_comm]
theorem mulm_one' {p a : Nat} (ha : a < p) : mulm p 1 a = a := by rw [mulm_comm]; exact mulm_one p a ha
theorem mulm_mod (p a b : Nat) : mulm p a (b % p) = mulm p a b := by rw [mulm_eq, mulm_eq, Nat.mul_mod_mod]
/-- The inverse, or 0. -/
noncomputable def invm (p a : Nat) : Nat := powm p a (p - 2)
theorem invm_lt {p : Nat} (a : Nat) (hp : 0 < p) : invm p a < p := powm_lt _ _ hp
theorem invm_zero {p : Nat} (hp : 2 < p) : invm p 0 = 0 := by
  unfold invm; rw [powm_eq, Nat.zero_pow (by omega)]; exact Nat.zero_mod p
theorem inv_left {p a : Nat} (h : Fer p) (hp : 2 < p) (h0 : a ≠ 0) (ha : a < p) : mulm p a (invm p a) = 1 := by
  unfold invm
  rw [mulm_comm, powm_step ha, powm_eq, show p - 2 + 1 = p - 1 by omega]
  exact h.2 a (by omega) ha
theorem inv_unique {p a b c : Nat} (h1 : mulm p a b = 1) (h2 : mulm p a c = 1) (hb : b < p) (hc : c < p) : b = c := by
  have e : mulm p b (mulm p a c) = mulm p (mulm p b a) c := (mulm_assoc p b a c).symm
  rw [h2, mulm_comm p b a, h1, mulm_one p b hb, mulm_one' hc] at e
  exact e
theorem inv_of {p a b : Nat} (h : Fer p) (hp : 2 < p) (ha : a < p) (hb : b < p) (h1 : mulm p a b = 1) : b = invm p a := by
  by_cases h0 : a = 0
  · rw [h0, mulm_eq, Nat.zero_mul, Nat.zero_mod] at h1; omega
  · exact inv_unique h1 (inv_left h hp h0 ha) hb (invm_lt a (by omega))
/-- An element, or 1 in the place of 0. -/
def nz (x : Nat) : Nat := if x = 0 then 1 else x
theorem nz_ne (x : Nat) : nz x ≠ 0 := by unfold nz; split <;> omega
theorem nz_lt {p x : Nat} (hp : 1 < p) (hx : x < p) : nz x < p := by unfold nz; split <;> omega
/-- The products of the first ones. -/
noncomputable def pfx (p : Nat) (l : List Nat) : Nat := l.foldl (fun a x => mulm p a (nz x)) 1
theorem pfx_nil (p : Nat) : pfx p [] = 1 := rfl
theorem pfx_snoc (p : Nat) (l : List Nat) (x : Nat) : pfx p (l ++ [x]) = mulm p (pfx p l) (nz x) := by unfold pfx; rw [List.foldl_append]; rfl
theorem pfx_lt {p : Nat} (hp : 1 < p) (l : List Nat) : pfx p l < p := by
  have key : ∀ (l : List Nat) (a : Nat), a < p → l.foldl (fun a x => mulm p a (nz x)) a < p := by
    intro l
    induction l with
    | nil => intro a ha; exact ha
    | cons x l ih => intro a _; exact ih _ (mulm_lt _ _ (by omega))
  exact key l 1 hp
theorem unit_pfx {p : Nat} (h : Fer p) (hp : 2 < p) : ∀ l : List Nat, (∀ x ∈ l, x < p) → pfx p l ≠ 0 := by
  have key : ∀ (l : List Nat) (a : Nat), (∃ b, mulm p a b = 1) → (∀ x ∈ l, x < p) → ∃ b, mulm p (l.foldl (fun a x => mulm p a (nz x)) a) b = 1 := by
    intro l
    induction l with
    | nil => intro a ha _; exact ha
    | cons x l ih =>
      intro a ⟨b, hb⟩ hl
      refine ih _ ⟨mulm p b (invm p (nz x)), ?_⟩ (fun y hy => hl y (by simp [hy]))
      have hx := inv_left h hp (nz_ne x) (nz_lt (p := p) (by omega) (hl x (by simp)))
      rw [mulm_assoc, ← mulm_assoc p (nz x), mulm_comm p (nz x) b, mulm_assoc p b, hx, mulm_eq p b 1, Nat.mul_one, mulm_mod, hb]
  intro l hl h0
  obtain ⟨b, hb⟩ := key l 1 ⟨1, by rw [mulm_eq]; exact Nat.mod_eq_of_lt (by omega)⟩ hl
  unfold pfx at h0
  rw [h0, mulm_eq, Nat.zero_mul, Nat.zero_mod] at hb; omega
/-- One step back: the product's inverse, and the element's. -/
theorem back_step {p a x j : Nat} (h : Fer p) (hp : 2 < p) (_ha : a < p) (hx : x < p) (hj : mulm p (mulm p a (nz x)) j = 1) :
    mulm p a (mulm p j (nz x)) = 1 ∧ (if x = 0 then 0 else mulm p a j) = invm p x := by
  refine ⟨by rw [mulm_comm p j, ← mulm_assoc]; exact hj, ?_⟩
  by_cases h0 : x = 0
  · rw [if_pos h0, h0, invm_zero hp]
  · rw [if_neg h0]
    have e : nz x = x := by unfold nz; rw [if_neg h0]
    rw [e] at hj
    exact inv_of h hp hx (mulm_lt _ _ (by omega)) (by rw [mulm_comm p a x, mulm_assoc] at hj; exact hj)
theorem frm_eq_zero {m x : Nat} (h : ∃ y, B256 * y % m = 1) (hx : x < m) : frm m x = 0 ↔ x = 0 := by
  constructor
  · intro e; exact frm_inj h hx (by omega) (e.trans (frm_zero m).symm)
  · rintro rfl; exact frm_zero m
end Go.Proofs.YtogenbggjodcnaaDoor
