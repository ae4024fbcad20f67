/-
  Parameters and shares: how they lie; Get at any number; Count.
-/
import Derived.Test.YticpjaooegpipaaDoorGet
import Derived.Test.YticpjaooegpipaaDoorRefMod
import Derived.Test.YticpjaooegpipaaDoorRef4b
import Derived.Test.YticpjaooegpipaaDoorEq4
import Derived.LoopN
namespace Go.Proofs.YticpjaooegpipaaDoor
open Go.RowKit

/-- It returns v and leaves the world. -/
abbrev Same (v : Value) (w : World) : Ending → World → Prop := fun e w' => e = .returned v ∧ w = w'
def knownF (f : Int) : Prop := f = 1 ∨ f = 2
instance (f : Int) : Decidable (knownF f) := by unfold knownF; infer_instance
noncomputable def fldOf (f : Int) : Value := if f = 1 then fld 1 P1 I1 O1 S1 else if f = 2 then fld 2 P2 I2 O2 S2 else fld0
def modF (f : Int) : Nat := if f = 1 then P1 else P2
theorem modF_lt (f : Int) : modF f < B256 := by unfold modF; split <;> decide
theorem modF_pos (f : Int) : 0 < modF f := by unfold modF; split <;> decide
def errF (f : Int) : Int := if knownF f then 0 else 3
theorem get_any (f : Int) (w : World) (hT : Tab w) : Calls Tryd.prog 25 #[.int .i64 f] w (Ret (.tuple #[fldOf f, .int .i64 (errF f)]) w) := by
  by_cases h1 : f = 1
  · subst h1; exact get_1 w hT
  · by_cases h2 : f = 2
    · subst h2; exact get_2 w hT
    · have e1 : fldOf f = fld0 := by unfold fldOf; rw [if_neg h1, if_neg h2]
      have e2 : errF f = 3 := by unfold errF; rw [if_neg (fun h => h.elim h1 h2)]
      rw [e1, e2]; exact get_0 f h1 h2 w hT
theorem containsF (f : Int) (a : Nat) (hf : knownF f) (ha : a < B256) (w : World) : Calls Tryd.prog 30 #[fldOf f, vec a] w (Ret (.int .u64 (msk (brw a (modF f)) : Int)) w) := by
  rcases hf with rfl | rfl
  · exact contains_any P1 a (by decide) ha w
  · exact contains_any P2 a (by decide) ha w
theorem rmodF (f : Int) (hf : knownF f) (w : World) : Calls Tryd.prog 31 #[.int .i64 f] w (Ret (vec (modF f)) w) := by
  rcases hf with rfl | rfl
  · exact rmodulus_1 w
  · exact rmodulus_2 w

/-- The number of chunks. -/
def cntC (n : Int) : Nat := if 0 ≤ n ∧ n ≤ 65535 then ((n + 30) / 31).toNat else 0
theorem cntC_le (n : Int) : cntC n ≤ 2115 := by unfold cntC; split <;> omega
theorem valid_t (n : Int) (h : 0 ≤ n ∧ n ≤ 65535) (w : World) : Calls Tryd.prog 35 #[.int .i64 n] w (Same (.bool true) w) := by
  obtain ⟨h1, h2⟩ := h
  go_enter Tryd.func35, Tryd.ntmps35
  go_wp2
  go_ret
  exact ⟨by first | rfl | (simp; omega), rfl⟩
theorem valid_f (n : Int) (h : ¬ (0 ≤ n ∧ n ≤ 65535)) (w : World) : Calls Tryd.prog 35 #[.int .i64 n] w (Same (.bool false) w) := by
  by_cases h1 : 0 ≤ n
  · have h2 : ¬ n ≤ 65535 := fun h2 => h ⟨h1, h2⟩
    clear h
    go_enter Tryd.func35, Tryd.ntmps35
    go_wp2
    go_ret
    exact ⟨by first | rfl | (simp; omega), rfl⟩
  · clear h
    go_enter Tryd.func35, Tryd.ntmps35
    go_wp2
    go_ret
    exact ⟨by first | rfl | (simp; omega), rfl⟩
theorem between_t (x a b : Int) (h : a ≤ x ∧ x ≤ b) (w : World) : Calls Tryd.prog 26 #[.int .i64 x, .int .i64 a, .int .i64 b] w (Same (.bool true) w) := by
  obtain ⟨h1, h2⟩ := h
  go_enter Tryd.func26, Tryd.ntmps26
  go_wp2
  go_ret
  exact ⟨by first | rfl | (simp; omega), rfl⟩
theorem between_f (x a b : Int) (h : ¬ (a ≤ x ∧ x ≤ b)) (w : World) : Calls Tryd.prog 26 #[.int .i64 x, .int .i64 a, .int .i64 b] w (Same (.bool false) w) := by
  by_cases h1 : a ≤ x
  · have h2 : ¬ x ≤ b := fun h2 => h ⟨h1, h2⟩
    clear h
    go_enter Tryd.func26, Tryd.ntmps26
    go_wp2
    go_ret
    exact ⟨by first | rfl | (simp; omega), rfl⟩
  · clear h
    go_enter Tryd.func26, Tryd.ntmps26
    go_wp2
    go_ret
    exact ⟨by first | rfl | (simp; omega), rfl⟩
theorem pcount_any (n : Int) (w : World) : Calls Tryd.prog 28 #[.int .i64 n] w (Same (.int .i64 (cntC n : Int)) w) := by
  by_cases h : 0 ≤ n ∧ n ≤ 65535
  · have hc : (cntC n : Int) = (n + 30) / 31 := by unfold cntC; rw [if_pos h]; omega
    rw [hc]
    clear hc
    have V := hid (valid_t n h)
    go_enter Tryd.func28, Tryd.ntmps28
    go_wp2_with (go_at_call 35; refine (V.out _).mono ?_; rintro e wq ⟨rfl, rfl⟩)
    go_ret
    exact ⟨by first | rfl | go_num, rfl⟩
  · have hc : (cntC n : Int) = 0 := by unfold cntC; rw [if_neg h]; rfl
    rw [hc]
    clear hc
    have V := hid (valid_f n h)
    clear h
    go_enter Tryd.func28, Tryd.ntmps28
    go_wp2_with (go_at_call 35; refine (V.out _).mono ?_; rintro e wq ⟨rfl, rfl⟩)
    go_ret
    exact ⟨rfl, rfl⟩
theorem cntC_pos {n : Int} (h : 0 < n) (h2 : n ≤ 65535) : cntC n = cntC (n - 31) + 1 := by
  unfold cntC
  rw [if_pos (by omega)]
  split <;> omega
theorem cntC_neg {n : Int} (h : ¬ 0 < n) : cntC n = 0 := by
  unfold cntC
  split <;> omega
set_option maxHeartbeats 1000000 in
theorem rcount_any (n : Int) (w : World) : Calls Tryd.prog 29 #[.int .i64 n] w (Same (.int .i64 (cntC n : Int)) w) := by
  by_cases h : 65535 < n
  · have hc : (cntC n : Int) = 0 := by unfold cntC; rw [if_neg (by omega)]; rfl
    rw [hc]
    clear hc
    go_enter Tryd.func29, Tryd.ntmps29
    go_wp2
    go_ret
    exact ⟨rfl, rfl⟩
  · have hn := hid (cntC_le n)
    go_enter Tryd.func29, Tryd.ntmps29
    go_wp2
    go_loopw [0, 3] (fun x c wr => ∃ (m : Int) (k : Nat), x = .int .i64 m ∧ c = .int .i64 (k : Int) ∧ m ≤ 65535 ∧ k + cntC m = cntC n ∧ w = wr) (fun x _ _ => (intOf x).toNat)
    case atStart => exact ⟨n, 0, rfl, rfl, by omega, by omega, rfl⟩
    case round =>
      obtain ⟨m, k, rfl, rfl, hm, hk, rfl⟩ := hrel
      have hle := hn.out
      by_cases hpos : 0 < m
      · have e1 := cntC_pos hpos hm
        have hk9 : k < 3000 := by omega
        have HK := hid (show k + 1 + cntC (m - 31) = cntC n by omega)
        clear e1 hk hle
        go_wp2
        go_roundw
        case rel => exact ⟨m - 31, k + 1, by go_num, by go_num, by omega, HK.out, trivial⟩
        case measure => simp [intOf]; omega
      · have e1 := cntC_neg hpos
        have HK := hid (show (k : Int) = (cntC n : Int) by omega)
        clear e1 hk hle
        go_wp2
        go_ret
        exact ⟨by rw [HK.out]; rfl, rfl⟩
theorem rknown_any (f : Int) (w : World) : Calls Tryd.prog 27 #[.int .i64 f] w (Same (.bool (decide (knownF f))) w) := by
  by_cases h1 : f = 1
  · subst h1
    go_enter Tryd.func27, Tryd.ntmps27
    go_wp2
    go_ret
    exact ⟨by simp [knownF], rfl⟩
  · have d1 : (f == 1) = false := by simp [h1]
    go_enter Tryd.func27, Tryd.ntmps27
    go_wp2
    go_ret
    exact ⟨by simp [knownF, h1]; rfl, rfl⟩
end Go.Proofs.YticpjaooegpipaaDoor
