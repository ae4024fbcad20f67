/-
  Random, and what the reference says.
-/
import Derived.Test.YticpjaooegpipaaDoorParCheck
namespace Go.Proofs.YticpjaooegpipaaDoor
open Go.RowKit

def rndP (f t s n : Int) : Int := if chkP f t s n = 0 then 64 * (t - 1) * (cntC n : Int) else 0
theorem chkP_ok {f t s n : Int} (h : chkP f t s n = 0) : knownF f ∧ (1 ≤ s ∧ s ≤ 255) ∧ (1 ≤ t ∧ t ≤ s) ∧ (0 ≤ n ∧ n ≤ 65535) := by
  unfold chkP at h
  by_cases h1 : knownF f
  · by_cases h2 : 1 ≤ s ∧ s ≤ 255
    · by_cases h3 : 1 ≤ t ∧ t ≤ s
      · by_cases h4 : 0 ≤ n ∧ n ≤ 65535
        · exact ⟨h1, h2, h3, h4⟩
        · simp [h1, h2, h3, h4] at h
      · simp [h1, h2, h3] at h
    · simp [h1, h2] at h
  · simp [h1] at h
theorem rnd_num (t : Int) (k : Nat) (h1 : 1 ≤ t) (h2 : t ≤ 255) (hk : k ≤ 2115) : wrap64 (wrap64 (64 * wrap64 (t - 1)) * (k : Int)) = 64 * (t - 1) * (k : Int) := by
  have e1 : wrap64 (t - 1) = t - 1 := by unfold wrap64; omega
  have e2 : wrap64 (64 * (t - 1)) = 64 * (t - 1) := by unfold wrap64; omega
  rw [e1, e2]
  have h3 : 0 ≤ 64 * (t - 1) := by omega
  have h4 : 64 * (t - 1) ≤ 16256 := by omega
  have h5 := Int.mul_le_mul h4 (show (k : Int) ≤ 2115 by omega) (by omega) (by omega)
  have h6 := Int.mul_nonneg h3 (show (0 : Int) ≤ k by omega)
  generalize 64 * (t - 1) * (k : Int) = z at *
  unfold wrap64; omega
set_option maxHeartbeats 4000000 in
theorem prandom_any (f t s n : Int) (w : World) (hT : Tab w) : Calls Tryd.prog 12 #[.agg #[.int .i64 f, .int .i64 t, .int .i64 s, .int .i64 n]] w (Ret (.int .i64 (rndP f t s n)) w) := by
  have QC := fun W : World => hid (pcount_any n W)
  have HC := hid (fun (w : World) (hT : Tab w) => pcheck_any f t s n w hT)
  have HT := hid (hT.alloc (.cells #[.int .i64 f, .int .i64 t, .int .i64 s, .int .i64 n] 23))
  by_cases hc : chkP f t s n = 0
  · obtain ⟨_, h1, h2, _⟩ := chkP_ok hc
    have hr := rnd_num t (cntC n) (by omega) (by omega) (cntC_le n)
    have hp : rndP f t s n = 64 * (t - 1) * (cntC n : Int) := by unfold rndP; rw [if_pos hc]
    rw [hp, ← hr]
    clear hp hr h1 h2
    rw [hc] at HC
    clear hc
    go_enter Tryd.func12, Tryd.ntmps12
    go_wp2_with fail
    refine (HC.out _ HT.out).mono ?_
    rintro e w1 ⟨rfl, b⟩
    have h_p : Blk w1 w.heap.size 23 [.int .i64 f, .int .i64 t, .int .i64 s, .int .i64 n] := Blk.keep (Blk.new rfl) b
    have c0 := h_p.cell (i := 0) rfl
    have c1 := h_p.cell (i := 1) rfl
    have c2 := h_p.cell (i := 2) rfl
    have c3 := h_p.cell (i := 3) rfl
    have z := h_p.lt
    have B1 : Below w.heap.size w w1 := Below.call (by go_grown) b
    have zB1 := B1.size
    have QA := hid (show ∀ k, Calls Tryd.prog 28 #[.int .i64 n] (w1.drewN k) fun e w' => e = .returned (.int .i64 (cntC n : Int)) ∧ w' = w1.drewN k from fun k => (QC _).out.mono fun _ _ h => ⟨h.1, h.2.symm⟩)
    clear h_p b
    go_wp2
    go_quiet ((go_at_call 28; exact Calls.quiet_of_same (QA.out _)))

    go_wp2
    go_ret
    exact ⟨rfl, Below.drewN' B1 nq⟩
  · have hp : rndP f t s n = 0 := by unfold rndP; rw [if_neg hc]
    rw [hp]
    clear hp
    obtain ⟨c, hcc⟩ : ∃ c, chkP f t s n = c := ⟨_, rfl⟩
    rw [hcc] at HC hc
    have d : (c == 0) = false := by simp [hc]
    clear hcc
    go_enter Tryd.func12, Tryd.ntmps12
    go_wp2_with fail
    refine (HC.out _ HT.out).mono ?_
    rintro e w1 ⟨rfl, b⟩
    have B1 : Below w.heap.size w w1 := Below.call (by go_grown) b
    have zB1 := B1.size
    clear b
    go_wp2
    go_ret
    exact ⟨rfl, by go_grown⟩
set_option maxHeartbeats 4000000 in
theorem rrandom_any (f t s n : Int) (w : World) : Calls Tryd.prog 13 #[.agg #[.int .i64 f, .int .i64 t, .int .i64 s, .int .i64 n]] w (Ret (.int .i64 (rndP f t s n)) w) := by
  have QC := fun W : World => hid (rcount_any n W)
  have HC := hid (fun (w : World) => rcheck_any f t s n w)
  by_cases hc : chkP f t s n = 0
  · obtain ⟨_, h1, h2, _⟩ := chkP_ok hc
    have hr := rnd_num t (cntC n) (by omega) (by omega) (cntC_le n)
    have hp : rndP f t s n = 64 * (t - 1) * (cntC n : Int) := by unfold rndP; rw [if_pos hc]
    rw [hp, ← hr]
    clear hp hr h1 h2
    rw [hc] at HC
    clear hc
    go_enter Tryd.func13, Tryd.ntmps13
    go_wp2_with fail
    refine (HC.out _).mono ?_
    rintro e w1 ⟨rfl, b⟩
    have h_p : Blk w1 w.heap.size 23 [.int .i64 f, .int .i64 t, .int .i64 s, .int .i64 n] := Blk.keep (Blk.new rfl) b
    have c0 := h_p.cell (i := 0) rfl
    have c1 := h_p.cell (i := 1) rfl
    have c2 := h_p.cell (i := 2) rfl
    have c3 := h_p.cell (i := 3) rfl
    have z := h_p.lt
    have B1 : Below w.heap.size w w1 := Below.call (by go_grown) b
    have zB1 := B1.size
    have QA := hid (show ∀ k, Calls Tryd.prog 29 #[.int .i64 n] (w1.drewN k) fun e w' => e = .returned (.int .i64 (cntC n : Int)) ∧ w' = w1.drewN k from fun k => (QC _).out.mono fun _ _ h => ⟨h.1, h.2.symm⟩)
    clear h_p b
    go_wp2
    go_quiet ((go_at_call 29; exact Calls.quiet_of_same (QA.out _)))

    go_wp2
    go_ret
    exact ⟨rfl, Below.drewN' B1 nq⟩
  · have hp : rndP f t s n = 0 := by unfold rndP; rw [if_neg hc]
    rw [hp]
    clear hp
    obtain ⟨c, hcc⟩ : ∃ c, chkP f t s n = c := ⟨_, rfl⟩
    rw [hcc] at HC hc
    have d : (c == 0) = false := by simp [hc]
    clear hcc
    go_enter Tryd.func13, Tryd.ntmps13
    go_wp2_with fail
    refine (HC.out _).mono ?_
    rintro e w1 ⟨rfl, b⟩
    have B1 : Below w.heap.size w w1 := Below.call (by go_grown) b
    have zB1 := B1.size
    clear b
    go_wp2
    go_ret
    exact ⟨rfl, by go_grown⟩
end Go.Proofs.YticpjaooegpipaaDoor
