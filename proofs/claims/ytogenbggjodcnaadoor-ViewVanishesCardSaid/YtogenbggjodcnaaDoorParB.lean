/-
  The check of parameters.
-/
import Derived.Test.YtogenbggjodcnaaDoorGetB
import Derived.Test.YtogenbggjodcnaaDoorRefMod
import Derived.Test.YtogenbggjodcnaaDoorRefV
import Derived.LoopN
import Derived.BigQuiet
import Derived.Deep.QuietTactic
import Derived.Outline
/-
  Parameters and shares: how they lie; Get at any number; Count.
-/
namespace Go.Proofs.YtogenbggjodcnaaDoor
open Go.RowKit

/-- It returns v and leaves the world. -/
abbrev Same (v : Value) (w : World) : Ending → World → Prop := fun e w' => e = .returned v ∧ w = w'
def knownF (f : Int) : Prop := f = 1 ∨ f = 2
instance (f : Int) : Decidable (knownF f) := by unfold knownF; infer_instance
noncomputable def fldOf (f : Int) : Value := if f = 1 then fld 1 P1 I1 O1 S1 else if f = 2 then fld 2 P2 I2 O2 S2 else fld0
def modF (f : Int) : Nat := if f = 1 then P1 else P2
theorem modF_lt (f : Int) : modF f < B256 := by unfold modF; split <;> decide
theorem modF_pos (f : Int) : 0 < modF f := by unfold modF; split <;> decide
def errF (f : Int) : Int := if knownF f then 0 else 3
theorem get_any (f : Int) (w : World) (hT : Tab w) : Calls Tryd.prog 56 #[.int .i64 f] w (Ret (.tuple #[fldOf f, .int .i64 (errF f)]) w) := by
  by_cases h1 : f = 1
  · subst h1; exact get_1 w hT
  · by_cases h2 : f = 2
    · subst h2; exact get_2 w hT
    · have e1 : fldOf f = fld0 := by unfold fldOf; rw [if_neg h1, if_neg h2]
      have e2 : errF f = 3 := by unfold errF; rw [if_neg (fun h => h.elim h1 h2)]
      rw [e1, e2]; exact get_0 f h1 h2 w hT
theorem containsF (f : Int) (a : Nat) (hf : knownF f) (ha : a < B256) (w : World) : Calls Tryd.prog 55 #[fldOf f, vec a] w (Ret (.int .u64 (msk (brw a (modF f)) : Int)) w) := by
  rcases hf with rfl | rfl
  · exact contains_any P1 a (by decide) ha w
  · exact contains_any P2 a (by decide) ha w
theorem rmodF (f : Int) (hf : knownF f) (w : World) : Calls Tryd.prog 49 #[.int .i64 f] w (Ret (vec (modF f)) w) := by
  rcases hf with rfl | rfl
  · exact rmodulus_1 w
  · exact rmodulus_2 w

/-- The number of chunks. -/
def cntC (n : Int) : Nat := if 0 ≤ n ∧ n ≤ 65535 then ((n + 30) / 31).toNat else 0
theorem cntC_le (n : Int) : cntC n ≤ 2115 := by unfold cntC; split <;> omega
theorem valid_t (n : Int) (h : 0 ≤ n ∧ n ≤ 65535) (w : World) : Calls Tryd.prog 119 #[.int .i64 n] w (Same (.bool true) w) := by
  obtain ⟨h1, h2⟩ := h
  go_enter Tryd.func119, Tryd.ntmps119
  go_wp2
  go_ret
  exact ⟨by first | rfl | (simp; omega), rfl⟩
theorem valid_f (n : Int) (h : ¬ (0 ≤ n ∧ n ≤ 65535)) (w : World) : Calls Tryd.prog 119 #[.int .i64 n] w (Same (.bool false) w) := by
  by_cases h1 : 0 ≤ n
  · have h2 : ¬ n ≤ 65535 := fun h2 => h ⟨h1, h2⟩
    clear h
    go_enter Tryd.func119, Tryd.ntmps119
    go_wp2
    go_ret
    exact ⟨by first | rfl | (simp; omega), rfl⟩
  · clear h
    go_enter Tryd.func119, Tryd.ntmps119
    go_wp2
    go_ret
    exact ⟨by first | rfl | (simp; omega), rfl⟩
theorem between_t (x a b : Int) (h : a ≤ x ∧ x ≤ b) (w : World) : Calls Tryd.prog 140 #[.int .i64 x, .int .i64 a, .int .i64 b] w (Same (.bool true) w) := by
  obtain ⟨h1, h2⟩ := h
  go_enter Tryd.func140, Tryd.ntmps140
  go_wp2
  go_ret
  exact ⟨by first | rfl | (simp; omega), rfl⟩
theorem between_f (x a b : Int) (h : ¬ (a ≤ x ∧ x ≤ b)) (w : World) : Calls Tryd.prog 140 #[.int .i64 x, .int .i64 a, .int .i64 b] w (Same (.bool false) w) := by
  by_cases h1 : a ≤ x
  · have h2 : ¬ x ≤ b := fun h2 => h ⟨h1, h2⟩
    clear h
    go_enter Tryd.func140, Tryd.ntmps140
    go_wp2
    go_ret
    exact ⟨by first | rfl | (simp; omega), rfl⟩
  · clear h
    go_enter Tryd.func140, Tryd.ntmps140
    go_wp2
    go_ret
    exact ⟨by first | rfl | (simp; omega), rfl⟩
theorem pcount_any (n : Int) (w : World) : Calls Tryd.prog 118 #[.int .i64 n] w (Same (.int .i64 (cntC n : Int)) w) := by
  by_cases h : 0 ≤ n ∧ n ≤ 65535
  · have hc : (cntC n : Int) = (n + 30) / 31 := by unfold cntC; rw [if_pos h]; omega
    rw [hc]
    clear hc
    have V := hid (valid_t n h)
    go_enter Tryd.func118, Tryd.ntmps118
    go_wp2_with (go_at_call 119; refine (V.out _).mono ?_; rintro e wq ⟨rfl, rfl⟩)
    go_ret
    exact ⟨by first | rfl | go_num, rfl⟩
  · have hc : (cntC n : Int) = 0 := by unfold cntC; rw [if_neg h]; rfl
    rw [hc]
    clear hc
    have V := hid (valid_f n h)
    clear h
    go_enter Tryd.func118, Tryd.ntmps118
    go_wp2_with (go_at_call 119; refine (V.out _).mono ?_; rintro e wq ⟨rfl, rfl⟩)
    go_ret
    exact ⟨rfl, rfl⟩
theorem cntC_pos {n : Int} (h : 0 < n) (h2 : n ≤ 65535) : cntC n = cntC (n - 31) + 1 := by
  unfold cntC
  rw [if_pos (by omega)]
  split <;> omega
theorem cntC_neg {n : Int} (h : ¬ 0 < n) : cntC n = 0 := by
  unfold cntC
  split <;> omega
set_option maxHeartbeats 1000000 in
theorem rcount_any (n : Int) (w : World) : Calls Tryd.prog 87 #[.int .i64 n] w (Same (.int .i64 (cntC n : Int)) w) := by
  by_cases h : 65535 < n
  · have hc : (cntC n : Int) = 0 := by unfold cntC; rw [if_neg (by omega)]; rfl
    rw [hc]
    clear hc
    go_enter Tryd.func87, Tryd.ntmps87
    go_wp2
    go_ret
    exact ⟨rfl, rfl⟩
  · have hn := hid (cntC_le n)
    go_enter Tryd.func87, Tryd.ntmps87
    go_wp2
    go_loopw [0, 3] (fun x c wr => ∃ (m : Int) (k : Nat), x = .int .i64 m ∧ c = .int .i64 (k : Int) ∧ m ≤ 65535 ∧ k + cntC m = cntC n ∧ w = wr) (fun x _ _ => (intOf x).toNat)
    case atStart => exact ⟨n, 0, rfl, rfl, by omega, by omega, rfl⟩
    case round =>
      obtain ⟨m, k, rfl, rfl, hm, hk, rfl⟩ := hrel
      have hle := hn.out
      by_cases hpos : 0 < m
      · have e1 := cntC_pos hpos hm
        have hk9 : k < 3000 := by omega
        have HK := hid (show k + 1 + cntC (m - 31) = cntC n by omega)
        clear e1 hk hle
        go_wp2
        go_roundw
        case rel => exact ⟨m - 31, k + 1, by go_num, by go_num, by omega, HK.out, trivial⟩
        case measure => simp [intOf]; omega
      · have e1 := cntC_neg hpos
        have HK := hid (show (k : Int) = (cntC n : Int) by omega)
        clear e1 hk hle
        go_wp2
        go_ret
        exact ⟨by rw [HK.out]; rfl, rfl⟩
theorem rknown_any (f : Int) (w : World) : Calls Tryd.prog 122 #[.int .i64 f] w (Same (.bool (decide (knownF f))) w) := by
  by_cases h1 : f = 1
  · subst h1
    go_enter Tryd.func122, Tryd.ntmps122
    go_wp2
    go_ret
    exact ⟨by simp [knownF], rfl⟩
  · have d1 : (f == 1) = false := by simp [h1]
    go_enter Tryd.func122, Tryd.ntmps122
    go_wp2
    go_ret
    exact ⟨by simp [knownF, h1]; rfl, rfl⟩
end Go.Proofs.YtogenbggjodcnaaDoor
/-
  Check and Random, and what the reference says.
-/
namespace Go.Proofs.YtogenbggjodcnaaDoor
open Go.RowKit

theorem get_known (f : Int) (hf : knownF f) : ∃ id i o0 o1 o2 o3 s0 s1 s2 s3 : Int, ∀ w, Tab w → Calls Tryd.prog 56 #[.int .i64 f] w (Ret (.tuple #[.agg #[.int .i64 id, .int .u64 (limb (modF f) 0 : Int), .int .u64 (limb (modF f) 1 : Int), .int .u64 (limb (modF f) 2 : Int), .int .u64 (limb (modF f) 3 : Int), .int .u64 i, .int .u64 o0, .int .u64 o1, .int .u64 o2, .int .u64 o3, .int .u64 s0, .int .u64 s1, .int .u64 s2, .int .u64 s3], .int .i64 0]) w) := by
  rcases hf with rfl | rfl
  · exact ⟨_, _, _, _, _, _, _, _, _, _, fun w hT => get_1 w hT⟩
  · exact ⟨_, _, _, _, _, _, _, _, _, _, fun w hT => get_2 w hT⟩
theorem get_unknown (f : Int) (hf : ¬ knownF f) (w : World) (hT : Tab w) : Calls Tryd.prog 56 #[.int .i64 f] w (Ret (.tuple #[fld0, .int .i64 3]) w) := get_0 f (fun h => hf (.inl h)) (fun h => hf (.inr h)) w hT
theorem rknown_t (f : Int) (h : knownF f) (w : World) : Calls Tryd.prog 122 #[.int .i64 f] w (Same (.bool true) w) := by
  have := rknown_any f w
  rwa [decide_eq_true h] at this
theorem rknown_f (f : Int) (h : ¬ knownF f) (w : World) : Calls Tryd.prog 122 #[.int .i64 f] w (Same (.bool false) w) := by
  have := rknown_any f w
  rwa [decide_eq_false h] at this

/-- What Check finds. -/
def chkP (f t s n : Int) : Int := if ¬ knownF f then 3 else if ¬ (1 ≤ s ∧ s ≤ 255) then 5 else if ¬ (1 ≤ t ∧ t ≤ s) then 4 else if ¬ (0 ≤ n ∧ n ≤ 65535) then 6 else 0
set_option maxHeartbeats 4000000 in
theorem pcheck_any (f t s n : Int) (w : World) (hT : Tab w) : Calls Tryd.prog 117 #[.agg #[.int .i64 f, .int .i64 t, .int .i64 s, .int .i64 n]] w (Ret (.int .i64 (chkP f t s n)) w) := by
  by_cases hf : knownF f
  · by_cases h5 : 1 ≤ s ∧ s ≤ 255
    · by_cases h4 : 1 ≤ t ∧ t ≤ s
      · by_cases h6 : 0 ≤ n ∧ n ≤ 65535
        · rw [chkP, if_neg (fun h => h hf), if_neg (fun h => h h5), if_neg (fun h => h h4), if_neg (fun h => h h6)]
          obtain ⟨id, i, o0, o1, o2, o3, s0, s1, s2, s3, hg⟩ := get_known f hf
          have G := hid hg
          clear hg
          have HT := hid (hT.alloc (.cells #[.int .i64 f, .int .i64 t, .int .i64 s, .int .i64 n] 75))
          clear hT
          have hk := hid hf
          clear hf
          go_enter Tryd.func117, Tryd.ntmps117
          go_wp2_with fail
          refine (G.out _ HT.out).mono ?_
          rintro e w1 ⟨rfl, b⟩
          have h_p : Blk w1 w.heap.size 75 [.int .i64 f, .int .i64 t, .int .i64 s, .int .i64 n] := Blk.keep (Blk.new rfl) b
          have c0 := h_p.cell (i := 0) rfl
          have c1 := h_p.cell (i := 1) rfl
          have c2 := h_p.cell (i := 2) rfl
          have c3 := h_p.cell (i := 3) rfl
          have z := h_p.lt
          have B1 : Below w.heap.size w w1 := Below.call (by go_grown) b
          have zB1 := B1.size
          clear h_p b
          go_wp2_with (go_at_call 140; first | (refine (between_t _ _ _ (by omega) _).mono ?_; rintro e wq ⟨rfl, rfl⟩) | (refine (between_f _ _ _ (by omega) _).mono ?_; rintro e wq ⟨rfl, rfl⟩))
          go_ret
          exact ⟨rfl, by go_grown⟩
        · rw [chkP, if_neg (fun h => h hf), if_neg (fun h => h h5), if_neg (fun h => h h4), if_pos h6]
          have hx := hid h6
          obtain ⟨id, i, o0, o1, o2, o3, s0, s1, s2, s3, hg⟩ := get_known f hf
          have G := hid hg
          clear hg
          have HT := hid (hT.alloc (.cells #[.int .i64 f, .int .i64 t, .int .i64 s, .int .i64 n] 75))
          clear hT
          have hk := hid hf
          clear hf
          go_enter Tryd.func117, Tryd.ntmps117
          go_wp2_with fail
          refine (G.out _ HT.out).mono ?_
          rintro e w1 ⟨rfl, b⟩
          have h_p : Blk w1 w.heap.size 75 [.int .i64 f, .int .i64 t, .int .i64 s, .int .i64 n] := Blk.keep (Blk.new rfl) b
          have c0 := h_p.cell (i := 0) rfl
          have c1 := h_p.cell (i := 1) rfl
          have c2 := h_p.cell (i := 2) rfl
          have c3 := h_p.cell (i := 3) rfl
          have z := h_p.lt
          have B1 : Below w.heap.size w w1 := Below.call (by go_grown) b
          have zB1 := B1.size
          clear h_p b
          go_wp2_with (go_at_call 140; first | (refine (between_t _ _ _ (by omega) _).mono ?_; rintro e wq ⟨rfl, rfl⟩) | (refine (between_f _ _ _ (by omega) _).mono ?_; rintro e wq ⟨rfl, rfl⟩))
          go_ret
          exact ⟨rfl, by go_grown⟩
      · rw [chkP, if_neg (fun h => h hf), if_neg (fun h => h h5), if_pos h4]
        have hx := hid h4
        obtain ⟨id, i, o0, o1, o2, o3, s0, s1, s2, s3, hg⟩ := get_known f hf
        have G := hid hg
        clear hg
        have HT := hid (hT.alloc (.cells #[.int .i64 f, .int .i64 t, .int .i64 s, .int .i64 n] 75))
        clear hT
        have hk := hid hf
        clear hf
        go_enter Tryd.func117, Tryd.ntmps117
        go_wp2_with fail
        refine (G.out _ HT.out).mono ?_
        rintro e w1 ⟨rfl, b⟩
        have h_p : Blk w1 w.heap.size 75 [.int .i64 f, .int .i64 t, .int .i64 s, .int .i64 n] := Blk.keep (Blk.new rfl) b
        have c0 := h_p.cell (i := 0) rfl
        have c1 := h_p.cell (i := 1) rfl
        have c2 := h_p.cell (i := 2) rfl
        have c3 := h_p.cell (i := 3) rfl
        have z := h_p.lt
        have B1 : Below w.heap.size w w1 := Below.call (by go_grown) b
        have zB1 := B1.size
        clear h_p b
        go_wp2_with (go_at_call 140; first | (refine (between_t _ _ _ (by omega) _).mono ?_; rintro e wq ⟨rfl, rfl⟩) | (refine (between_f _ _ _ (by omega) _).mono ?_; rintro e wq ⟨rfl, rfl⟩))
        go_ret
        exact ⟨rfl, by go_grown⟩
    · rw [chkP, if_neg (fun h => h hf), if_pos h5]
      have hx := hid h5
      obtain ⟨id, i, o0, o1, o2, o3, s0, s1, s2, s3, hg⟩ := get_known f hf
      have G := hid hg
      clear hg
      have HT := hid (hT.alloc (.cells #[.int .i64 f, .int .i64 t, .int .i64 s, .int .i64 n] 75))
      clear hT
      have hk := hid hf
      clear hf
      go_enter Tryd.func117, Tryd.ntmps117
      go_wp2_with fail
      refine (G.out _ HT.out).mono ?_
      rintro e w1 ⟨rfl, b⟩
      have h_p : Blk w1 w.heap.size 75 [.int .i64 f, .int .i64 t, .int .i64 s, .int .i64 n] := Blk.keep (Blk.new rfl) b
      have c0 := h_p.cell (i := 0) rfl
      have c1 := h_p.cell (i := 1) rfl
      have c2 := h_p.cell (i := 2) rfl
      have c3 := h_p.cell (i := 3) rfl
      have z := h_p.lt
      have B1 : Below w.heap.size w w1 := Below.call (by go_grown) b
      have zB1 := B1.size
      clear h_p b
      go_wp2_with (go_at_call 140; first | (refine (between_t _ _ _ (by omega) _).mono ?_; rintro e wq ⟨rfl, rfl⟩) | (refine (between_f _ _ _ (by omega) _).mono ?_; rintro e wq ⟨rfl, rfl⟩))
      go_ret
      exact ⟨rfl, by go_grown⟩
  · rw [chkP, if_pos hf]
    have hg := get_unknown f hf
    have G := hid hg
    clear hg
    have HT := hid (hT.alloc (.cells #[.int .i64 f, .int .i64 t, .int .i64 s, .int .i64 n] 75))
    clear hT
    have hk := hid hf
    clear hf
    go_enter Tryd.func117, Tryd.ntmps117
    go_wp2_with fail
    refine (G.out _ HT.out).mono ?_
    rintro e w1 ⟨rfl, b⟩
    have h_p : Blk w1 w.heap.size 75 [.int .i64 f, .int .i64 t, .int .i64 s, .int .i64 n] := Blk.keep (Blk.new rfl) b
    have c0 := h_p.cell (i := 0) rfl
    have c1 := h_p.cell (i := 1) rfl
    have c2 := h_p.cell (i := 2) rfl
    have c3 := h_p.cell (i := 3) rfl
    have z := h_p.lt
    have B1 : Below w.heap.size w w1 := Below.call (by go_grown) b
    have zB1 := B1.size
    clear h_p b
    go_wp2_with (go_at_call 140; first | (refine (between_t _ _ _ (by omega) _).mono ?_; rintro e wq ⟨rfl, rfl⟩) | (refine (between_f _ _ _ (by omega) _).mono ?_; rintro e wq ⟨rfl, rfl⟩))
    go_ret
    exact ⟨rfl, by go_grown⟩
set_option maxHeartbeats 4000000 in
theorem rcheck_any (f t s n : Int) (w : World) : Calls Tryd.prog 86 #[.agg #[.int .i64 f, .int .i64 t, .int .i64 s, .int .i64 n]] w (Ret (.int .i64 (chkP f t s n)) w) := by
  by_cases hf : knownF f
  · by_cases h5 : 1 ≤ s ∧ s ≤ 255
    · by_cases h4 : 1 ≤ t ∧ t ≤ s
      · by_cases h6 : 0 ≤ n ∧ n ≤ 65535
        · rw [chkP, if_neg (fun h => h hf), if_neg (fun h => h h5), if_neg (fun h => h h4), if_neg (fun h => h h6)]
          go_enter Tryd.func86, Tryd.ntmps86
          go_wp2_with (go_at_call 122; first | (refine (rknown_t _ (by first | assumption | exact hf) _).mono ?_; rintro e wq ⟨rfl, rfl⟩) | (refine (rknown_f _ (by first | assumption | exact hf) _).mono ?_; rintro e wq ⟨rfl, rfl⟩))
          go_ret
          exact ⟨rfl, by go_grown⟩
        · rw [chkP, if_neg (fun h => h hf), if_neg (fun h => h h5), if_neg (fun h => h h4), if_pos h6]
          by_cases hl : 0 ≤ n
          · have hh : ¬ (n ≤ 65535) := fun h => h6 ⟨hl, h⟩
            go_enter Tryd.func86, Tryd.ntmps86
            go_wp2_with (go_at_call 122; first | (refine (rknown_t _ (by first | assumption | exact hf) _).mono ?_; rintro e wq ⟨rfl, rfl⟩) | (refine (rknown_f _ (by first | assumption | exact hf) _).mono ?_; rintro e wq ⟨rfl, rfl⟩))
            go_ret
            exact ⟨rfl, by go_grown⟩
          · go_enter Tryd.func86, Tryd.ntmps86
            go_wp2_with (go_at_call 122; first | (refine (rknown_t _ (by first | assumption | exact hf) _).mono ?_; rintro e wq ⟨rfl, rfl⟩) | (refine (rknown_f _ (by first | assumption | exact hf) _).mono ?_; rintro e wq ⟨rfl, rfl⟩))
            go_ret
            exact ⟨rfl, by go_grown⟩
      · rw [chkP, if_neg (fun h => h hf), if_neg (fun h => h h5), if_pos h4]
        by_cases hl : 1 ≤ t
        · have hh : ¬ (t ≤ s) := fun h => h4 ⟨hl, h⟩
          go_enter Tryd.func86, Tryd.ntmps86
          go_wp2_with (go_at_call 122; first | (refine (rknown_t _ (by first | assumption | exact hf) _).mono ?_; rintro e wq ⟨rfl, rfl⟩) | (refine (rknown_f _ (by first | assumption | exact hf) _).mono ?_; rintro e wq ⟨rfl, rfl⟩))
          go_ret
          exact ⟨rfl, by go_grown⟩
        · go_enter Tryd.func86, Tryd.ntmps86
          go_wp2_with (go_at_call 122; first | (refine (rknown_t _ (by first | assumption | exact hf) _).mono ?_; rintro e wq ⟨rfl, rfl⟩) | (refine (rknown_f _ (by first | assumption | exact hf) _).mono ?_; rintro e wq ⟨rfl, rfl⟩))
          go_ret
          exact ⟨rfl, by go_grown⟩
    · rw [chkP, if_neg (fun h => h hf), if_pos h5]
      by_cases hl : 1 ≤ s
      · have hh : ¬ (s ≤ 255) := fun h => h5 ⟨hl, h⟩
        go_enter Tryd.func86, Tryd.ntmps86
        go_wp2_with (go_at_call 122; first | (refine (rknown_t _ (by first | assumption | exact hf) _).mono ?_; rintro e wq ⟨rfl, rfl⟩) | (refine (rknown_f _ (by first | assumption | exact hf) _).mono ?_; rintro e wq ⟨rfl, rfl⟩))
        go_ret
        exact ⟨rfl, by go_grown⟩
      · go_enter Tryd.func86, Tryd.ntmps86
        go_wp2_with (go_at_call 122; first | (refine (rknown_t _ (by first | assumption | exact hf) _).mono ?_; rintro e wq ⟨rfl, rfl⟩) | (refine (rknown_f _ (by first | assumption | exact hf) _).mono ?_; rintro e wq ⟨rfl, rfl⟩))
        go_ret
        exact ⟨rfl, by go_grown⟩
  · rw [chkP, if_pos hf]
    go_enter Tryd.func86, Tryd.ntmps86
    go_wp2_with (go_at_call 122; first | (refine (rknown_t _ (by first | assumption | exact hf) _).mono ?_; rintro e wq ⟨rfl, rfl⟩) | (refine (rknown_f _ (by first | assumption | exact hf) _).mono ?_; rintro e wq ⟨rfl, rfl⟩))
    go_ret
    exact ⟨rfl, by go_grown⟩
end Go.Proofs.YtogenbggjodcnaaDoor
