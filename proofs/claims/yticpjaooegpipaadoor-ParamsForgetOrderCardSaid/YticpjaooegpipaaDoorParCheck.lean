/-
  Check and Random, and what the reference says.
-/
import Derived.Test.YticpjaooegpipaaDoorPar
import Derived.BigQuiet
import Derived.Deep.QuietTactic
import Derived.Outline
namespace Go.Proofs.YticpjaooegpipaaDoor
open Go.RowKit

theorem get_known (f : Int) (hf : knownF f) : ∃ id i o0 o1 o2 o3 s0 s1 s2 s3 : Int, ∀ w, Tab w → Calls Tryd.prog 25 #[.int .i64 f] w (Ret (.tuple #[.agg #[.int .i64 id, .int .u64 (limb (modF f) 0 : Int), .int .u64 (limb (modF f) 1 : Int), .int .u64 (limb (modF f) 2 : Int), .int .u64 (limb (modF f) 3 : Int), .int .u64 i, .int .u64 o0, .int .u64 o1, .int .u64 o2, .int .u64 o3, .int .u64 s0, .int .u64 s1, .int .u64 s2, .int .u64 s3], .int .i64 0]) w) := by
  rcases hf with rfl | rfl
  · exact ⟨_, _, _, _, _, _, _, _, _, _, fun w hT => get_1 w hT⟩
  · exact ⟨_, _, _, _, _, _, _, _, _, _, fun w hT => get_2 w hT⟩
theorem get_unknown (f : Int) (hf : ¬ knownF f) (w : World) (hT : Tab w) : Calls Tryd.prog 25 #[.int .i64 f] w (Ret (.tuple #[fld0, .int .i64 3]) w) := get_0 f (fun h => hf (.inl h)) (fun h => hf (.inr h)) w hT
theorem rknown_t (f : Int) (h : knownF f) (w : World) : Calls Tryd.prog 27 #[.int .i64 f] w (Same (.bool true) w) := by
  have := rknown_any f w
  rwa [decide_eq_true h] at this
theorem rknown_f (f : Int) (h : ¬ knownF f) (w : World) : Calls Tryd.prog 27 #[.int .i64 f] w (Same (.bool false) w) := by
  have := rknown_any f w
  rwa [decide_eq_false h] at this

/-- What Check finds. -/
def chkP (f t s n : Int) : Int := if ¬ knownF f then 3 else if ¬ (1 ≤ s ∧ s ≤ 255) then 5 else if ¬ (1 ≤ t ∧ t ≤ s) then 4 else if ¬ (0 ≤ n ∧ n ≤ 65535) then 6 else 0
set_option maxHeartbeats 4000000 in
theorem pcheck_any (f t s n : Int) (w : World) (hT : Tab w) : Calls Tryd.prog 10 #[.agg #[.int .i64 f, .int .i64 t, .int .i64 s, .int .i64 n]] w (Ret (.int .i64 (chkP f t s n)) w) := by
  by_cases hf : knownF f
  · by_cases h5 : 1 ≤ s ∧ s ≤ 255
    · by_cases h4 : 1 ≤ t ∧ t ≤ s
      · by_cases h6 : 0 ≤ n ∧ n ≤ 65535
        · rw [chkP, if_neg (fun h => h hf), if_neg (fun h => h h5), if_neg (fun h => h h4), if_neg (fun h => h h6)]
          obtain ⟨id, i, o0, o1, o2, o3, s0, s1, s2, s3, hg⟩ := get_known f hf
          have G := hid hg
          clear hg
          have HT := hid (hT.alloc (.cells #[.int .i64 f, .int .i64 t, .int .i64 s, .int .i64 n] 23))
          clear hT
          have hk := hid hf
          clear hf
          go_enter Tryd.func10, Tryd.ntmps10
          go_wp2_with fail
          refine (G.out _ HT.out).mono ?_
          rintro e w1 ⟨rfl, b⟩
          have h_p : Blk w1 w.heap.size 23 [.int .i64 f, .int .i64 t, .int .i64 s, .int .i64 n] := Blk.keep (Blk.new rfl) b
          have c0 := h_p.cell (i := 0) rfl
          have c1 := h_p.cell (i := 1) rfl
          have c2 := h_p.cell (i := 2) rfl
          have c3 := h_p.cell (i := 3) rfl
          have z := h_p.lt
          have B1 : Below w.heap.size w w1 := Below.call (by go_grown) b
          have zB1 := B1.size
          clear h_p b
          go_wp2_with (go_at_call 26; first | (refine (between_t _ _ _ (by omega) _).mono ?_; rintro e wq ⟨rfl, rfl⟩) | (refine (between_f _ _ _ (by omega) _).mono ?_; rintro e wq ⟨rfl, rfl⟩))
          go_ret
          exact ⟨rfl, by go_grown⟩
        · rw [chkP, if_neg (fun h => h hf), if_neg (fun h => h h5), if_neg (fun h => h h4), if_pos h6]
          have hx := hid h6
          obtain ⟨id, i, o0, o1, o2, o3, s0, s1, s2, s3, hg⟩ := get_known f hf
          have G := hid hg
          clear hg
          have HT := hid (hT.alloc (.cells #[.int .i64 f, .int .i64 t, .int .i64 s, .int .i64 n] 23))
          clear hT
          have hk := hid hf
          clear hf
          go_enter Tryd.func10, Tryd.ntmps10
          go_wp2_with fail
          refine (G.out _ HT.out).mono ?_
          rintro e w1 ⟨rfl, b⟩
          have h_p : Blk w1 w.heap.size 23 [.int .i64 f, .int .i64 t, .int .i64 s, .int .i64 n] := Blk.keep (Blk.new rfl) b
          have c0 := h_p.cell (i := 0) rfl
          have c1 := h_p.cell (i := 1) rfl
          have c2 := h_p.cell (i := 2) rfl
          have c3 := h_p.cell (i := 3) rfl
          have z := h_p.lt
          have B1 : Below w.heap.size w w1 := Below.call (by go_grown) b
          have zB1 := B1.size
          clear h_p b
          go_wp2_with (go_at_call 26; first | (refine (between_t _ _ _ (by omega) _).mono ?_; rintro e wq ⟨rfl, rfl⟩) | (refine (between_f _ _ _ (by omega) _).mono ?_; rintro e wq ⟨rfl, rfl⟩))
          go_ret
          exact ⟨rfl, by go_grown⟩
      · rw [chkP, if_neg (fun h => h hf), if_neg (fun h => h h5), if_pos h4]
        have hx := hid h4
        obtain ⟨id, i, o0, o1, o2, o3, s0, s1, s2, s3, hg⟩ := get_known f hf
        have G := hid hg
        clear hg
        have HT := hid (hT.alloc (.cells #[.int .i64 f, .int .i64 t, .int .i64 s, .int .i64 n] 23))
        clear hT
        have hk := hid hf
        clear hf
        go_enter Tryd.func10, Tryd.ntmps10
        go_wp2_with fail
        refine (G.out _ HT.out).mono ?_
        rintro e w1 ⟨rfl, b⟩
        have h_p : Blk w1 w.heap.size 23 [.int .i64 f, .int .i64 t, .int .i64 s, .int .i64 n] := Blk.keep (Blk.new rfl) b
        have c0 := h_p.cell (i := 0) rfl
        have c1 := h_p.cell (i := 1) rfl
        have c2 := h_p.cell (i := 2) rfl
        have c3 := h_p.cell (i := 3) rfl
        have z := h_p.lt
        have B1 : Below w.heap.size w w1 := Below.call (by go_grown) b
        have zB1 := B1.size
        clear h_p b
        go_wp2_with (go_at_call 26; first | (refine (between_t _ _ _ (by omega) _).mono ?_; rintro e wq ⟨rfl, rfl⟩) | (refine (between_f _ _ _ (by omega) _).mono ?_; rintro e wq ⟨rfl, rfl⟩))
        go_ret
        exact ⟨rfl, by go_grown⟩
    · rw [chkP, if_neg (fun h => h hf), if_pos h5]
      have hx := hid h5
      obtain ⟨id, i, o0, o1, o2, o3, s0, s1, s2, s3, hg⟩ := get_known f hf
      have G := hid hg
      clear hg
      have HT := hid (hT.alloc (.cells #[.int .i64 f, .int .i64 t, .int .i64 s, .int .i64 n] 23))
      clear hT
      have hk := hid hf
      clear hf
      go_enter Tryd.func10, Tryd.ntmps10
      go_wp2_with fail
      refine (G.out _ HT.out).mono ?_
      rintro e w1 ⟨rfl, b⟩
      have h_p : Blk w1 w.heap.size 23 [.int .i64 f, .int .i64 t, .int .i64 s, .int .i64 n] := Blk.keep (Blk.new rfl) b
      have c0 := h_p.cell (i := 0) rfl
      have c1 := h_p.cell (i := 1) rfl
      have c2 := h_p.cell (i := 2) rfl
      have c3 := h_p.cell (i := 3) rfl
      have z := h_p.lt
      have B1 : Below w.heap.size w w1 := Below.call (by go_grown) b
      have zB1 := B1.size
      clear h_p b
      go_wp2_with (go_at_call 26; first | (refine (between_t _ _ _ (by omega) _).mono ?_; rintro e wq ⟨rfl, rfl⟩) | (refine (between_f _ _ _ (by omega) _).mono ?_; rintro e wq ⟨rfl, rfl⟩))
      go_ret
      exact ⟨rfl, by go_grown⟩
  · rw [chkP, if_pos hf]
    have hg := get_unknown f hf
    have G := hid hg
    clear hg
    have HT := hid (hT.alloc (.cells #[.int .i64 f, .int .i64 t, .int .i64 s, .int .i64 n] 23))
    clear hT
    have hk := hid hf
    clear hf
    go_enter Tryd.func10, Tryd.ntmps10
    go_wp2_with fail
    refine (G.out _ HT.out).mono ?_
    rintro e w1 ⟨rfl, b⟩
    have h_p : Blk w1 w.heap.size 23 [.int .i64 f, .int .i64 t, .int .i64 s, .int .i64 n] := Blk.keep (Blk.new rfl) b
    have c0 := h_p.cell (i := 0) rfl
    have c1 := h_p.cell (i := 1) rfl
    have c2 := h_p.cell (i := 2) rfl
    have c3 := h_p.cell (i := 3) rfl
    have z := h_p.lt
    have B1 : Below w.heap.size w w1 := Below.call (by go_grown) b
    have zB1 := B1.size
    clear h_p b
    go_wp2_with (go_at_call 26; first | (refine (between_t _ _ _ (by omega) _).mono ?_; rintro e wq ⟨rfl, rfl⟩) | (refine (between_f _ _ _ (by omega) _).mono ?_; rintro e wq ⟨rfl, rfl⟩))
    go_ret
    exact ⟨rfl, by go_grown⟩
set_option maxHeartbeats 4000000 in
theorem rcheck_any (f t s n : Int) (w : World) : Calls Tryd.prog 11 #[.agg #[.int .i64 f, .int .i64 t, .int .i64 s, .int .i64 n]] w (Ret (.int .i64 (chkP f t s n)) w) := by
  by_cases hf : knownF f
  · by_cases h5 : 1 ≤ s ∧ s ≤ 255
    · by_cases h4 : 1 ≤ t ∧ t ≤ s
      · by_cases h6 : 0 ≤ n ∧ n ≤ 65535
        · rw [chkP, if_neg (fun h => h hf), if_neg (fun h => h h5), if_neg (fun h => h h4), if_neg (fun h => h h6)]
          go_enter Tryd.func11, Tryd.ntmps11
          go_wp2_with (go_at_call 27; first | (refine (rknown_t _ (by first | assumption | exact hf) _).mono ?_; rintro e wq ⟨rfl, rfl⟩) | (refine (rknown_f _ (by first | assumption | exact hf) _).mono ?_; rintro e wq ⟨rfl, rfl⟩))
          go_ret
          exact ⟨rfl, by go_grown⟩
        · rw [chkP, if_neg (fun h => h hf), if_neg (fun h => h h5), if_neg (fun h => h h4), if_pos h6]
          by_cases hl : 0 ≤ n
          · have hh : ¬ (n ≤ 65535) := fun h => h6 ⟨hl, h⟩
            go_enter Tryd.func11, Tryd.ntmps11
            go_wp2_with (go_at_call 27; first | (refine (rknown_t _ (by first | assumption | exact hf) _).mono ?_; rintro e wq ⟨rfl, rfl⟩) | (refine (rknown_f _ (by first | assumption | exact hf) _).mono ?_; rintro e wq ⟨rfl, rfl⟩))
            go_ret
            exact ⟨rfl, by go_grown⟩
          · go_enter Tryd.func11, Tryd.ntmps11
            go_wp2_with (go_at_call 27; first | (refine (rknown_t _ (by first | assumption | exact hf) _).mono ?_; rintro e wq ⟨rfl, rfl⟩) | (refine (rknown_f _ (by first | assumption | exact hf) _).mono ?_; rintro e wq ⟨rfl, rfl⟩))
            go_ret
            exact ⟨rfl, by go_grown⟩
      · rw [chkP, if_neg (fun h => h hf), if_neg (fun h => h h5), if_pos h4]
        by_cases hl : 1 ≤ t
        · have hh : ¬ (t ≤ s) := fun h => h4 ⟨hl, h⟩
          go_enter Tryd.func11, Tryd.ntmps11
          go_wp2_with (go_at_call 27; first | (refine (rknown_t _ (by first | assumption | exact hf) _).mono ?_; rintro e wq ⟨rfl, rfl⟩) | (refine (rknown_f _ (by first | assumption | exact hf) _).mono ?_; rintro e wq ⟨rfl, rfl⟩))
          go_ret
          exact ⟨rfl, by go_grown⟩
        · go_enter Tryd.func11, Tryd.ntmps11
          go_wp2_with (go_at_call 27; first | (refine (rknown_t _ (by first | assumption | exact hf) _).mono ?_; rintro e wq ⟨rfl, rfl⟩) | (refine (rknown_f _ (by first | assumption | exact hf) _).mono ?_; rintro e wq ⟨rfl, rfl⟩))
          go_ret
          exact ⟨rfl, by go_grown⟩
    · rw [chkP, if_neg (fun h => h hf), if_pos h5]
      by_cases hl : 1 ≤ s
      · have hh : ¬ (s ≤ 255) := fun h => h5 ⟨hl, h⟩
        go_enter Tryd.func11, Tryd.ntmps11
        go_wp2_with (go_at_call 27; first | (refine (rknown_t _ (by first | assumption | exact hf) _).mono ?_; rintro e wq ⟨rfl, rfl⟩) | (refine (rknown_f _ (by first | assumption | exact hf) _).mono ?_; rintro e wq ⟨rfl, rfl⟩))
        go_ret
        exact ⟨rfl, by go_grown⟩
      · go_enter Tryd.func11, Tryd.ntmps11
        go_wp2_with (go_at_call 27; first | (refine (rknown_t _ (by first | assumption | exact hf) _).mono ?_; rintro e wq ⟨rfl, rfl⟩) | (refine (rknown_f _ (by first | assumption | exact hf) _).mono ?_; rintro e wq ⟨rfl, rfl⟩))
        go_ret
        exact ⟨rfl, by go_grown⟩
  · rw [chkP, if_pos hf]
    go_enter Tryd.func11, Tryd.ntmps11
    go_wp2_with (go_at_call 27; first | (refine (rknown_t _ (by first | assumption | exact hf) _).mono ?_; rintro e wq ⟨rfl, rfl⟩) | (refine (rknown_f _ (by first | assumption | exact hf) _).mono ?_; rintro e wq ⟨rfl, rfl⟩))
    go_ret
    exact ⟨rfl, by go_grown⟩
end Go.Proofs.YticpjaooegpipaaDoor
