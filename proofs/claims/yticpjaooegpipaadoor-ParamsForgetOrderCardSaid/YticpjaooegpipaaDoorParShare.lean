/-
  CheckShare.
-/
import Derived.Test.YticpjaooegpipaaDoorParSh
namespace Go.Proofs.YticpjaooegpipaaDoor
open Go.RowKit

set_option maxRecDepth 100000 in
set_option maxHeartbeats 8000000 in
theorem pshare_any (f t i n : Int) (v : Value) (ps : List Nat) (w : World) (hT : Tab w) (hP : PaySl w v ps) : Calls Tryd.prog 15 #[.agg #[.int .i64 f, .int .i64 t, .int .i64 i, .int .i64 n, v]] w (Ret (.int .i64 (chkS f t i n ps)) w) := by
  obtain ⟨a, cap, rfl, _, hrow⟩ := hP
  obtain ⟨m, hm⟩ : ∃ m, ps.length = m := ⟨_, rfl⟩
  rw [hm]
  have hn9 := cntC_le n
  by_cases hf : knownF f
  · by_cases h4 : 1 ≤ t ∧ t ≤ 255
    · by_cases h12 : 1 ≤ i ∧ i ≤ 255
      · by_cases h6 : 0 ≤ n ∧ n ≤ 65535
        · by_cases h8 : m = cntC n
          · by_cases hall : ∀ x ∈ ps, x < modF f
            · rw [chkS, if_neg (fun h => h hf), if_neg (fun h => h h4), if_neg (fun h => h h12), if_neg (fun h => h h6), if_neg (fun h => h (by rw [hm]; exact h8)), if_neg (fun h => h hall)]
              have T0 := allb_t hall
              have HPS := hid hrow
              have HM := hid hm
              clear hall hrow
              have T1 : ((m : Int) == (cntC n : Int)) = true := by simp [h8]
              have hm9 : m < 2200 := by omega
              clear h8 hm
              obtain ⟨id, i0, o0, o1, o2, o3, s0, s1, s2, s3, hg⟩ := get_known f hf
              have G := hid hg
              clear hg
              have HT := hid (hT.alloc (.cells #[.int .i64 f, .int .i64 t, .int .i64 i, .int .i64 n, .slice a m cap] 31))
              clear hT
              have hk := hid hf
              clear hf
              go_enter Tryd.func15, Tryd.ntmps15
              go_wp2_with fail
              refine (G.out _ HT.out).mono ?_
              rintro e w1 ⟨rfl, b⟩
              have h_p : Blk w1 w.heap.size 31 [.int .i64 f, .int .i64 t, .int .i64 i, .int .i64 n, .slice a m cap] := Blk.keep (Blk.new rfl) b
              have c0 := h_p.cell (i := 0) rfl
              have c1 := h_p.cell (i := 1) rfl
              have c2 := h_p.cell (i := 2) rfl
              have c3 := h_p.cell (i := 3) rfl
              have c4 := h_p.cell (i := 4) rfl
              have hp1 := hid h_p
              have z := h_p.lt
              have B1 : Below w.heap.size w w1 := Below.call (by go_grown) b
              have zB1 := B1.size
              clear h_p b
              go_wp2_with (go_at_call 26; first | (refine (between_t _ _ _ (by omega) _).mono ?_; rintro e wq ⟨rfl, rfl⟩) | (refine (between_f _ _ _ (by omega) _).mono ?_; rintro e wq ⟨rfl, rfl⟩))
              have QA := hid (show ∀ k, Calls Tryd.prog 28 #[.int .i64 n] ((w1.alloc (.cells #[.int .i64 id, .int .u64 (limb (modF f) 0 : Int), .int .u64 (limb (modF f) 1 : Int), .int .u64 (limb (modF f) 2 : Int), .int .u64 (limb (modF f) 3 : Int), .int .u64 i0, .int .u64 o0, .int .u64 o1, .int .u64 o2, .int .u64 o3, .int .u64 s0, .int .u64 s1, .int .u64 s2, .int .u64 s3] 55)).drewN k) fun e w' => e = .returned (.int .i64 (cntC n : Int)) ∧ w' = (w1.alloc (.cells #[.int .i64 id, .int .u64 (limb (modF f) 0 : Int), .int .u64 (limb (modF f) 1 : Int), .int .u64 (limb (modF f) 2 : Int), .int .u64 (limb (modF f) 3 : Int), .int .u64 i0, .int .u64 o0, .int .u64 o1, .int .u64 o2, .int .u64 o3, .int .u64 s0, .int .u64 s1, .int .u64 s2, .int .u64 s3] 55)).drewN k from fun k => (pcount_any n _).mono fun _ _ h => ⟨h.1, h.2.symm⟩)
              go_quiet ((go_at_call 28; exact Calls.quiet_of_same (QA.out _)))
              have h_f : Blk ((w1.alloc (.cells #[.int .i64 id, .int .u64 (limb (modF f) 0 : Int), .int .u64 (limb (modF f) 1 : Int), .int .u64 (limb (modF f) 2 : Int), .int .u64 (limb (modF f) 3 : Int), .int .u64 i0, .int .u64 o0, .int .u64 o1, .int .u64 o2, .int .u64 o3, .int .u64 s0, .int .u64 s1, .int .u64 s2, .int .u64 s3] 55)).drewN nq) w1.heap.size 55 [.int .i64 id, .int .u64 (limb (modF f) 0 : Int), .int .u64 (limb (modF f) 1 : Int), .int .u64 (limb (modF f) 2 : Int), .int .u64 (limb (modF f) 3 : Int), .int .u64 i0, .int .u64 o0, .int .u64 o1, .int .u64 o2, .int .u64 o3, .int .u64 s0, .int .u64 s1, .int .u64 s2, .int .u64 s3] := (Blk.new rfl : Blk (w1.alloc (.cells #[.int .i64 id, .int .u64 (limb (modF f) 0 : Int), .int .u64 (limb (modF f) 1 : Int), .int .u64 (limb (modF f) 2 : Int), .int .u64 (limb (modF f) 3 : Int), .int .u64 i0, .int .u64 o0, .int .u64 o1, .int .u64 o2, .int .u64 o3, .int .u64 s0, .int .u64 s1, .int .u64 s2, .int .u64 s3] 55)) _ _ _)
              have q0 := h_f.cell (i := 0) rfl
              have q1 := h_f.cell (i := 1) rfl
              have q2 := h_f.cell (i := 2) rfl
              have q3 := h_f.cell (i := 3) rfl
              have q4 := h_f.cell (i := 4) rfl
              have q5 := h_f.cell (i := 5) rfl
              have q6 := h_f.cell (i := 6) rfl
              have q7 := h_f.cell (i := 7) rfl
              have q8 := h_f.cell (i := 8) rfl
              have q9 := h_f.cell (i := 9) rfl
              have q10 := h_f.cell (i := 10) rfl
              have q11 := h_f.cell (i := 11) rfl
              have q12 := h_f.cell (i := 12) rfl
              have q13 := h_f.cell (i := 13) rfl
              skip
              go_wp2_with fail
              refine (contains_zero (modF f) (modF_lt f) (modF_pos f) _).mono ?_
              rintro e w2 ⟨rfl, b2⟩
              have h_p2 : Blk w2 w.heap.size 31 [.int .i64 f, .int .i64 t, .int .i64 i, .int .i64 n, .slice a m cap] := Blk.keep (show Blk ((w1.alloc (.cells #[.int .i64 id, .int .u64 (limb (modF f) 0 : Int), .int .u64 (limb (modF f) 1 : Int), .int .u64 (limb (modF f) 2 : Int), .int .u64 (limb (modF f) 3 : Int), .int .u64 i0, .int .u64 o0, .int .u64 o1, .int .u64 o2, .int .u64 o3, .int .u64 s0, .int .u64 s1, .int .u64 s2, .int .u64 s3] 55)).drewN nq) _ _ _ from hp1.out.alloc _) b2
              have e4 := h_p2.cell (i := 4) rfl
              have z2 := h_p2.lt
              have h_f2 := Blk.keep h_f b2
              have B2 : Below w.heap.size w w2 := (Below.drewN' (B1.alloc zB1 _) nq).trans (b2.mono (by simp; omega))
              have zB2 := B2.size
              have HF2 := hid h_f2
              clear q0 q1 q2 q3 q4 q5 q6 q7 q8 q9 q10 q11 q12 q13 h_f h_f2 h_p2 b2 c0 c1 c2 c3 c4
              have HB2 := hid B2
              go_wp2
              go_loopw [47, 5] (fun x y wr => ∃ k : Nat, k ≤ m ∧ x = .int .i64 (k : Int) ∧ y = .int .u64 (msk (allb (modF f) (ps.take k)) : Int) ∧ Blk wr w1.heap.size 55 [.int .i64 id, .int .u64 (limb (modF f) 0 : Int), .int .u64 (limb (modF f) 1 : Int), .int .u64 (limb (modF f) 2 : Int), .int .u64 (limb (modF f) 3 : Int), .int .u64 i0, .int .u64 o0, .int .u64 o1, .int .u64 o2, .int .u64 o3, .int .u64 s0, .int .u64 s1, .int .u64 s2, .int .u64 s3] ∧ Below w.heap.size w wr) (fun x _ _ => m - (intOf x).toNat)
              case atStart => exact ⟨0, Nat.zero_le _, rfl, rfl, HF2.out, HB2.out⟩
              case round =>
                obtain ⟨k, hk, rfl, rfl, hF, hB⟩ := hrel
                have zB := hB.size
                have HF := hid hF
                have HB := hid hB
                clear hF hB
                by_cases hlt : k < m
                · obtain ⟨x, hx⟩ : ∃ x, ps[k]? = some x := ⟨ps[k]'(by rw [HM.out]; exact hlt), List.getElem?_eq_getElem _⟩
                  obtain ⟨g, off, hga, he⟩ : ∃ g off, a = some ⟨g, off, none⟩ ∧ VecsAt w g off ps := by
                    rcases HPS.out with h | h
                    · subst h; cases hx
                    · exact h
                  subst hga
                  obtain ⟨lx, e0, e1, e2, e3⟩ := he k x hx
                  have hg := World.block_lt_of_cell? w _ e0
                  have d0 := (HB.out.cell (p := ⟨g, off + k * 4, none⟩) hg).trans e0
                  have d1 := (HB.out.cell (p := ⟨g, off + k * 4 + 1, none⟩) hg).trans e1
                  have d2 := (HB.out.cell (p := ⟨g, off + k * 4 + 2, none⟩) hg).trans e2
                  have d3 := (HB.out.cell (p := ⟨g, off + k * 4 + 3, none⟩) hg).trans e3
                  have q0 := HF.out.cell (i := 0) rfl
                  have q1 := HF.out.cell (i := 1) rfl
                  have q2 := HF.out.cell (i := 2) rfl
                  have q3 := HF.out.cell (i := 3) rfl
                  have q4 := HF.out.cell (i := 4) rfl
                  have q5 := HF.out.cell (i := 5) rfl
                  have q6 := HF.out.cell (i := 6) rfl
                  have q7 := HF.out.cell (i := 7) rfl
                  have q8 := HF.out.cell (i := 8) rfl
                  have q9 := HF.out.cell (i := 9) rfl
                  have q10 := HF.out.cell (i := 10) rfl
                  have q11 := HF.out.cell (i := 11) rfl
                  have q12 := HF.out.cell (i := 12) rfl
                  have q13 := HF.out.cell (i := 13) rfl
                  have zf := HF.out.lt
                  have hgr := Nat.lt_of_lt_of_le hg zB
                  have HA := hid (show bits .and .u64 (msk (allb (modF f) (ps.take k)) : Int) (msk (brw x (modF f)) : Int) = (msk (allb (modF f) (ps.take (k + 1))) : Int) by rw [List.take_add_one, hx]; exact and_allb _ _ _)
                  have HX := hid lx
                  clear e0 e1 e2 e3 he hx lx
                  go_wp2_with fail
                  refine (contains_any (modF f) x (modF_lt f) HX.out _).mono ?_
                  rintro e w3 ⟨rfl, b3⟩
                  have hF3 := hid (Blk.keep (HF.out.alloc _) b3)
                  have B3 := hid ((HB.out.alloc zB _).trans (b3.mono (by simp; omega)))
                  clear q0 q1 q2 q3 q4 q5 q6 q7 q8 q9 q10 q11 q12 q13 d0 d1 d2 d3 b3
                  go_wp2
                  go_roundw
                  case rel => exact ⟨k + 1, by omega, by go_num, congrArg (Value.int .u64) HA.out, hF3.out, B3.out⟩
                  case measure => simp [intOf]; omega
                · obtain rfl : k = m := by omega
                  rw [List.take_of_length_le (by rw [HM.out]; exact Nat.le_refl _)]
                  go_wp2
                  go_ret
                  exact ⟨rfl, HB.out⟩
            · rw [chkS, if_neg (fun h => h hf), if_neg (fun h => h h4), if_neg (fun h => h h12), if_neg (fun h => h h6), if_neg (fun h => h (by rw [hm]; exact h8)), if_pos hall]
              have T0 := allb_f hall
              have HPS := hid hrow
              have HM := hid hm
              clear hall hrow
              have T1 : ((m : Int) == (cntC n : Int)) = true := by simp [h8]
              have hm9 : m < 2200 := by omega
              clear h8 hm
              obtain ⟨id, i0, o0, o1, o2, o3, s0, s1, s2, s3, hg⟩ := get_known f hf
              have G := hid hg
              clear hg
              have HT := hid (hT.alloc (.cells #[.int .i64 f, .int .i64 t, .int .i64 i, .int .i64 n, .slice a m cap] 31))
              clear hT
              have hk := hid hf
              clear hf
              go_enter Tryd.func15, Tryd.ntmps15
              go_wp2_with fail
              refine (G.out _ HT.out).mono ?_
              rintro e w1 ⟨rfl, b⟩
              have h_p : Blk w1 w.heap.size 31 [.int .i64 f, .int .i64 t, .int .i64 i, .int .i64 n, .slice a m cap] := Blk.keep (Blk.new rfl) b
              have c0 := h_p.cell (i := 0) rfl
              have c1 := h_p.cell (i := 1) rfl
              have c2 := h_p.cell (i := 2) rfl
              have c3 := h_p.cell (i := 3) rfl
              have c4 := h_p.cell (i := 4) rfl
              have hp1 := hid h_p
              have z := h_p.lt
              have B1 : Below w.heap.size w w1 := Below.call (by go_grown) b
              have zB1 := B1.size
              clear h_p b
              go_wp2_with (go_at_call 26; first | (refine (between_t _ _ _ (by omega) _).mono ?_; rintro e wq ⟨rfl, rfl⟩) | (refine (between_f _ _ _ (by omega) _).mono ?_; rintro e wq ⟨rfl, rfl⟩))
              have QA := hid (show ∀ k, Calls Tryd.prog 28 #[.int .i64 n] ((w1.alloc (.cells #[.int .i64 id, .int .u64 (limb (modF f) 0 : Int), .int .u64 (limb (modF f) 1 : Int), .int .u64 (limb (modF f) 2 : Int), .int .u64 (limb (modF f) 3 : Int), .int .u64 i0, .int .u64 o0, .int .u64 o1, .int .u64 o2, .int .u64 o3, .int .u64 s0, .int .u64 s1, .int .u64 s2, .int .u64 s3] 55)).drewN k) fun e w' => e = .returned (.int .i64 (cntC n : Int)) ∧ w' = (w1.alloc (.cells #[.int .i64 id, .int .u64 (limb (modF f) 0 : Int), .int .u64 (limb (modF f) 1 : Int), .int .u64 (limb (modF f) 2 : Int), .int .u64 (limb (modF f) 3 : Int), .int .u64 i0, .int .u64 o0, .int .u64 o1, .int .u64 o2, .int .u64 o3, .int .u64 s0, .int .u64 s1, .int .u64 s2, .int .u64 s3] 55)).drewN k from fun k => (pcount_any n _).mono fun _ _ h => ⟨h.1, h.2.symm⟩)
              go_quiet ((go_at_call 28; exact Calls.quiet_of_same (QA.out _)))
              have h_f : Blk ((w1.alloc (.cells #[.int .i64 id, .int .u64 (limb (modF f) 0 : Int), .int .u64 (limb (modF f) 1 : Int), .int .u64 (limb (modF f) 2 : Int), .int .u64 (limb (modF f) 3 : Int), .int .u64 i0, .int .u64 o0, .int .u64 o1, .int .u64 o2, .int .u64 o3, .int .u64 s0, .int .u64 s1, .int .u64 s2, .int .u64 s3] 55)).drewN nq) w1.heap.size 55 [.int .i64 id, .int .u64 (limb (modF f) 0 : Int), .int .u64 (limb (modF f) 1 : Int), .int .u64 (limb (modF f) 2 : Int), .int .u64 (limb (modF f) 3 : Int), .int .u64 i0, .int .u64 o0, .int .u64 o1, .int .u64 o2, .int .u64 o3, .int .u64 s0, .int .u64 s1, .int .u64 s2, .int .u64 s3] := (Blk.new rfl : Blk (w1.alloc (.cells #[.int .i64 id, .int .u64 (limb (modF f) 0 : Int), .int .u64 (limb (modF f) 1 : Int), .int .u64 (limb (modF f) 2 : Int), .int .u64 (limb (modF f) 3 : Int), .int .u64 i0, .int .u64 o0, .int .u64 o1, .int .u64 o2, .int .u64 o3, .int .u64 s0, .int .u64 s1, .int .u64 s2, .int .u64 s3] 55)) _ _ _)
              have q0 := h_f.cell (i := 0) rfl
              have q1 := h_f.cell (i := 1) rfl
              have q2 := h_f.cell (i := 2) rfl
              have q3 := h_f.cell (i := 3) rfl
              have q4 := h_f.cell (i := 4) rfl
              have q5 := h_f.cell (i := 5) rfl
              have q6 := h_f.cell (i := 6) rfl
              have q7 := h_f.cell (i := 7) rfl
              have q8 := h_f.cell (i := 8) rfl
              have q9 := h_f.cell (i := 9) rfl
              have q10 := h_f.cell (i := 10) rfl
              have q11 := h_f.cell (i := 11) rfl
              have q12 := h_f.cell (i := 12) rfl
              have q13 := h_f.cell (i := 13) rfl
              skip
              go_wp2_with fail
              refine (contains_zero (modF f) (modF_lt f) (modF_pos f) _).mono ?_
              rintro e w2 ⟨rfl, b2⟩
              have h_p2 : Blk w2 w.heap.size 31 [.int .i64 f, .int .i64 t, .int .i64 i, .int .i64 n, .slice a m cap] := Blk.keep (show Blk ((w1.alloc (.cells #[.int .i64 id, .int .u64 (limb (modF f) 0 : Int), .int .u64 (limb (modF f) 1 : Int), .int .u64 (limb (modF f) 2 : Int), .int .u64 (limb (modF f) 3 : Int), .int .u64 i0, .int .u64 o0, .int .u64 o1, .int .u64 o2, .int .u64 o3, .int .u64 s0, .int .u64 s1, .int .u64 s2, .int .u64 s3] 55)).drewN nq) _ _ _ from hp1.out.alloc _) b2
              have e4 := h_p2.cell (i := 4) rfl
              have z2 := h_p2.lt
              have h_f2 := Blk.keep h_f b2
              have B2 : Below w.heap.size w w2 := (Below.drewN' (B1.alloc zB1 _) nq).trans (b2.mono (by simp; omega))
              have zB2 := B2.size
              have HF2 := hid h_f2
              clear q0 q1 q2 q3 q4 q5 q6 q7 q8 q9 q10 q11 q12 q13 h_f h_f2 h_p2 b2 c0 c1 c2 c3 c4
              have HB2 := hid B2
              go_wp2
              go_loopw [47, 5] (fun x y wr => ∃ k : Nat, k ≤ m ∧ x = .int .i64 (k : Int) ∧ y = .int .u64 (msk (allb (modF f) (ps.take k)) : Int) ∧ Blk wr w1.heap.size 55 [.int .i64 id, .int .u64 (limb (modF f) 0 : Int), .int .u64 (limb (modF f) 1 : Int), .int .u64 (limb (modF f) 2 : Int), .int .u64 (limb (modF f) 3 : Int), .int .u64 i0, .int .u64 o0, .int .u64 o1, .int .u64 o2, .int .u64 o3, .int .u64 s0, .int .u64 s1, .int .u64 s2, .int .u64 s3] ∧ Below w.heap.size w wr) (fun x _ _ => m - (intOf x).toNat)
              case atStart => exact ⟨0, Nat.zero_le _, rfl, rfl, HF2.out, HB2.out⟩
              case round =>
                obtain ⟨k, hk, rfl, rfl, hF, hB⟩ := hrel
                have zB := hB.size
                have HF := hid hF
                have HB := hid hB
                clear hF hB
                by_cases hlt : k < m
                · obtain ⟨x, hx⟩ : ∃ x, ps[k]? = some x := ⟨ps[k]'(by rw [HM.out]; exact hlt), List.getElem?_eq_getElem _⟩
                  obtain ⟨g, off, hga, he⟩ : ∃ g off, a = some ⟨g, off, none⟩ ∧ VecsAt w g off ps := by
                    rcases HPS.out with h | h
                    · subst h; cases hx
                    · exact h
                  subst hga
                  obtain ⟨lx, e0, e1, e2, e3⟩ := he k x hx
                  have hg := World.block_lt_of_cell? w _ e0
                  have d0 := (HB.out.cell (p := ⟨g, off + k * 4, none⟩) hg).trans e0
                  have d1 := (HB.out.cell (p := ⟨g, off + k * 4 + 1, none⟩) hg).trans e1
                  have d2 := (HB.out.cell (p := ⟨g, off + k * 4 + 2, none⟩) hg).trans e2
                  have d3 := (HB.out.cell (p := ⟨g, off + k * 4 + 3, none⟩) hg).trans e3
                  have q0 := HF.out.cell (i := 0) rfl
                  have q1 := HF.out.cell (i := 1) rfl
                  have q2 := HF.out.cell (i := 2) rfl
                  have q3 := HF.out.cell (i := 3) rfl
                  have q4 := HF.out.cell (i := 4) rfl
                  have q5 := HF.out.cell (i := 5) rfl
                  have q6 := HF.out.cell (i := 6) rfl
                  have q7 := HF.out.cell (i := 7) rfl
                  have q8 := HF.out.cell (i := 8) rfl
                  have q9 := HF.out.cell (i := 9) rfl
                  have q10 := HF.out.cell (i := 10) rfl
                  have q11 := HF.out.cell (i := 11) rfl
                  have q12 := HF.out.cell (i := 12) rfl
                  have q13 := HF.out.cell (i := 13) rfl
                  have zf := HF.out.lt
                  have hgr := Nat.lt_of_lt_of_le hg zB
                  have HA := hid (show bits .and .u64 (msk (allb (modF f) (ps.take k)) : Int) (msk (brw x (modF f)) : Int) = (msk (allb (modF f) (ps.take (k + 1))) : Int) by rw [List.take_add_one, hx]; exact and_allb _ _ _)
                  have HX := hid lx
                  clear e0 e1 e2 e3 he hx lx
                  go_wp2_with fail
                  refine (contains_any (modF f) x (modF_lt f) HX.out _).mono ?_
                  rintro e w3 ⟨rfl, b3⟩
                  have hF3 := hid (Blk.keep (HF.out.alloc _) b3)
                  have B3 := hid ((HB.out.alloc zB _).trans (b3.mono (by simp; omega)))
                  clear q0 q1 q2 q3 q4 q5 q6 q7 q8 q9 q10 q11 q12 q13 d0 d1 d2 d3 b3
                  go_wp2
                  go_roundw
                  case rel => exact ⟨k + 1, by omega, by go_num, congrArg (Value.int .u64) HA.out, hF3.out, B3.out⟩
                  case measure => simp [intOf]; omega
                · obtain rfl : k = m := by omega
                  rw [List.take_of_length_le (by rw [HM.out]; exact Nat.le_refl _)]
                  go_wp2
                  go_ret
                  exact ⟨rfl, HB.out⟩
          · rw [chkS, if_neg (fun h => h hf), if_neg (fun h => h h4), if_neg (fun h => h h12), if_neg (fun h => h h6), if_pos (by rw [hm]; exact h8)]
            have T1 : ((m : Int) == (cntC n : Int)) = false := by simp; omega
            obtain ⟨id, i0, o0, o1, o2, o3, s0, s1, s2, s3, hg⟩ := get_known f hf
            have G := hid hg
            clear hg
            have HT := hid (hT.alloc (.cells #[.int .i64 f, .int .i64 t, .int .i64 i, .int .i64 n, .slice a m cap] 31))
            clear hT
            have hk := hid hf
            clear hf
            go_enter Tryd.func15, Tryd.ntmps15
            go_wp2_with fail
            refine (G.out _ HT.out).mono ?_
            rintro e w1 ⟨rfl, b⟩
            have h_p : Blk w1 w.heap.size 31 [.int .i64 f, .int .i64 t, .int .i64 i, .int .i64 n, .slice a m cap] := Blk.keep (Blk.new rfl) b
            have c0 := h_p.cell (i := 0) rfl
            have c1 := h_p.cell (i := 1) rfl
            have c2 := h_p.cell (i := 2) rfl
            have c3 := h_p.cell (i := 3) rfl
            have c4 := h_p.cell (i := 4) rfl
            have z := h_p.lt
            have B1 : Below w.heap.size w w1 := Below.call (by go_grown) b
            have zB1 := B1.size
            clear h_p b
            go_wp2_with (go_at_call 26; first | (refine (between_t _ _ _ (by omega) _).mono ?_; rintro e wq ⟨rfl, rfl⟩) | (refine (between_f _ _ _ (by omega) _).mono ?_; rintro e wq ⟨rfl, rfl⟩))
            have QA := hid (show ∀ k, Calls Tryd.prog 28 #[.int .i64 n] ((w1.alloc (.cells #[.int .i64 id, .int .u64 (limb (modF f) 0 : Int), .int .u64 (limb (modF f) 1 : Int), .int .u64 (limb (modF f) 2 : Int), .int .u64 (limb (modF f) 3 : Int), .int .u64 i0, .int .u64 o0, .int .u64 o1, .int .u64 o2, .int .u64 o3, .int .u64 s0, .int .u64 s1, .int .u64 s2, .int .u64 s3] 55)).drewN k) fun e w' => e = .returned (.int .i64 (cntC n : Int)) ∧ w' = (w1.alloc (.cells #[.int .i64 id, .int .u64 (limb (modF f) 0 : Int), .int .u64 (limb (modF f) 1 : Int), .int .u64 (limb (modF f) 2 : Int), .int .u64 (limb (modF f) 3 : Int), .int .u64 i0, .int .u64 o0, .int .u64 o1, .int .u64 o2, .int .u64 o3, .int .u64 s0, .int .u64 s1, .int .u64 s2, .int .u64 s3] 55)).drewN k from fun k => (pcount_any n _).mono fun _ _ h => ⟨h.1, h.2.symm⟩)
            go_quiet ((go_at_call 28; exact Calls.quiet_of_same (QA.out _)))
            go_wp2
            go_ret
            exact ⟨rfl, Below.drewN' (B1.alloc zB1 _) nq⟩
        · rw [chkS, if_neg (fun h => h hf), if_neg (fun h => h h4), if_neg (fun h => h h12), if_pos h6]
          have hx := hid h6
          obtain ⟨id, i0, o0, o1, o2, o3, s0, s1, s2, s3, hg⟩ := get_known f hf
          have G := hid hg
          clear hg
          have HT := hid (hT.alloc (.cells #[.int .i64 f, .int .i64 t, .int .i64 i, .int .i64 n, .slice a m cap] 31))
          clear hT
          have hk := hid hf
          clear hf
          go_enter Tryd.func15, Tryd.ntmps15
          go_wp2_with fail
          refine (G.out _ HT.out).mono ?_
          rintro e w1 ⟨rfl, b⟩
          have h_p : Blk w1 w.heap.size 31 [.int .i64 f, .int .i64 t, .int .i64 i, .int .i64 n, .slice a m cap] := Blk.keep (Blk.new rfl) b
          have c0 := h_p.cell (i := 0) rfl
          have c1 := h_p.cell (i := 1) rfl
          have c2 := h_p.cell (i := 2) rfl
          have c3 := h_p.cell (i := 3) rfl
          have c4 := h_p.cell (i := 4) rfl
          have z := h_p.lt
          have B1 : Below w.heap.size w w1 := Below.call (by go_grown) b
          have zB1 := B1.size
          clear h_p b
          go_wp2_with (go_at_call 26; first | (refine (between_t _ _ _ (by omega) _).mono ?_; rintro e wq ⟨rfl, rfl⟩) | (refine (between_f _ _ _ (by omega) _).mono ?_; rintro e wq ⟨rfl, rfl⟩))
          go_ret
          exact ⟨rfl, by go_grown⟩
      · rw [chkS, if_neg (fun h => h hf), if_neg (fun h => h h4), if_pos h12]
        have hx := hid h12
        obtain ⟨id, i0, o0, o1, o2, o3, s0, s1, s2, s3, hg⟩ := get_known f hf
        have G := hid hg
        clear hg
        have HT := hid (hT.alloc (.cells #[.int .i64 f, .int .i64 t, .int .i64 i, .int .i64 n, .slice a m cap] 31))
        clear hT
        have hk := hid hf
        clear hf
        go_enter Tryd.func15, Tryd.ntmps15
        go_wp2_with fail
        refine (G.out _ HT.out).mono ?_
        rintro e w1 ⟨rfl, b⟩
        have h_p : Blk w1 w.heap.size 31 [.int .i64 f, .int .i64 t, .int .i64 i, .int .i64 n, .slice a m cap] := Blk.keep (Blk.new rfl) b
        have c0 := h_p.cell (i := 0) rfl
        have c1 := h_p.cell (i := 1) rfl
        have c2 := h_p.cell (i := 2) rfl
        have c3 := h_p.cell (i := 3) rfl
        have c4 := h_p.cell (i := 4) rfl
        have z := h_p.lt
        have B1 : Below w.heap.size w w1 := Below.call (by go_grown) b
        have zB1 := B1.size
        clear h_p b
        go_wp2_with (go_at_call 26; first | (refine (between_t _ _ _ (by omega) _).mono ?_; rintro e wq ⟨rfl, rfl⟩) | (refine (between_f _ _ _ (by omega) _).mono ?_; rintro e wq ⟨rfl, rfl⟩))
        go_ret
        exact ⟨rfl, by go_grown⟩
    · rw [chkS, if_neg (fun h => h hf), if_pos h4]
      have hx := hid h4
      obtain ⟨id, i0, o0, o1, o2, o3, s0, s1, s2, s3, hg⟩ := get_known f hf
      have G := hid hg
      clear hg
      have HT := hid (hT.alloc (.cells #[.int .i64 f, .int .i64 t, .int .i64 i, .int .i64 n, .slice a m cap] 31))
      clear hT
      have hk := hid hf
      clear hf
      go_enter Tryd.func15, Tryd.ntmps15
      go_wp2_with fail
      refine (G.out _ HT.out).mono ?_
      rintro e w1 ⟨rfl, b⟩
      have h_p : Blk w1 w.heap.size 31 [.int .i64 f, .int .i64 t, .int .i64 i, .int .i64 n, .slice a m cap] := Blk.keep (Blk.new rfl) b
      have c0 := h_p.cell (i := 0) rfl
      have c1 := h_p.cell (i := 1) rfl
      have c2 := h_p.cell (i := 2) rfl
      have c3 := h_p.cell (i := 3) rfl
      have c4 := h_p.cell (i := 4) rfl
      have z := h_p.lt
      have B1 : Below w.heap.size w w1 := Below.call (by go_grown) b
      have zB1 := B1.size
      clear h_p b
      go_wp2_with (go_at_call 26; first | (refine (between_t _ _ _ (by omega) _).mono ?_; rintro e wq ⟨rfl, rfl⟩) | (refine (between_f _ _ _ (by omega) _).mono ?_; rintro e wq ⟨rfl, rfl⟩))
      go_ret
      exact ⟨rfl, by go_grown⟩
  · rw [chkS, if_pos hf]
    have hg := get_unknown f hf
    have G := hid hg
    clear hg
    have HT := hid (hT.alloc (.cells #[.int .i64 f, .int .i64 t, .int .i64 i, .int .i64 n, .slice a m cap] 31))
    clear hT
    have hk := hid hf
    clear hf
    go_enter Tryd.func15, Tryd.ntmps15
    go_wp2_with fail
    refine (G.out _ HT.out).mono ?_
    rintro e w1 ⟨rfl, b⟩
    have h_p : Blk w1 w.heap.size 31 [.int .i64 f, .int .i64 t, .int .i64 i, .int .i64 n, .slice a m cap] := Blk.keep (Blk.new rfl) b
    have c0 := h_p.cell (i := 0) rfl
    have c1 := h_p.cell (i := 1) rfl
    have c2 := h_p.cell (i := 2) rfl
    have c3 := h_p.cell (i := 3) rfl
    have c4 := h_p.cell (i := 4) rfl
    have z := h_p.lt
    have B1 : Below w.heap.size w w1 := Below.call (by go_grown) b
    have zB1 := B1.size
    clear h_p b
    go_wp2_with (go_at_call 26; first | (refine (between_t _ _ _ (by omega) _).mono ?_; rintro e wq ⟨rfl, rfl⟩) | (refine (between_f _ _ _ (by omega) _).mono ?_; rintro e wq ⟨rfl, rfl⟩))
    go_ret
    exact ⟨rfl, by go_grown⟩
end Go.Proofs.YticpjaooegpipaaDoor
