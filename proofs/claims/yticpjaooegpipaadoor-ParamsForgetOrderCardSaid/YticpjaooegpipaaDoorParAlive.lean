/-
  The example of the layer.
-/
import Derived.Test.YticpjaooegpipaaDoorParCol
import Derived.Test.YticpjaooegpipaaDoorParShares
import Derived.Test.YticpjaooegpipaaDoorParRandom
import Derived.Test.YticpjaooegpipaaDoorEqs
namespace Go.Proofs.YticpjaooegpipaaDoor
open Go.RowKit Go.Maps

theorem sh_one {w : World} {g c : Nat} {s : Shr} {r : List Value} (h : Blk w g 31 (s.cells ++ r)) (hp : PaySl w s.v s.ps) (hc : 1 ≤ c) : ShSl w (.slice (some ⟨g, 0, none⟩) 1 c) [s] := by
  refine ⟨_, c, rfl, hc, .inr ⟨g, 0, rfl, fun j x hx => ?_⟩⟩
  match j with
  | 0 => obtain rfl : s = x := by simpa using hx
         exact ⟨hp, h.cell (i := 0) rfl, h.cell (i := 1) rfl, h.cell (i := 2) rfl, h.cell (i := 3) rfl, h.cell (i := 4) rfl⟩
  | j + 1 => simp at hx
theorem sh_two {w : World} {g c : Nat} {s u : Shr} (h : Blk w g 31 (s.cells ++ u.cells)) (hp : PaySl w s.v s.ps) (hq : PaySl w u.v u.ps) (hc : 2 ≤ c) : ShSl w (.slice (some ⟨g, 0, none⟩) 2 c) [s, u] := by
  refine ⟨_, c, rfl, hc, .inr ⟨g, 0, rfl, fun j x hx => ?_⟩⟩
  match j with
  | 0 => obtain rfl : s = x := by simpa using hx
         exact ⟨hp, h.cell (i := 0) rfl, h.cell (i := 1) rfl, h.cell (i := 2) rfl, h.cell (i := 3) rfl, h.cell (i := 4) rfl⟩
  | 1 => obtain rfl : u = x := by simpa using hx
         exact ⟨hq, h.cell (i := 5) rfl, h.cell (i := 6) rfl, h.cell (i := 7) rfl, h.cell (i := 8) rfl, h.cell (i := 9) rfl⟩
  | j + 2 => simp at hx
/-- The example's two shares. -/
abbrev exA (v : Value) (i : Int) : Shr := ⟨1, 2, i, 1, v, [0]⟩
theorem cnt_one : cntC 1 = 1 := by unfold cntC; rfl
theorem cnt_forty : cntC 40 = 2 := by unfold cntC; rfl
theorem chk_ex (i : Int) (h : 1 ≤ i ∧ i ≤ 255) : chkS 1 2 i 1 [0] = 0 := by
  unfold chkS
  rw [if_neg (fun h => h (Or.inl rfl)), if_neg (fun h => h ⟨by omega, by omega⟩), if_neg (fun e => e h), if_neg (fun h => h ⟨by omega, by omega⟩), if_neg (fun h => h (by rw [cnt_one]; rfl)), if_neg]
  intro h
  exact h (by intro x hx; rw [List.mem_singleton] at hx; subst hx; exact modF_pos 1)
theorem rnd_ex : rndP 1 2 3 40 = 128 := by
  have h : chkP 1 2 3 40 = 0 := by unfold chkP; rw [if_neg (fun h => h (Or.inl rfl))]; rfl
  unfold rndP; rw [if_pos h, cnt_forty]; rfl
theorem chkP_ex : chkP 1 2 3 40 = 0 := by unfold chkP; rw [if_neg (fun h => h (Or.inl rfl))]; rfl
theorem chkP_zero : chkP 0 0 0 0 = 3 := by unfold chkP; rw [if_pos (by rintro (h | h) <;> cases h)]
theorem not_other (v : Value) (i : Int) (r : List Shr) (j : Int) : ¬ other (exA v i :: r) (exA v j) := by
  rintro ⟨s0, h, hn⟩
  obtain rfl : exA v i = s0 := by simpa using h
  exact hn ⟨rfl, rfl, rfl⟩
theorem chkL_one (v : Value) : chkL [exA v 7] = 16 := by
  rw [chkL_good (by intro s hs; rw [List.mem_singleton] at hs; subst hs; exact chk_ex 7 (by omega))]
  refine chkG_few ?_ (by simp) ?_
  · rintro ⟨s, hs, ho⟩
    simp at hs
    subst hs
    exact not_other v 7 [] 7 ho
  · intro s hs
    obtain rfl : exA v 7 = s := by simpa using hs
    show ((1 : Nat) : Int) < 2
    decide
theorem chkL_two (v : Value) : chkL [exA v 7, exA v 8] = 0 := by
  rw [chkL_good (by intro s hs; simp at hs; rcases hs with rfl | rfl; exact chk_ex 7 (by omega); exact chk_ex 8 (by omega))]
  refine chkG_ok ?_ (by simp) ?_
  · rintro ⟨s, hs, ho⟩
    simp at hs
    rcases hs with rfl | rfl
    · exact not_other v 7 _ 7 ho
    · exact not_other v 7 _ 8 ho
  · intro h
    exact absurd (h (exA v 7) rfl) (by show ¬ ((2 : Nat) : Int) < 2; decide)
theorem pay_zero {w : World} {g : Nat} (h : w.ownsRow g 46 4 (.slice (some ⟨g, 0, none⟩) 1 1) 1 (madeCells (Value.agg #[.int .u64 0, .int .u64 0, .int .u64 0, .int .u64 0]).cells (1 * 4)).toList) : PaySl w (.slice (some ⟨g, 0, none⟩) 1 1) [0] := by
  refine ⟨_, 1, rfl, Nat.le_refl _, .inr ⟨g, 0, rfl, fun j x hx => ?_⟩⟩
  match j with
  | 0 =>
    obtain rfl : 0 = x := by simpa using hx
    refine ⟨by decide, ?_, ?_, ?_, ?_⟩ <;> rw [limb_zero]
    · exact (h.cellAt 0 (by omega)).trans (made_zero 1 0 0 (by omega) (by omega))
    · exact (h.cellAt 1 (by omega)).trans (made_zero 1 0 1 (by omega) (by omega))
    · exact (h.cellAt 2 (by omega)).trans (made_zero 1 0 2 (by omega) (by omega))
    · exact (h.cellAt 3 (by omega)).trans (made_zero 1 0 3 (by omega) (by omega))
  | j + 1 => simp at hx
theorem owns_slice' {w : World} {base : Nat} {e : TypeId} {size n : Nat} {v : Value} {xs : List Value} (h : w.ownsRow base e size v n xs) : ∃ a cap, v = .slice a n cap := by
  obtain ⟨_, ⟨rfl, hn⟩ | ⟨g, cap, cur, rfl, _⟩⟩ := h
  · exact ⟨none, 0, by rw [hn]⟩
  · exact ⟨_, cap, rfl⟩
set_option maxRecDepth 100000 in
set_option maxHeartbeats 2000000 in
theorem alive_any (w : World) (hT : Tab w) : Calls Tryd.prog 9 #[] w (Ret (.bool true) w) := by
  obtain ⟨i0, hi, hz0, hz1, hz2⟩ := info_parts info_elem
  have HT := hid hT
  clear hT
  go_enter Tryd.func9, Tryd.ntmps9
  go_wp2_with (at_make; refine wpList_make_full _ rfl _ _ 29 rfl (w.heap.size + 1) 46 i0 _ 4 Tryd.underlying29 hi hz0 hz1 .i64 .i64 _ _ 1 rfl rfl rfl rfl (by rw [hz2]; omega) (by unfold maxLen; omega) (by simp) ?_; intro w1 hown1 hgrow1; have G1 := hid (Below.grown (Below.refl ((w.alloc (.cells #[.int .i64 1, .int .i64 2, .int .i64 3, .int .i64 40] 23))).heap.size ((w.alloc (.cells #[.int .i64 1, .int .i64 2, .int .i64 3, .int .i64 40] 23)))) hgrow1 (Nat.le_refl _) (fun j hj => by cases hj)); have zG : w.heap.size + 1 ≤ w1.heap.size := (by have := G1.out.size; simpa using this); have hP1 : Blk w1 w.heap.size 23 [.int .i64 1, .int .i64 2, .int .i64 3, .int .i64 40] := Blk.keep (Blk.new rfl) G1.out; have e0 := hP1.cell (i := 0) rfl; have e1 := hP1.cell (i := 1) rfl; have e2 := hP1.cell (i := 2) rfl; have e3 := hP1.cell (i := 3) rfl; have zP : w.heap.size < w1.heap.size := (by omega); have zP1 : w.heap.size < w1.heap.size + 1 := (by omega); have zP2 : w.heap.size < w1.heap.size + 1 + 1 := (by omega); have HP1 := hid hP1; clear hP1)
  have hY1 := hid (pay_zero (g := w.heap.size + 1) (by simpa using hown1))
  have T1 := hid ((HT.out.alloc (.cells #[.int .i64 1, .int .i64 2, .int .i64 3, .int .i64 40] 23)).below G1.out (Nat.le_refl _))
  have B1 := hid (((Below.refl _ w).alloc (Nat.le_refl _) (.cells #[.int .i64 1, .int .i64 2, .int .i64 3, .int .i64 40] 23)).trans (G1.out.mono (by simp)))
  clear hown1 hgrow1 hi hz0 hz1 hz2
  have X0 := hid (((Below.refl w1.heap.size w1).alloc (Nat.le_refl _) (.cells #[.int .i64 1, .int .i64 2, .int .i64 7, .int .i64 1, .slice (some ⟨w.heap.size + 1, 0, none⟩) 1 1] 31)).alloc (by simp) (.cells #[.int .i64 1, .int .i64 2, .int .i64 8, .int .i64 1, .slice (some ⟨w.heap.size + 1, 0, none⟩) 1 1] 31) |>.alloc (by simp; omega) (.cells #[.int .i64 1, .int .i64 2, .int .i64 7, .int .i64 1, .slice (some ⟨w.heap.size + 1, 0, none⟩) 1 1, .int .i64 1, .int .i64 2, .int .i64 8, .int .i64 1, .slice (some ⟨w.heap.size + 1, 0, none⟩) 1 1] 31))
  have HA := hid (show Blk (((w1.alloc (.cells #[.int .i64 1, .int .i64 2, .int .i64 7, .int .i64 1, .slice (some ⟨w.heap.size + 1, 0, none⟩) 1 1] 31)).alloc (.cells #[.int .i64 1, .int .i64 2, .int .i64 8, .int .i64 1, .slice (some ⟨w.heap.size + 1, 0, none⟩) 1 1] 31)).alloc (.cells #[.int .i64 1, .int .i64 2, .int .i64 7, .int .i64 1, .slice (some ⟨w.heap.size + 1, 0, none⟩) 1 1, .int .i64 1, .int .i64 2, .int .i64 8, .int .i64 1, .slice (some ⟨w.heap.size + 1, 0, none⟩) 1 1] 31)) w1.heap.size 31 [.int .i64 1, .int .i64 2, .int .i64 7, .int .i64 1, .slice (some ⟨w.heap.size + 1, 0, none⟩) 1 1] from ((Blk.new rfl : Blk (w1.alloc (.cells #[.int .i64 1, .int .i64 2, .int .i64 7, .int .i64 1, .slice (some ⟨w.heap.size + 1, 0, none⟩) 1 1] 31)) _ _ _).alloc _).alloc _)
  have HL := hid (show Blk (((w1.alloc (.cells #[.int .i64 1, .int .i64 2, .int .i64 7, .int .i64 1, .slice (some ⟨w.heap.size + 1, 0, none⟩) 1 1] 31)).alloc (.cells #[.int .i64 1, .int .i64 2, .int .i64 8, .int .i64 1, .slice (some ⟨w.heap.size + 1, 0, none⟩) 1 1] 31)).alloc (.cells #[.int .i64 1, .int .i64 2, .int .i64 7, .int .i64 1, .slice (some ⟨w.heap.size + 1, 0, none⟩) 1 1, .int .i64 1, .int .i64 2, .int .i64 8, .int .i64 1, .slice (some ⟨w.heap.size + 1, 0, none⟩) 1 1] 31)) (w1.heap.size + 2) 31 [.int .i64 1, .int .i64 2, .int .i64 7, .int .i64 1, .slice (some ⟨w.heap.size + 1, 0, none⟩) 1 1, .int .i64 1, .int .i64 2, .int .i64 8, .int .i64 1, .slice (some ⟨w.heap.size + 1, 0, none⟩) 1 1] from Blk.new (by simp))
  have HP := hid (HP1.out.below X0.out zP)
  have HY := hid (hY1.out.below X0.out)
  have HT2 := hid (T1.out.below X0.out (Nat.le_refl _))
  have BB := hid (B1.out.trans (X0.out.mono (B1.out.size)))
  have zBB := BB.out.size
  have c0 := HP.out.cell (i := 0) rfl
  have c1 := HP.out.cell (i := 1) rfl
  have c2 := HP.out.cell (i := 2) rfl
  have c3 := HP.out.cell (i := 3) rfl
  refine (prandom_any 1 2 3 40 _ HT2.out).mono ?_
  rw [rnd_ex]
  rintro e w12 ⟨rfl, b⟩
  have HA12 := hid (Blk.keep HA.out b)
  have HL12 := hid (Blk.keep HL.out b)
  have HP12 := hid (Blk.keep HP.out b)
  have HY12 := hid (HY.out.below b)
  have HT12 := hid (HT2.out.below b (Nat.le_refl _))
  have BB12 := hid (BB.out.trans (b.mono zBB))
  have zBB12 := BB12.out.size
  clear b e0 e1 e2 e3 c0 c1 c2 c3
  have c0 := HP12.out.cell (i := 0) rfl
  have c1 := HP12.out.cell (i := 1) rfl
  have c2 := HP12.out.cell (i := 2) rfl
  have c3 := HP12.out.cell (i := 3) rfl
  go_wp2_with fail
  refine (pcheck_any 1 2 3 40 _ HT12.out).mono ?_
  rw [chkP_ex]
  rintro e w13 ⟨rfl, b⟩
  have HA13 := hid (Blk.keep HA12.out b)
  have HL13 := hid (Blk.keep HL12.out b)
  have HP13 := hid (Blk.keep HP12.out b)
  have HY13 := hid (HY12.out.below b)
  have HT13 := hid (HT12.out.below b (Nat.le_refl _))
  have BB13 := hid (BB12.out.trans (b.mono zBB12))
  have zBB13 := BB13.out.size
  clear b c0 c1 c2 c3
  go_wp2_with fail
  refine (pcheck_any 0 0 0 0 _ HT13.out).mono ?_
  rw [chkP_zero]
  rintro e w14 ⟨rfl, b⟩
  have HA14 := hid (Blk.keep HA13.out b)
  have HL14 := hid (Blk.keep HL13.out b)
  have HP14 := hid (Blk.keep HP13.out b)
  have HY14 := hid (HY13.out.below b)
  have HT14 := hid (HT13.out.below b (Nat.le_refl _))
  have BB14 := hid (BB13.out.trans (b.mono zBB13))
  have zBB14 := BB14.out.size
  clear b
  have c0 := HA14.out.cell (i := 0) rfl
  have c1 := HA14.out.cell (i := 1) rfl
  have c2 := HA14.out.cell (i := 2) rfl
  have c3 := HA14.out.cell (i := 3) rfl
  have c4 := HA14.out.cell (i := 4) rfl
  go_wp2_with fail
  refine (pshare_any 1 2 7 1 _ [0] _ HT14.out HY14.out).mono ?_
  rw [chk_ex 7 (by omega)]
  rintro e w15 ⟨rfl, b⟩
  have HA15 := hid (Blk.keep HA14.out b)
  have HL15 := hid (Blk.keep HL14.out b)
  have HP15 := hid (Blk.keep HP14.out b)
  have HY15 := hid (HY14.out.below b)
  have HT15 := hid (HT14.out.below b (Nat.le_refl _))
  have BB15 := hid (BB14.out.trans (b.mono zBB14))
  have zBB15 := BB15.out.size
  clear b c0 c1 c2 c3 c4
  go_wp2_with fail
  refine (pshares_any _ [exA (.slice (some ⟨w.heap.size + 1, 0, none⟩) 1 1) 7] _ HT15.out (sh_one (s := exA (.slice (some ⟨w.heap.size + 1, 0, none⟩) 1 1) 7) HL15.out HY15.out (by omega)) (by simp)).mono ?_
  rw [chkL_one]
  rintro e w16 ⟨rfl, b⟩
  have HA16 := hid (Blk.keep HA15.out b)
  have HL16 := hid (Blk.keep HL15.out b)
  have HP16 := hid (Blk.keep HP15.out b)
  have HY16 := hid (HY15.out.below b)
  have HT16 := hid (HT15.out.below b (Nat.le_refl _))
  have BB16 := hid (BB15.out.trans (b.mono zBB15))
  have zBB16 := BB16.out.size
  clear b
  go_wp2_with fail
  refine (pshares_any _ [exA (.slice (some ⟨w.heap.size + 1, 0, none⟩) 1 1) 7, exA (.slice (some ⟨w.heap.size + 1, 0, none⟩) 1 1) 8] _ HT16.out (sh_two (s := exA (.slice (some ⟨w.heap.size + 1, 0, none⟩) 1 1) 7) (u := exA (.slice (some ⟨w.heap.size + 1, 0, none⟩) 1 1) 8) HL16.out HY16.out HY16.out (by omega)) (by simp)).mono ?_
  rw [chkL_two]
  rintro e w17 ⟨rfl, b⟩
  have HA17 := hid (Blk.keep HA16.out b)
  have HL17 := hid (Blk.keep HL16.out b)
  have HP17 := hid (Blk.keep HP16.out b)
  have HY17 := hid (HY16.out.below b)
  have HT17 := hid (HT16.out.below b (Nat.le_refl _))
  have BB17 := hid (BB16.out.trans (b.mono zBB16))
  have zBB17 := BB17.out.size
  clear b
  go_wp2_with fail
  refine (indices_any _ [exA (.slice (some ⟨w.heap.size + 1, 0, none⟩) 1 1) 7, exA (.slice (some ⟨w.heap.size + 1, 0, none⟩) 1 1) 8] _ (sh_two (s := exA (.slice (some ⟨w.heap.size + 1, 0, none⟩) 1 1) 7) (u := exA (.slice (some ⟨w.heap.size + 1, 0, none⟩) 1 1) 8) HL17.out HY17.out HY17.out (by omega)) (by simp)).mono ?_
  rintro e w18 ⟨vi, rfl, hown, b⟩
  have HA18 := hid (Blk.keep HA17.out b)
  have HL18 := hid (Blk.keep HL17.out b)
  have HP18 := hid (Blk.keep HP17.out b)
  have HY18 := hid (HY17.out.below b)
  have HT18 := hid (HT17.out.below b (Nat.le_refl _))
  have BB18 := hid (BB17.out.trans (b.mono zBB17))
  have zBB18 := BB18.out.size
  clear b
  obtain ⟨gi, ci, rest, rfl, hgi, hci, hxi⟩ := owns_blk hown (by simp)
  have HI := hid hxi
  clear hown hxi hci
  go_wp2_with fail
  refine (eqInts_any gi 0 ci w18.heap.size 0 2 2 [7, 8] [7, 8] rfl rfl (by omega) _ ?_ ?_).mono ?_
  · exact fun j v hv => by rw [Nat.zero_add]; exact (HI.out.alloc _).cell (by rw [List.getElem?_append_left (by rw [List.getElem?_eq_some_iff] at hv; obtain ⟨h, _⟩ := hv; exact h)]; exact hv)
  · exact (Blk.new rfl).range
  rintro e w19 ⟨rfl, nq, rfl⟩
  have X9 := hid (Below.drewN' ((Below.refl w18.heap.size w18).alloc (Nat.le_refl _) (.cells #[.int .i64 7, .int .i64 8] 3)) nq)
  have HL19 := hid (HL18.out.below X9.out HL18.out.lt)
  have HY19 := hid (HY18.out.below X9.out)
  have BB19 := hid (BB18.out.trans (X9.out.mono zBB18))
  have zBB19 := BB19.out.size
  go_wp2_with fail
  refine (column_any _ [exA (.slice (some ⟨w.heap.size + 1, 0, none⟩) 1 1) 7, exA (.slice (some ⟨w.heap.size + 1, 0, none⟩) 1 1) 8] 0 _ (sh_two (s := exA (.slice (some ⟨w.heap.size + 1, 0, none⟩) 1 1) 7) (u := exA (.slice (some ⟨w.heap.size + 1, 0, none⟩) 1 1) 8) HL19.out HY19.out HY19.out (by omega)) (by simp) (by intro s hs; simp at hs; rcases hs with rfl | rfl <;> simp)).mono ?_
  rintro e w20 ⟨vc, xs, rfl, hown, _, b⟩
  have hsl := owns_slice' hown
  obtain ⟨ac, cc, rfl⟩ := hsl
  have BB20 := hid (BB19.out.trans (b.mono zBB19))
  clear b hown
  go_wp2
  go_ret
  exact ⟨rfl, BB20.out⟩
end Go.Proofs.YticpjaooegpipaaDoor
