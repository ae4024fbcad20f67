/-
  The reference's CheckShare.
-/
import Derived.Test.YticpjaooegpipaaDoorParSh
namespace Go.Proofs.YticpjaooegpipaaDoor
open Go.RowKit

set_option maxRecDepth 100000 in
set_option maxHeartbeats 8000000 in
theorem rshare_any (f t i n : Int) (v : Value) (ps : List Nat) (w : World) (hP : PaySl w v ps) : Calls Tryd.prog 16 #[.agg #[.int .i64 f, .int .i64 t, .int .i64 i, .int .i64 n, v]] w (Ret (.int .i64 (chkS f t i n ps)) w) := by
  obtain ⟨a, cap, rfl, _, hrow⟩ := hP
  obtain ⟨m, hm⟩ : ∃ m, ps.length = m := ⟨_, rfl⟩
  rw [hm]
  have hn9 := cntC_le n
  by_cases hf : knownF f
  · by_cases h4 : 1 ≤ t ∧ t ≤ 255
    · by_cases h12 : 1 ≤ i ∧ i ≤ 255
      · by_cases h6 : 0 ≤ n ∧ n ≤ 65535
        · by_cases h8 : m = cntC n
          · by_cases hall : ∀ x ∈ ps, x < modF f
            · rw [chkS, if_neg (fun h => h hf), if_neg (fun h => h h4), if_neg (fun h => h h12), if_neg (fun h => h h6), if_neg (fun h => h (by rw [hm]; exact h8)), if_neg (fun h => h hall)]
              have HPS := hid hrow
              have HM := hid hm
              have HALL := hid hall
              clear hall hrow
              have T1 : ((m : Int) == (cntC n : Int)) = true := by simp [h8]
              have hm9 : m < 2200 := by omega
              clear h8 hm
              have RM := hid (rmodF f hf)
              go_enter Tryd.func16, Tryd.ntmps16
              go_wp2_with (go_at_call 27; first | (refine (rknown_t _ (by first | assumption | exact hf) _).mono ?_; rintro e wq ⟨rfl, rfl⟩) | (refine (rknown_f _ (by first | assumption | exact hf) _).mono ?_; rintro e wq ⟨rfl, rfl⟩))
              have QA := hid (show ∀ k, Calls Tryd.prog 29 #[.int .i64 n] ((w.alloc (.cells #[.int .i64 f, .int .i64 t, .int .i64 i, .int .i64 n, .slice a m cap] 31)).drewN k) fun e w' => e = .returned (.int .i64 (cntC n : Int)) ∧ w' = (w.alloc (.cells #[.int .i64 f, .int .i64 t, .int .i64 i, .int .i64 n, .slice a m cap] 31)).drewN k from fun k => (rcount_any n _).mono fun _ _ h => ⟨h.1, h.2.symm⟩)
              go_quiet ((go_at_call 29; exact Calls.quiet_of_same (QA.out _)))
              go_wp2_with fail
              refine (RM.out _).mono ?_
              rintro e w1 ⟨rfl, b1⟩
              have h_p : Blk w1 w.heap.size 31 [.int .i64 f, .int .i64 t, .int .i64 i, .int .i64 n, .slice a m cap] := Blk.keep (show Blk ((w.alloc (.cells #[.int .i64 f, .int .i64 t, .int .i64 i, .int .i64 n, .slice a m cap] 31)).drewN nq) _ _ _ from Blk.new rfl) b1
              have B1 : Below w.heap.size w w1 := (Below.drewN' ((Below.refl _ w).alloc (Nat.le_refl _) _) nq).trans (b1.mono (by simp))
              have zB1 := B1.size
              have zp := h_p.lt
              have HP1 := hid h_p
              have HB1 := hid B1
              clear h_p b1
              go_wp2
              go_loopw [4] (fun x wr => ∃ k : Nat, k ≤ m ∧ x = .int .i64 (k : Int) ∧ (∀ y ∈ ps.take k, y < modF f) ∧ Blk wr w.heap.size 31 [.int .i64 f, .int .i64 t, .int .i64 i, .int .i64 n, .slice a m cap] ∧ Blk wr w1.heap.size 45 [.int .u64 (limb (modF f) 0 : Int), .int .u64 (limb (modF f) 1 : Int), .int .u64 (limb (modF f) 2 : Int), .int .u64 (limb (modF f) 3 : Int)] ∧ Below w.heap.size w wr) (fun x _ => m - (intOf x).toNat)
              case atStart => exact ⟨0, Nat.zero_le _, rfl, by intro y hy; simp at hy, HP1.out.alloc _, Blk.new rfl, HB1.out.alloc zB1 _⟩
              case round =>
                obtain ⟨k, hk, rfl, hA, hP, hM, hB⟩ := hrel
                have zB := hB.size
                have HP := hid hP
                have HM1 := hid hM
                have HB := hid hB
                have HA := hid hA
                have zp1 := hP.lt
                have zm1 := hM.lt
                have c4 := hP.cell (i := 4) rfl
                clear hP hB hA
                by_cases hlt : k < m
                · obtain ⟨x, hx⟩ : ∃ x, ps[k]? = some x := ⟨ps[k]'(by rw [HM.out]; exact hlt), List.getElem?_eq_getElem _⟩
                  obtain ⟨g, off, hga, he⟩ : ∃ g off, a = some ⟨g, off, none⟩ ∧ VecsAt w g off ps := by
                    rcases HPS.out with h | h
                    · subst h; cases hx
                    · exact h
                  subst hga
                  obtain ⟨lx, e0, e1, e2, e3⟩ := he k x hx
                  have hg := World.block_lt_of_cell? w _ e0
                  have d0 := (HB.out.cell (p := ⟨g, off + k * 4, none⟩) hg).trans e0
                  have d1 := (HB.out.cell (p := ⟨g, off + k * 4 + 1, none⟩) hg).trans e1
                  have d2 := (HB.out.cell (p := ⟨g, off + k * 4 + 2, none⟩) hg).trans e2
                  have d3 := (HB.out.cell (p := ⟨g, off + k * 4 + 3, none⟩) hg).trans e3
                  have m0 := hM.cell (i := 0) rfl
                  have m1 := hM.cell (i := 1) rfl
                  have m2 := hM.cell (i := 2) rfl
                  have m3 := hM.cell (i := 3) rfl
                  have hgr := Nat.lt_of_lt_of_le hg zB
                  have HX := hid lx
                  have hx9 := hid hx
                  clear e0 e1 e2 e3 he hx
                  by_cases hlx : x < modF f
                  · have he := sub_eq (modF_lt f) lx hlx
                    clear lx hM
                    go_wp2
                    go_region_held3 (fun w' => w'.cell? ⟨w1.heap.size, 0, none⟩ = some (.int .u64 (limb (modF f) 0 : Int)) ∧ w'.cell? ⟨w1.heap.size, 1, none⟩ = some (.int .u64 (limb (modF f) 1 : Int)) ∧ w'.cell? ⟨w1.heap.size, 2, none⟩ = some (.int .u64 (limb (modF f) 2 : Int)) ∧ w'.cell? ⟨w1.heap.size, 3, none⟩ = some (.int .u64 (limb (modF f) 3 : Int)) ∧ w'.cell? ⟨w.heap.size, 4, none⟩ = some (.slice (some ⟨g, off, none⟩) m cap) ∧ w'.cell? ⟨g, off + k * 4, none⟩ = some (.int .u64 (limb x 0 : Int)) ∧ w'.cell? ⟨g, off + k * 4 + 1, none⟩ = some (.int .u64 (limb x 1 : Int)) ∧ w'.cell? ⟨g, off + k * 4 + 2, none⟩ = some (.int .u64 (limb x 2 : Int)) ∧ w'.cell? ⟨g, off + k * 4 + 3, none⟩ = some (.int .u64 (limb x 3 : Int))) ((first | (go_simp; done) | go_keep)) (first | (go_at_call 32; refine (rsubtract_any (modF f) x 0 (modF_lt f) HX.out _).mono ?_; rintro e w2 ⟨rfl, b2⟩; have B2 : Below w.heap.size w w2 := (Below.drew HB.out).trans (b2.mono (by simp; omega)); have zB2 := B2.size; have y0 : w.heap.size < w2.heap.size := (by have this := b2.size; (try simp at this); omega); have y1 : w1.heap.size < w2.heap.size := (by have this := b2.size; (try simp at this); omega); have y2 : g < w2.heap.size := (by have this := b2.size; (try simp at this); omega); have hc : ∀ b o, b < wr.heap.size → w2.cell? ⟨b, o, none⟩ = wr.cell? ⟨b, o, none⟩ := fun b o h => bcell (W := wr.drew) b2 b o h; have n0 := (hc _ _ zm1).trans m0; have n1 := (hc _ _ zm1).trans m1; have n2 := (hc _ _ zm1).trans m2; have n3 := (hc _ _ zm1).trans m3; have n4 := (hc _ _ zp1).trans c4; have n5 := (hc _ _ hgr).trans d0; have n6 := (hc _ _ hgr).trans d1; have n7 := (hc _ _ hgr).trans d2; have n8 := (hc _ _ hgr).trans d3; clear hc))
                    go_wp2
                    go_roundw
                    case rel => exact ⟨k + 1, by omega, by go_num, by intro y hy; rw [List.take_add_one, hx9.out] at hy; simp only [List.mem_append, Option.toList_some, List.mem_singleton] at hy; rcases hy with h | rfl; exact HA.out y h; exact hlx, Blk.keep (show Blk wr.drew _ _ _ from HP.out) b2, Blk.keep (show Blk wr.drew _ _ _ from HM1.out) b2, B2⟩
                    case measure => simp [intOf]; omega
                  · have he := sub_ne (modF_lt f) (modF_pos f) lx hlx
                    clear lx hM
                    exact absurd (HALL.out x (List.mem_of_getElem? hx9.out)) hlx
                · obtain rfl : k = m := by omega
                  go_wp2
                  go_ret
                  exact ⟨rfl, HB.out⟩
            · rw [chkS, if_neg (fun h => h hf), if_neg (fun h => h h4), if_neg (fun h => h h12), if_neg (fun h => h h6), if_neg (fun h => h (by rw [hm]; exact h8)), if_pos hall]
              have HPS := hid hrow
              have HM := hid hm
              have HALL := hid hall
              clear hall hrow
              have T1 : ((m : Int) == (cntC n : Int)) = true := by simp [h8]
              have hm9 : m < 2200 := by omega
              clear h8 hm
              have RM := hid (rmodF f hf)
              go_enter Tryd.func16, Tryd.ntmps16
              go_wp2_with (go_at_call 27; first | (refine (rknown_t _ (by first | assumption | exact hf) _).mono ?_; rintro e wq ⟨rfl, rfl⟩) | (refine (rknown_f _ (by first | assumption | exact hf) _).mono ?_; rintro e wq ⟨rfl, rfl⟩))
              have QA := hid (show ∀ k, Calls Tryd.prog 29 #[.int .i64 n] ((w.alloc (.cells #[.int .i64 f, .int .i64 t, .int .i64 i, .int .i64 n, .slice a m cap] 31)).drewN k) fun e w' => e = .returned (.int .i64 (cntC n : Int)) ∧ w' = (w.alloc (.cells #[.int .i64 f, .int .i64 t, .int .i64 i, .int .i64 n, .slice a m cap] 31)).drewN k from fun k => (rcount_any n _).mono fun _ _ h => ⟨h.1, h.2.symm⟩)
              go_quiet ((go_at_call 29; exact Calls.quiet_of_same (QA.out _)))
              go_wp2_with fail
              refine (RM.out _).mono ?_
              rintro e w1 ⟨rfl, b1⟩
              have h_p : Blk w1 w.heap.size 31 [.int .i64 f, .int .i64 t, .int .i64 i, .int .i64 n, .slice a m cap] := Blk.keep (show Blk ((w.alloc (.cells #[.int .i64 f, .int .i64 t, .int .i64 i, .int .i64 n, .slice a m cap] 31)).drewN nq) _ _ _ from Blk.new rfl) b1
              have B1 : Below w.heap.size w w1 := (Below.drewN' ((Below.refl _ w).alloc (Nat.le_refl _) _) nq).trans (b1.mono (by simp))
              have zB1 := B1.size
              have zp := h_p.lt
              have HP1 := hid h_p
              have HB1 := hid B1
              clear h_p b1
              go_wp2
              go_loopw [4] (fun x wr => ∃ k : Nat, k ≤ m ∧ x = .int .i64 (k : Int) ∧ (∀ y ∈ ps.take k, y < modF f) ∧ Blk wr w.heap.size 31 [.int .i64 f, .int .i64 t, .int .i64 i, .int .i64 n, .slice a m cap] ∧ Blk wr w1.heap.size 45 [.int .u64 (limb (modF f) 0 : Int), .int .u64 (limb (modF f) 1 : Int), .int .u64 (limb (modF f) 2 : Int), .int .u64 (limb (modF f) 3 : Int)] ∧ Below w.heap.size w wr) (fun x _ => m - (intOf x).toNat)
              case atStart => exact ⟨0, Nat.zero_le _, rfl, by intro y hy; simp at hy, HP1.out.alloc _, Blk.new rfl, HB1.out.alloc zB1 _⟩
              case round =>
                obtain ⟨k, hk, rfl, hA, hP, hM, hB⟩ := hrel
                have zB := hB.size
                have HP := hid hP
                have HM1 := hid hM
                have HB := hid hB
                have HA := hid hA
                have zp1 := hP.lt
                have zm1 := hM.lt
                have c4 := hP.cell (i := 4) rfl
                clear hP hB hA
                by_cases hlt : k < m
                · obtain ⟨x, hx⟩ : ∃ x, ps[k]? = some x := ⟨ps[k]'(by rw [HM.out]; exact hlt), List.getElem?_eq_getElem _⟩
                  obtain ⟨g, off, hga, he⟩ : ∃ g off, a = some ⟨g, off, none⟩ ∧ VecsAt w g off ps := by
                    rcases HPS.out with h | h
                    · subst h; cases hx
                    · exact h
                  subst hga
                  obtain ⟨lx, e0, e1, e2, e3⟩ := he k x hx
                  have hg := World.block_lt_of_cell? w _ e0
                  have d0 := (HB.out.cell (p := ⟨g, off + k * 4, none⟩) hg).trans e0
                  have d1 := (HB.out.cell (p := ⟨g, off + k * 4 + 1, none⟩) hg).trans e1
                  have d2 := (HB.out.cell (p := ⟨g, off + k * 4 + 2, none⟩) hg).trans e2
                  have d3 := (HB.out.cell (p := ⟨g, off + k * 4 + 3, none⟩) hg).trans e3
                  have m0 := hM.cell (i := 0) rfl
                  have m1 := hM.cell (i := 1) rfl
                  have m2 := hM.cell (i := 2) rfl
                  have m3 := hM.cell (i := 3) rfl
                  have hgr := Nat.lt_of_lt_of_le hg zB
                  have HX := hid lx
                  have hx9 := hid hx
                  clear e0 e1 e2 e3 he hx
                  by_cases hlx : x < modF f
                  · have he := sub_eq (modF_lt f) lx hlx
                    clear lx hM
                    go_wp2
                    go_region_held3 (fun w' => w'.cell? ⟨w1.heap.size, 0, none⟩ = some (.int .u64 (limb (modF f) 0 : Int)) ∧ w'.cell? ⟨w1.heap.size, 1, none⟩ = some (.int .u64 (limb (modF f) 1 : Int)) ∧ w'.cell? ⟨w1.heap.size, 2, none⟩ = some (.int .u64 (limb (modF f) 2 : Int)) ∧ w'.cell? ⟨w1.heap.size, 3, none⟩ = some (.int .u64 (limb (modF f) 3 : Int)) ∧ w'.cell? ⟨w.heap.size, 4, none⟩ = some (.slice (some ⟨g, off, none⟩) m cap) ∧ w'.cell? ⟨g, off + k * 4, none⟩ = some (.int .u64 (limb x 0 : Int)) ∧ w'.cell? ⟨g, off + k * 4 + 1, none⟩ = some (.int .u64 (limb x 1 : Int)) ∧ w'.cell? ⟨g, off + k * 4 + 2, none⟩ = some (.int .u64 (limb x 2 : Int)) ∧ w'.cell? ⟨g, off + k * 4 + 3, none⟩ = some (.int .u64 (limb x 3 : Int))) ((first | (go_simp; done) | go_keep)) (first | (go_at_call 32; refine (rsubtract_any (modF f) x 0 (modF_lt f) HX.out _).mono ?_; rintro e w2 ⟨rfl, b2⟩; have B2 : Below w.heap.size w w2 := (Below.drew HB.out).trans (b2.mono (by simp; omega)); have zB2 := B2.size; have y0 : w.heap.size < w2.heap.size := (by have this := b2.size; (try simp at this); omega); have y1 : w1.heap.size < w2.heap.size := (by have this := b2.size; (try simp at this); omega); have y2 : g < w2.heap.size := (by have this := b2.size; (try simp at this); omega); have hc : ∀ b o, b < wr.heap.size → w2.cell? ⟨b, o, none⟩ = wr.cell? ⟨b, o, none⟩ := fun b o h => bcell (W := wr.drew) b2 b o h; have n0 := (hc _ _ zm1).trans m0; have n1 := (hc _ _ zm1).trans m1; have n2 := (hc _ _ zm1).trans m2; have n3 := (hc _ _ zm1).trans m3; have n4 := (hc _ _ zp1).trans c4; have n5 := (hc _ _ hgr).trans d0; have n6 := (hc _ _ hgr).trans d1; have n7 := (hc _ _ hgr).trans d2; have n8 := (hc _ _ hgr).trans d3; clear hc))
                    go_wp2
                    go_roundw
                    case rel => exact ⟨k + 1, by omega, by go_num, by intro y hy; rw [List.take_add_one, hx9.out] at hy; simp only [List.mem_append, Option.toList_some, List.mem_singleton] at hy; rcases hy with h | rfl; exact HA.out y h; exact hlx, Blk.keep (show Blk wr.drew _ _ _ from HP.out) b2, Blk.keep (show Blk wr.drew _ _ _ from HM1.out) b2, B2⟩
                    case measure => simp [intOf]; omega
                  · have he := sub_ne (modF_lt f) (modF_pos f) lx hlx
                    clear lx hM
                    go_wp2
                    go_region_held3 (fun w' => w'.cell? ⟨w1.heap.size, 0, none⟩ = some (.int .u64 (limb (modF f) 0 : Int)) ∧ w'.cell? ⟨w1.heap.size, 1, none⟩ = some (.int .u64 (limb (modF f) 1 : Int)) ∧ w'.cell? ⟨w1.heap.size, 2, none⟩ = some (.int .u64 (limb (modF f) 2 : Int)) ∧ w'.cell? ⟨w1.heap.size, 3, none⟩ = some (.int .u64 (limb (modF f) 3 : Int)) ∧ w'.cell? ⟨w.heap.size, 4, none⟩ = some (.slice (some ⟨g, off, none⟩) m cap) ∧ w'.cell? ⟨g, off + k * 4, none⟩ = some (.int .u64 (limb x 0 : Int)) ∧ w'.cell? ⟨g, off + k * 4 + 1, none⟩ = some (.int .u64 (limb x 1 : Int)) ∧ w'.cell? ⟨g, off + k * 4 + 2, none⟩ = some (.int .u64 (limb x 2 : Int)) ∧ w'.cell? ⟨g, off + k * 4 + 3, none⟩ = some (.int .u64 (limb x 3 : Int))) ((first | (go_simp; done) | go_keep)) (first | (go_at_call 32; refine (rsubtract_any (modF f) x 0 (modF_lt f) HX.out _).mono ?_; rintro e w2 ⟨rfl, b2⟩; have B2 : Below w.heap.size w w2 := (Below.drew HB.out).trans (b2.mono (by simp; omega)); have zB2 := B2.size; have y0 : w.heap.size < w2.heap.size := (by have this := b2.size; (try simp at this); omega); have y1 : w1.heap.size < w2.heap.size := (by have this := b2.size; (try simp at this); omega); have y2 : g < w2.heap.size := (by have this := b2.size; (try simp at this); omega); have hc : ∀ b o, b < wr.heap.size → w2.cell? ⟨b, o, none⟩ = wr.cell? ⟨b, o, none⟩ := fun b o h => bcell (W := wr.drew) b2 b o h; have n0 := (hc _ _ zm1).trans m0; have n1 := (hc _ _ zm1).trans m1; have n2 := (hc _ _ zm1).trans m2; have n3 := (hc _ _ zm1).trans m3; have n4 := (hc _ _ zp1).trans c4; have n5 := (hc _ _ hgr).trans d0; have n6 := (hc _ _ hgr).trans d1; have n7 := (hc _ _ hgr).trans d2; have n8 := (hc _ _ hgr).trans d3; clear hc))
                    go_wp2
                    go_ret
                    exact ⟨rfl, B2⟩
                · obtain rfl : k = m := by omega
                  exact absurd (by rw [← List.take_of_length_le (l := ps) (i := k) (by rw [HM.out]; exact Nat.le_refl _)]; exact HA.out) HALL.out
          · rw [chkS, if_neg (fun h => h hf), if_neg (fun h => h h4), if_neg (fun h => h h12), if_neg (fun h => h h6), if_pos (by rw [hm]; exact h8)]
            have T1 : ((m : Int) == (cntC n : Int)) = false := by simp; omega
            go_enter Tryd.func16, Tryd.ntmps16
            go_wp2_with (go_at_call 27; first | (refine (rknown_t _ (by first | assumption | exact hf) _).mono ?_; rintro e wq ⟨rfl, rfl⟩) | (refine (rknown_f _ (by first | assumption | exact hf) _).mono ?_; rintro e wq ⟨rfl, rfl⟩))
            have QA := hid (show ∀ k, Calls Tryd.prog 29 #[.int .i64 n] ((w.alloc (.cells #[.int .i64 f, .int .i64 t, .int .i64 i, .int .i64 n, .slice a m cap] 31)).drewN k) fun e w' => e = .returned (.int .i64 (cntC n : Int)) ∧ w' = (w.alloc (.cells #[.int .i64 f, .int .i64 t, .int .i64 i, .int .i64 n, .slice a m cap] 31)).drewN k from fun k => (rcount_any n _).mono fun _ _ h => ⟨h.1, h.2.symm⟩)
            go_quiet ((go_at_call 29; exact Calls.quiet_of_same (QA.out _)))
            go_wp2
            go_ret
            exact ⟨rfl, Below.drewN' ((Below.refl _ w).alloc (Nat.le_refl _) _) nq⟩
        · rw [chkS, if_neg (fun h => h hf), if_neg (fun h => h h4), if_neg (fun h => h h12), if_pos h6]
          by_cases hl : 0 ≤ n
          · have hh : ¬ (n ≤ 65535) := fun h => h6 ⟨hl, h⟩
            go_enter Tryd.func16, Tryd.ntmps16
            go_wp2_with (go_at_call 27; first | (refine (rknown_t _ (by first | assumption | exact hf) _).mono ?_; rintro e wq ⟨rfl, rfl⟩) | (refine (rknown_f _ (by first | assumption | exact hf) _).mono ?_; rintro e wq ⟨rfl, rfl⟩))
            go_ret
            exact ⟨rfl, by go_grown⟩
          · go_enter Tryd.func16, Tryd.ntmps16
            go_wp2_with (go_at_call 27; first | (refine (rknown_t _ (by first | assumption | exact hf) _).mono ?_; rintro e wq ⟨rfl, rfl⟩) | (refine (rknown_f _ (by first | assumption | exact hf) _).mono ?_; rintro e wq ⟨rfl, rfl⟩))
            go_ret
            exact ⟨rfl, by go_grown⟩
      · rw [chkS, if_neg (fun h => h hf), if_neg (fun h => h h4), if_pos h12]
        by_cases hl : 1 ≤ i
        · have hh : ¬ (i ≤ 255) := fun h => h12 ⟨hl, h⟩
          go_enter Tryd.func16, Tryd.ntmps16
          go_wp2_with (go_at_call 27; first | (refine (rknown_t _ (by first | assumption | exact hf) _).mono ?_; rintro e wq ⟨rfl, rfl⟩) | (refine (rknown_f _ (by first | assumption | exact hf) _).mono ?_; rintro e wq ⟨rfl, rfl⟩))
          go_ret
          exact ⟨rfl, by go_grown⟩
        · go_enter Tryd.func16, Tryd.ntmps16
          go_wp2_with (go_at_call 27; first | (refine (rknown_t _ (by first | assumption | exact hf) _).mono ?_; rintro e wq ⟨rfl, rfl⟩) | (refine (rknown_f _ (by first | assumption | exact hf) _).mono ?_; rintro e wq ⟨rfl, rfl⟩))
          go_ret
          exact ⟨rfl, by go_grown⟩
    · rw [chkS, if_neg (fun h => h hf), if_pos h4]
      by_cases hl : 1 ≤ t
      · have hh : ¬ (t ≤ 255) := fun h => h4 ⟨hl, h⟩
        go_enter Tryd.func16, Tryd.ntmps16
        go_wp2_with (go_at_call 27; first | (refine (rknown_t _ (by first | assumption | exact hf) _).mono ?_; rintro e wq ⟨rfl, rfl⟩) | (refine (rknown_f _ (by first | assumption | exact hf) _).mono ?_; rintro e wq ⟨rfl, rfl⟩))
        go_ret
        exact ⟨rfl, by go_grown⟩
      · go_enter Tryd.func16, Tryd.ntmps16
        go_wp2_with (go_at_call 27; first | (refine (rknown_t _ (by first | assumption | exact hf) _).mono ?_; rintro e wq ⟨rfl, rfl⟩) | (refine (rknown_f _ (by first | assumption | exact hf) _).mono ?_; rintro e wq ⟨rfl, rfl⟩))
        go_ret
        exact ⟨rfl, by go_grown⟩
  · rw [chkS, if_pos hf]
    go_enter Tryd.func16, Tryd.ntmps16
    go_wp2_with (go_at_call 27; first | (refine (rknown_t _ (by first | assumption | exact hf) _).mono ?_; rintro e wq ⟨rfl, rfl⟩) | (refine (rknown_f _ (by first | assumption | exact hf) _).mono ?_; rintro e wq ⟨rfl, rfl⟩))
    go_ret
    exact ⟨rfl, by go_grown⟩
end Go.Proofs.YticpjaooegpipaaDoor
