/-
  TapeOwnsItsEvents: the walk, with its two loops of stores.
-/
import Derived.Test.YtbkpiegkiokdlaaTapeConcat
import Derived.LoopN
namespace Go.Proofs.Ytbkpiegkiokdlaa
open Go.RowKit

/-- W is A with some cells of the row a turned, the integers at o of the elements from k on as they were made. -/
structure Incs (A W : World) (a : Option Addr) (n k o : Nat) : Prop where
  only : Only (fun b => ∃ off, a = some ⟨b, off, none⟩) A W
  ints : ∀ j, k ≤ j → j < n → ∃ g off x, a = some ⟨g, off, none⟩ ∧ W.cell? ⟨g, off + j * 3 + o, none⟩ = some (.int .i64 x) ∧ W.frozen? ⟨g, off + j * 3 + o, none⟩ = false
theorem Incs.start {A : World} {base : Nat} {a : Option Addr} {n cap : Nat} {l : List Ev} {o : Nat} (h : A.ownsRow base 41 3 (.slice a n cap) n (evs l)) (hl : l.length = n) (ho : o = 1 ∨ o = 2) : Incs A A a n 0 o := by
  refine ⟨Only.refl _ _, fun j _ hj => ?_⟩
  have h0 := h
  obtain ⟨_, ⟨h1, hn⟩ | ⟨g, c, cur, h1, _⟩⟩ := h
  · omega
  · cases h1
    obtain ⟨e, he⟩ : ∃ e, l[j]? = some e := ⟨l[j]'(by omega), List.getElem?_eq_getElem _⟩
    obtain ⟨_, a1, a2⟩ := evs_get l j e he
    rcases ho with rfl | rfl
    · exact ⟨g, 0, e.a, rfl, by rw [Nat.zero_add, h0.cellAt _ (by omega), a1], h0.frozenAt _⟩
    · exact ⟨g, 0, e.b, rfl, by rw [Nat.zero_add, h0.cellAt _ (by omega), a2], h0.frozenAt _⟩
theorem Incs.step {A W : World} {g off n k o : Nat} (h : Incs A W (some ⟨g, off, none⟩) n k o) (v : Value) : Incs A (W.setCell ⟨g, off + k * 3 + o, none⟩ v) (some ⟨g, off, none⟩) n (k + 1) o := by
  refine ⟨h.only.setCell (.inl ⟨off, rfl⟩) v, fun j hj hn => ?_⟩
  obtain ⟨g', off', x, e, h1, h2⟩ := h.ints j (by omega) hn
  obtain ⟨rfl, rfl⟩ : g = g' ∧ off = off' := by simpa using e
  refine ⟨g, off, x, rfl, ?_, by rw [World.frozen?_setCell]; exact h2⟩
  rw [World.cell?_setCell_other _ _ _ _ (by intro e; injection e with e1 e2; omega)]
  exact h1
/-- The row's block lies from its base on and below the world's end. -/
theorem owns_block {A : World} {base size : Nat} {t : TypeId} {a : Option Addr} {n m cap : Nat} {xs : List Value} (h : A.ownsRow base t size (.slice a n cap) m xs) : ∀ k, (∃ off, a = some ⟨k, off, none⟩) → base ≤ k ∧ k < A.heap.size := by
  rintro k ⟨off, rfl⟩
  exact h.lt k rfl
/-- Events that a row holds stay where other blocks turn. -/
theorem owns_stay {A W : World} {base : Nat} {v : Value} {l : List Ev} {F : Nat → Prop} (h : A.ownsRow base 41 3 v l.length (evs l)) (g : Only F A W) (hF : ∀ k, base ≤ k → ¬ F k) : W.ownsRow base 41 3 v l.length (evs l) := by
  obtain ⟨h0, h1 | ⟨r, cap, cur, e, hb, hr, h2⟩⟩ := h
  · exact ⟨h0, .inl h1⟩
  · exact ⟨h0, .inr ⟨r, cap, cur, e, hb, g.block r _ hr (.inl (hF r hb)), h2⟩⟩

set_option maxRecDepth 100000 in
set_option maxHeartbeats 4000000 in
theorem owns_law (v : Value) (kind : Int) (l : List Ev) (w : World) (h : EvSl w v l) :
    Calls Try.prog 8 #[v, .int .i64 kind] w (Ret (.bool true) w) := by
  have H := hid h
  obtain ⟨a, cap, rfl, _, _⟩ := h
  go_enter Try.func8, Try.ntmps8
  go_wp2_with fail
  refine (long_one w.heap.size 1 a l.length cap _ ((Blk.new rfl : Blk (w.alloc (.cells #[.slice a l.length cap] 22)) w.heap.size 22 [.slice a l.length cap]).cell (i := 0) rfl)).mono ?_
  rintro e wq ⟨rfl, rfl⟩
  have hG : Grow 0 w (w.alloc (.cells #[.slice a l.length cap] 22)) := ((Grow.refl 0 w).alloc _)
  have B1 := hid (show Below w.heap.size w (w.alloc (.cells #[.slice a l.length cap] 22)) from ((Below.refl _ w).alloc (Nat.le_refl _) _))
  have s1 := B1.out.size
  clear hG
  generalize (w.alloc (.cells #[.slice a l.length cap] 22)) = w1 at *
  by_cases hlong : 3000 < l.length
  · rw [decide_eq_true hlong]
    go_wp2_with fail
    refine (alive02_any _).mono ?_
    rintro e w2 ⟨rfl, b⟩
    have B2 := hid (B1.out.trans (b.mono s1))
    have s2 := B2.out.size
    clear b
    go_wp2
    go_ret
    exact ⟨rfl, B2.out⟩
  · rw [decide_eq_false hlong]
    have hl : l.length < 1000000000 := by omega
    obtain ⟨n, hn⟩ : ∃ n, l.length = n := ⟨_, rfl⟩
    have HN := hid hn
    clear hn
    go_wp2_with fail
    refine (clone_any _ l _ (H.out.below B1.out) hl).mono ?_
    rintro e w2 ⟨vm, rfl, h9, b⟩
    obtain ⟨am, cm, rfl⟩ := owns_slice h9
    have HM := hid (owns_evsl h9)
    have RM := hid (show w2.ownsRow w1.heap.size 41 3 (.slice am n cm) n (evs l) by have h := h9; rw [HN.out] at h; exact h)
    have bm := hid (owns_block RM.out)
    have B2 := hid (B1.out.trans (b.mono s1))
    have s2 := B2.out.size
    clear b h9
    go_wp2_with fail
    refine (new_any _ l _ HM.out hl).mono ?_
    rintro e w3 ⟨pt, ft, rfl, h9, b, z9⟩
    have T3 := hid h9
    have Zt := hid z9
    have L3 := hid h9.lt
    have b23 := hid b
    have s23 := b.size
    have B3 := hid (B2.out.trans (b.mono s2))
    have s3 := B3.out.size
    clear b h9 z9
    go_wp2_with fail
    refine (events_at pt ft l _ T3.out hl).mono ?_
    rintro e w4 ⟨va, rfl, h9, b⟩
    obtain ⟨aa, ca, rfl⟩ := owns_slice h9
    have RA := hid (show w4.ownsRow w3.heap.size 41 3 (.slice aa n ca) n (evs l) by have h := h9; rw [HN.out] at h; exact h)
    have ba := hid (owns_block RA.out)
    have b34 := hid b
    have T4 := hid (T3.out.call b)
    have s34 := b.size
    have B4 := hid (B3.out.trans (b.mono s3))
    have s4 := B4.out.size
    clear b h9
    go_wp2_with fail
    refine (since_at pt ft l 0 _ T4.out hl).mono ?_
    rintro e w5 ⟨vb, rfl, h9, b⟩
    have RB := hid (show w5.ownsRow w4.heap.size 41 3 vb l.length (evs l) from h9)
    have b45 := hid b
    have T5 := hid (T4.out.call b)
    have s45 := b.size
    have B5 := hid (B4.out.trans (b.mono s4))
    have s5 := B5.out.size
    clear b h9
    have RA5 := hid (show w5.ownsRow w3.heap.size 41 3 (.slice aa n ca) n (evs l) by have h := RA.out; rw [← HN.out] at h ⊢; exact owns_stay h (Below.only b45.out (fun _ => False)) (fun _ _ h => h))
    rw [HN.out]
    
    have HL9 := hid (show EvSl w (.slice a n cap) l by have h := H.out; rw [HN.out] at h; exact h)
    have hn9 : n < 3001 := by have h := HN.out; omega
    skip
    have RM5 := hid (show w5.ownsRow w1.heap.size 41 3 (.slice am n cm) n (evs l) by have h := RM.out; rw [← HN.out] at h ⊢; exact owns_stay h (Below.only (((b23.out).trans ((b34.out).mono s23)).trans ((b45.out).mono (Nat.le_trans s23 s34))) (fun _ => False)) (fun _ _ h => h))
    go_wp2
    go_loopw [25] (fun i wr => ∃ k : Nat, k ≤ n ∧ i = .int .i64 (k : Int) ∧ Incs w5 wr am n k 1) (fun i _ => n - (intOf i).toNat)
    case atStart => exact ⟨0, Nat.zero_le _, rfl, Incs.start RM5.out HN.out (.inl rfl)⟩
    case round =>
      obtain ⟨k, hk, rfl, hI⟩ := hrel
      have HI := hid hI
      clear hI
      by_cases hlt : k < n
      · obtain ⟨g, off, x, hga, d1, f1⟩ := HI.out.ints k (Nat.le_refl _) hlt
        rw [hga]
        have HI2 := hid (show Incs w5 wr (some ⟨g, off, none⟩) n k 1 by rw [← hga]; exact HI.out)
        clear hga
        go_wp2
        go_roundw
        case rel => exact ⟨k + 1, by omega, by go_num, HI2.out.step _⟩
        case measure => simp [intOf]; omega
      · obtain rfl : k = n := by omega
        have O6 := hid HI.out.only
        have s56 := O6.out.size
        have T6 := hid (T5.out.only O6.out (fun b hb h => by have h1 := bm.out b h; have h2 := Zt.out b hb; omega))
        have B6 := hid (B5.out.trans (O6.out.below (n := w.heap.size) (fun b h => by have h1 := bm.out b h; omega) s5))
        have s6 := B6.out.size
        have RB6 := hid (owns_stay RB.out O6.out (fun b hb h => by have h1 := bm.out b h; omega))
        have RA6 := hid (show wr.ownsRow w3.heap.size 41 3 (.slice aa k ca) k (evs l) by have h := RA5.out; rw [← HN.out] at h ⊢; exact owns_stay h O6.out (fun b hb h => by have h1 := bm.out b h; omega))
        generalize wr = w6 at *
        clear HI
        go_wp2
        go_loopw [39] (fun i wr => ∃ q : Nat, q ≤ k ∧ i = .int .i64 (q : Int) ∧ Incs w6 wr aa k q 2) (fun i _ => k - (intOf i).toNat)
        case atStart => exact ⟨0, Nat.zero_le _, rfl, Incs.start RA6.out HN.out (.inr rfl)⟩
        case round =>
          obtain ⟨q, hq, rfl, hI⟩ := hrel
          have HI := hid hI
          clear hI
          by_cases hlt : q < k
          · obtain ⟨g, off, x, hga, d1, f1⟩ := HI.out.ints q (Nat.le_refl _) hlt
            rw [hga]
            have HI2 := hid (show Incs w6 wr (some ⟨g, off, none⟩) k q 2 by rw [← hga]; exact HI.out)
            clear hga
            go_wp2
            go_roundw
            case rel => exact ⟨q + 1, by omega, by go_num, HI2.out.step _⟩
            case measure => simp [intOf]; omega
          · obtain rfl : q = k := by omega
            have O7 := hid HI.out.only
            have s67 := O7.out.size
            have T7 := hid (T6.out.only O7.out (fun b hb h => by have h1 := ba.out b h; have h2 := L3.out b hb; omega))
            have B7 := hid (B6.out.trans (O7.out.below (n := w.heap.size) (fun b h => by have h1 := ba.out b h; omega) s6))
            have s7 := B7.out.size
            have RB7 := hid (owns_stay RB6.out O7.out (fun b hb h => by have h1 := ba.out b h; omega))
            clear HI
            go_wp2_with fail
            refine (note_at pt ft l kind 0 0 _ T7.out hl).mono ?_
            rintro e w8 ⟨y, f8, rfl, h9, o9, z9⟩
            have T8 := hid h9
            have B8 := hid (B7.out.trans (o9.below (n := w.heap.size) (fun b hb => by have h2 := Zt.out b hb; omega) s7))
            have s8 := B8.out.size
            have VB := hid (owns_evsl (owns_stay RB7.out o9 (fun b hb h => by have h2 := L3.out b h; omega)))
            clear h9 o9 z9
            go_wp2_with fail
            refine (alive02_any _).mono ?_
            rintro e w9 ⟨rfl, b⟩
            have t_9 := hid (T8.out.call b)
            have VB_9 := hid (VB.out.below b)
            have B9 := hid (B8.out.trans (b.mono s8))
            have s9 := B9.out.size
            clear b
            go_wp2_with fail
            refine (rsame_any vb (.slice a q cap) l l _ VB_9.out (HL9.out.below B9.out) hl hl).mono ?_
            rintro e wq ⟨rfl, q9, rfl⟩
            have hq : decide (l = l) = true := by simp
            rw [hq]
            clear hq
            have hG : Grow 0 w9 (w9.drewN q9) := ((Grow.refl 0 w9).drewN q9)
            have t_10 := hid (t_9.out.grow hG)
            have VB_10 := hid (VB_9.out.grow hG)
            have B10 := hid (show Below w.heap.size w (w9.drewN q9) from (Below.drewN' B9.out q9))
            have s10 := B10.out.size
            clear hG
            generalize (w9.drewN q9) = w10 at *
            go_wp2_with fail
            refine (events_at pt f8 (l ++ [⟨kind, 0, 0⟩]) _ t_10.out (by simp; omega)).mono ?_
            rintro e w11 ⟨vVc, rfl, h9, b⟩
            have t_11 := hid (t_10.out.call b)
            have VB_11 := hid (VB_10.out.below b)
            have B11 := hid (B10.out.trans (b.mono s10))
            have s11 := B11.out.size
            have Vc := hid (owns_evsl h9)
            clear b h9
            go_wp2_with fail
            refine (concat_two (w11.heap.size + 1) 2 (.slice a q cap) (.slice (some ⟨w11.heap.size, 0, none⟩) 1 1) l [⟨kind, 0, 0⟩] _ ((Blk.new (by simp) : Blk ((w11.alloc (.cells #[.int .i64 kind, .int .i64 0, .int .i64 0] 41)).alloc (.cells #[(.slice a q cap), (.slice (some ⟨w11.heap.size, 0, none⟩) 1 1)] 22)) (w11.heap.size + 1) 22 [(.slice a q cap), (.slice (some ⟨w11.heap.size, 0, none⟩) 1 1)]).cell (i := 0) rfl) ((Blk.new (by simp) : Blk ((w11.alloc (.cells #[.int .i64 kind, .int .i64 0, .int .i64 0] 41)).alloc (.cells #[(.slice a q cap), (.slice (some ⟨w11.heap.size, 0, none⟩) 1 1)] 22)) (w11.heap.size + 1) 22 [(.slice a q cap), (.slice (some ⟨w11.heap.size, 0, none⟩) 1 1)]).cell (i := 1) rfl) (HL9.out.below ((B11.out.alloc s11 _).alloc (by simp; try omega) _)) (evsl_one (e := ⟨kind, 0, 0⟩) (Blk.alloc (Blk.new rfl : Blk (w11.alloc (.cells #[.int .i64 kind, .int .i64 0, .int .i64 0] 41)) w11.heap.size 41 [.int .i64 kind, .int .i64 0, .int .i64 0]) _) (Nat.le_refl 1)) (by simp; omega)).mono ?_
            rintro e w12 ⟨vVd, rfl, h9, b⟩
            have t_12 := hid (((t_11.out.alloc (.cells #[.int .i64 kind, .int .i64 0, .int .i64 0] 41)).alloc (.cells #[(.slice a q cap), (.slice (some ⟨w11.heap.size, 0, none⟩) 1 1)] 22)).call b)
            have VB_12 := hid ((VB_11.out.below (((Below.refl _ _).alloc (Nat.le_refl _) _).alloc (by simp) _)).below b)
            have Vc_12 := hid ((Vc.out.below (((Below.refl _ _).alloc (Nat.le_refl _) _).alloc (by simp) _)).below b)
            have B12 := hid (((B11.out.alloc s11 _).alloc (by simp; try omega) _).trans (b.mono (by simp; try omega)))
            have s12 := B12.out.size
            have Vd := hid (owns_evsl h9)
            clear b h9
            go_wp2_with fail
            refine (rsame_any vVc vVd (l ++ [⟨kind, 0, 0⟩]) (l ++ [⟨kind, 0, 0⟩]) _ Vc_12.out Vd.out (by simp; omega) (by simp; omega)).mono ?_
            rintro e wq ⟨rfl, q12, rfl⟩
            have hq : decide ((l ++ [⟨kind, 0, 0⟩]) = (l ++ [⟨kind, 0, 0⟩])) = true := by simp
            rw [hq]
            clear hq
            have hG : Grow 0 w12 (w12.drewN q12) := ((Grow.refl 0 w12).drewN q12)
            have t_13 := hid (t_12.out.grow hG)
            have VB_13 := hid (VB_12.out.grow hG)
            have Vc_13 := hid (Vc_12.out.grow hG)
            have Vd_13 := hid (Vd.out.grow hG)
            have B13 := hid (show Below w.heap.size w (w12.drewN q12) from (Below.drewN' B12.out q12))
            have s13 := B13.out.size
            clear hG
            generalize (w12.drewN q12) = w13 at *
            go_wp2_with fail
            refine (len_at pt f8 (l ++ [⟨kind, 0, 0⟩]) _ t_13.out).mono ?_
            rintro e wq ⟨rfl, rfl⟩
            have hq : ((l ++ [(⟨kind, 0, 0⟩ : Ev)]).length : Int) = (q : Int) + 1 := by rw [List.length_append, HN.out]; rfl
            rw [hq]
            go_wp2
            go_ret
            exact ⟨rfl, B13.out⟩
end Go.Proofs.Ytbkpiegkiokdlaa
