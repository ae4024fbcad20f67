/-
  The statements of layer 2: the examples of the chapter hold; the lists that are too long.
-/
import Derived.Test.YtbkpiegkiokdlaaTapeFirst
import Derived.Handy
namespace Go.Proofs.Ytbkpiegkiokdlaa
open Go.RowKit

theorem evsl_nil (w : World) : EvSl w (.slice none 0 0) [] := ⟨none, 0, rfl, Nat.le_refl _, .inl rfl⟩
theorem evsl_one {w : World} {g c : Nat} {e : Ev} (h : Blk w g 41 e.cells) (hc : 1 ≤ c) : EvSl w (.slice (some ⟨g, 0, none⟩) 1 c) [e] :=
  ⟨_, c, rfl, hc, .inr ⟨g, 0, rfl, fun i x hi => by
    cases i with
    | zero => simp at hi; subst hi; exact ⟨h.cell (i := 0) rfl, h.cell (i := 1) rfl, h.cell (i := 2) rfl⟩
    | succ i => simp at hi⟩⟩
abbrev E1 : Ev := ⟨1, 2, 3⟩
abbrev E2 : Ev := ⟨4, 5, 6⟩
set_option maxRecDepth 100000 in
set_option maxHeartbeats 4000000 in
theorem alive02_any (w : World) : Calls Try.prog 10 #[] w (Ret (.bool true) w) := by
  go_enter Try.func10, Try.ntmps10
  go_wp2_with fail
  refine (new_any (.slice none 0 0) [] _ (evsl_nil _) (by decide)).mono ?_
  rintro e w1 ⟨pt, f1, rfl, h1, b1, z1⟩
  have T1 := hid h1
  have B1 := hid b1
  have Z1 := hid z1
  have s1 := b1.size
  clear h1 b1 z1
  go_wp2_with fail
  refine (note_at pt f1 [] 1 2 3 _ T1.out (by decide)).mono ?_
  rintro e w2 ⟨x2, f2, rfl, h2, o2, z2⟩
  have T2 := hid h2
  have B2 := hid (B1.out.trans (o2.below (n := w.heap.size) Z1.out s1))
  have Z2 : Hid (∀ k ∈ f2, w.heap.size ≤ k) := hid (fun k hk => (z2 k hk).elim (Z1.out k) (fun h => Nat.le_trans s1 h))
  have s2 := B2.out.size
  clear h2 o2 z2
  go_wp2_with fail
  refine (note_at pt f2 ([] ++ [E1]) 4 5 6 _ T2.out (by decide)).mono ?_
  rintro e w3 ⟨x3, f3, rfl, h3, o3, z3⟩
  have T3 := hid h3
  have B3 := hid (B2.out.trans (o3.below (n := w.heap.size) Z2.out s2))
  have Z3 : Hid (∀ k ∈ f3, w.heap.size ≤ k) := hid (fun k hk => (z3 k hk).elim (Z2.out k) (fun h => Nat.le_trans s2 h))
  have s3 := B3.out.size
  clear h3 o3 z3
  go_wp2_with fail
  refine (new_any _ [E1] _ (evsl_one (Blk.new rfl) (Nat.le_refl _)) (by decide)).mono ?_
  rintro e w4 ⟨pu, u4, rfl, h4, b4, z4⟩
  have T4 := hid ((T3.out.alloc (.cells #[.int .i64 1, .int .i64 2, .int .i64 3] 41)).call b4)
  have B4 := hid ((B3.out.alloc s3 (.cells #[.int .i64 1, .int .i64 2, .int .i64 3] 41)).trans (b4.mono (by simp; omega)))
  have U4 := hid h4
  have D4 : Hid (∀ k ∈ f3, k ∉ u4) := hid (fun k hk hu => by have a1 := z4 k hu; have a2 := T3.out.lt k hk; simp at a1; omega)
  have Y4 : Hid (∀ k ∈ u4, w.heap.size ≤ k) := hid (fun k hk => by have := z4 k hk; simp at this; omega)
  have s4 := B4.out.size
  clear h4 b4 z4
  go_wp2_with fail
  refine (len_at pt f3 _ _ T4.out).mono ?_
  rintro e w4' ⟨rfl, rfl⟩
  go_wp2_with fail
  refine (count_at pt f3 _ 4 _ T4.out (by decide)).mono ?_
  rintro e w5 ⟨rfl, b5⟩
  have T5 := hid (T4.out.call b5)
  have U5 := hid (U4.out.call b5)
  have B5 := hid (B4.out.trans (b5.mono s4))
  have s5 := B5.out.size
  clear b5
  go_wp2_with fail
  refine (since_at pt f3 _ 1 _ T5.out (by decide)).mono ?_
  rintro e w6 ⟨v6, rfl, h6, b6⟩
  have T6 := hid (T5.out.call b6)
  have U6 := hid (U5.out.call b6)
  have B6 := hid (B5.out.trans (b6.mono s5))
  have V6 := hid (owns_evsl h6)
  have s6 := B6.out.size
  clear b6 h6
  go_wp2_with fail
  refine (rsame_any v6 _ _ [E2] _ (V6.out.below ((Below.refl _ _).alloc (Nat.le_refl _) _)) (evsl_one (Blk.new rfl) (Nat.le_refl _)) (by decide) (by decide)).mono ?_
  rintro e w7 ⟨rfl, q, rfl⟩
  have hG : Grow 0 w6 ((w6.alloc (.cells (Ev.cells E2).toArray 41)).drewN q) := ((Grow.refl 0 w6).alloc _).drewN q
  have T7 := hid (T6.out.grow hG)
  have U7 := hid (U6.out.grow hG)
  have B7 := hid (Below.drewN' (B6.out.alloc s6 (.cells (Ev.cells E2).toArray 41)) q)
  generalize (w6.alloc (.cells (Ev.cells E2).toArray 41)).drewN q = w7 at *
  have s7 := B7.out.size
  clear hG
  go_wp2_with fail
  refine (first_ta (some pt) (some pu) f3 u4 ([] ++ [E1] ++ [E2]) [E1] w7 (show TA w7 (some pt) f3 ([] ++ [E1] ++ [E2]) from T7.out) (show TA w7 (some pu) u4 [E1] from U7.out) (by decide) (by decide) T7.out.lt U7.out.lt).mono ?_
  rintro e w8 ⟨rfl, b8⟩
  have T8 := hid (T7.out.call b8)
  have U8 := hid (U7.out.call b8)
  have B8 := hid (B7.out.trans (b8.mono s7))
  have s8 := B8.out.size
  clear b8
  have hf : fst ([] ++ [E1] ++ [E2]) [E1] = 1 := by decide
  rw [hf]
  clear hf
  go_wp2_with fail
  refine (play_at pu u4 [E1] pt f3 ([] ++ [E1] ++ [E2]) _ U8.out (.inr ⟨T8.out, fun k hk hu => D4.out k hu hk⟩) (by decide)).mono ?_
  rintro e w9 ⟨rfl, u9, h9, o9, z9⟩
  have U9 := hid h9
  have B9 := hid (B8.out.trans (o9.below (n := w.heap.size) Y4.out s8))
  clear h9 o9 z9
  go_wp2_with fail
  refine (len_at pu u9 _ _ U9.out).mono ?_
  rintro e w9' ⟨rfl, rfl⟩
  go_wp2
  go_ret
  exact ⟨rfl, B9.out⟩
theorem long_one (g c : Nat) (a : Option Addr) (n cap : Nat) (w : World) (hc : w.cell? ⟨g, 0, none⟩ = some (.slice a n cap)) :
    Calls Try.prog 9 #[.slice (some ⟨g, 0, none⟩) 1 c] w fun e w' => e = .returned (.bool (decide (3000 < n))) ∧ w = w' := by
  by_cases h : 3000 < n
  · have d1 : decide (3000 < (n : Int)) = true := by simp; omega
    go_enter Try.func9, Try.ntmps9
    go_wp2
    refine wp_loop_rounds 2 ?_
    rw [rounds_succ]
    go_wp2
    go_ret
    exact ⟨by rw [decide_eq_true h]; rfl, rfl⟩
  · have d1 : decide (3000 < (n : Int)) = false := by simp; omega
    go_enter Try.func9, Try.ntmps9
    go_wp2
    refine wp_loop_rounds 2 ?_
    rw [rounds_succ]
    go_wp2
    rw [rounds_succ]
    go_wp2
    go_ret
    exact ⟨by rw [decide_eq_false h]; rfl, rfl⟩
theorem long_two (g c : Nat) (a b : Option Addr) (n m cap cbp : Nat) (w : World) (hc : w.cell? ⟨g, 0, none⟩ = some (.slice a n cap)) (hc2 : w.cell? ⟨g, 1, none⟩ = some (.slice b m cbp)) :
    Calls Try.prog 9 #[.slice (some ⟨g, 0, none⟩) 2 c] w fun e w' => e = .returned (.bool (decide (3000 < n ∨ 3000 < m))) ∧ w = w' := by
  by_cases h : 3000 < n
  · have d1 : decide (3000 < (n : Int)) = true := by simp; omega
    go_enter Try.func9, Try.ntmps9
    go_wp2
    refine wp_loop_rounds 3 ?_
    rw [rounds_succ]
    go_wp2
    go_ret
    exact ⟨by rw [decide_eq_true (.inl h)]; rfl, rfl⟩
  · have d1 : decide (3000 < (n : Int)) = false := by simp; omega
    by_cases h2 : 3000 < m
    · have d2 : decide (3000 < (m : Int)) = true := by simp; omega
      go_enter Try.func9, Try.ntmps9
      go_wp2
      refine wp_loop_rounds 3 ?_
      rw [rounds_succ]
      go_wp2
      rw [rounds_succ]
      go_wp2
      go_ret
      exact ⟨by rw [decide_eq_true (.inr h2)]; rfl, rfl⟩
    · have d2 : decide (3000 < (m : Int)) = false := by simp; omega
      go_enter Try.func9, Try.ntmps9
      go_wp2
      refine wp_loop_rounds 3 ?_
      rw [rounds_succ]
      go_wp2
      rw [rounds_succ]
      go_wp2
      rw [rounds_succ]
      go_wp2
      go_ret
      exact ⟨by rw [decide_eq_false (fun e => e.elim h h2)]; rfl, rfl⟩
end Go.Proofs.Ytbkpiegkiokdlaa
