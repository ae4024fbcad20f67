/-
  TapeSelects, TapeCompares, TapeNone: the walks.
-/
import Derived.Test.YtbkpiegkiokdlaaTapeNil
namespace Go.Proofs.Ytbkpiegkiokdlaa
open Go.RowKit

set_option maxRecDepth 100000 in
set_option maxHeartbeats 4000000 in
theorem selects_law (v : Value) (l : List Ev) (kind n : Int) (w : World) (h : EvSl w v l) :
    Calls Try.prog 3 #[v, .int .i64 kind, .int .i64 n] w (Ret (.bool true) w) := by
  have H := hid h
  obtain ⟨a, cap, rfl, _, _⟩ := h
  go_enter Try.func3, Try.ntmps3
  go_wp2_with fail
  refine (long_one w.heap.size 1 a l.length cap _ ((Blk.new rfl : Blk (w.alloc (.cells #[.slice a l.length cap] 22)) w.heap.size 22 [.slice a l.length cap]).cell (i := 0) rfl)).mono ?_
  rintro e wq ⟨rfl, rfl⟩
  have hG : Grow 0 w (w.alloc (.cells #[.slice a l.length cap] 22)) := ((Grow.refl 0 w).alloc _)
  have B1 := hid (show Below w.heap.size w (w.alloc (.cells #[.slice a l.length cap] 22)) from ((Below.refl _ w).alloc (Nat.le_refl _) _))
  have s1 := B1.out.size
  clear hG
  generalize (w.alloc (.cells #[.slice a l.length cap] 22)) = w1 at *
  by_cases hlong : 3000 < l.length
  · rw [decide_eq_true hlong]
    go_wp2_with fail
    refine (alive02_any _).mono ?_
    rintro e w2 ⟨rfl, b⟩
    have B2 := hid (B1.out.trans (b.mono s1))
    have s2 := B2.out.size
    clear b
    go_wp2
    go_ret
    exact ⟨rfl, B2.out⟩
  · rw [decide_eq_false hlong]
    have hl : l.length < 1000000000 := by omega
    have hd : (l.drop n.toNat).length < 1000000000 := Nat.lt_of_le_of_lt (by simp) hl
    go_wp2_with fail
    refine (new_any _ l _ (H.out.below B1.out) hl).mono ?_
    rintro e w2 ⟨pt, ft, rfl, h9, b, z9⟩
    have Nt_2 := hid h9
    have B2 := hid (B1.out.trans (b.mono s1))
    have s2 := B2.out.size
    have Zt : Hid (∀ k ∈ ft, w.heap.size ≤ k) := hid (fun k hk => by have a1 := z9 k hk; (try simp at a1); omega)
    clear b h9 z9
    go_wp2_with fail
    refine (alive02_any _).mono ?_
    rintro e w3 ⟨rfl, b⟩
    have t_3 := hid (Nt_2.out.call b)
    have B3 := hid (B2.out.trans (b.mono s2))
    have s3 := B3.out.size
    clear b
    go_wp2_with fail
    refine (count_at pt ft l kind _ t_3.out hl).mono ?_
    rintro e w4 ⟨rfl, b⟩
    have t_4 := hid (t_3.out.call b)
    have B4 := hid (B3.out.trans (b.mono s3))
    have s4 := B4.out.size
    clear b
    go_wp2_with fail
    refine (rof_any _ l kind _ (H.out.below B4.out) hl).mono ?_
    rintro e w5 ⟨v5, rfl, h5, b⟩
    have t_5 := hid (t_4.out.call b)
    have B5 := hid (B4.out.trans (b.mono s4))
    have s5 := B5.out.size
    obtain ⟨a5, c5, rfl⟩ := owns_slice h5
    clear b h5
    go_wp2_with fail
    refine (since_at pt ft l n _ t_5.out hl).mono ?_
    rintro e w6 ⟨v6, rfl, h6, b⟩
    have t_6 := hid (t_5.out.call b)
    have B6 := hid (B5.out.trans (b.mono s5))
    have s6 := B6.out.size
    have V6 := hid (owns_evsl h6)
    clear b h6
    go_wp2_with fail
    refine (rafter_any _ l n _ (H.out.below B6.out) hl).mono ?_
    rintro e wq ⟨v7, rfl, h7, rfl⟩
    have V7 := hid h7
    clear h7
    go_wp2_with fail
    refine (rsame_any v6 v7 _ _ _ V6.out V7.out hd hd).mono ?_
    rintro e wq ⟨rfl, q, rfl⟩
    have hq : decide (l.drop n.toNat = l.drop n.toNat) = true := by simp
    rw [hq]
    have hG : Grow 0 w6 (w6.drewN q) := ((Grow.refl 0 w6).drewN q)
    have t_7 := hid (t_6.out.grow hG)
    have V6_7 := hid (V6.out.grow hG)
    have V7_7 := hid (V7.out.grow hG)
    have B7 := hid (show Below w.heap.size w (w6.drewN q) from (Below.drewN' B6.out q))
    have s7 := B7.out.size
    clear hG
    generalize (w6.drewN q) = w7 at *
    go_wp2
    go_ret
    exact ⟨rfl, B7.out⟩
set_option maxRecDepth 100000 in
set_option maxHeartbeats 4000000 in
theorem compares_law (v u : Value) (l m : List Ev) (w : World) (h : EvSl w v l) (h' : EvSl w u m) :
    Calls Try.prog 4 #[v, u] w (Ret (.bool true) w) := by
  have H := hid h
  have H' := hid h'
  obtain ⟨a, cap, rfl, _, _⟩ := h
  obtain ⟨a', cap', rfl, _, _⟩ := h'
  go_enter Try.func4, Try.ntmps4
  go_wp2_with fail
  refine (long_two w.heap.size 2 a a' l.length m.length cap cap' _ ((Blk.new rfl : Blk (w.alloc (.cells #[.slice a l.length cap, .slice a' m.length cap'] 22)) w.heap.size 22 [.slice a l.length cap, .slice a' m.length cap']).cell (i := 0) rfl) ((Blk.new rfl : Blk (w.alloc (.cells #[.slice a l.length cap, .slice a' m.length cap'] 22)) w.heap.size 22 [.slice a l.length cap, .slice a' m.length cap']).cell (i := 1) rfl)).mono ?_
  rintro e wq ⟨rfl, rfl⟩
  have hG : Grow 0 w (w.alloc (.cells #[.slice a l.length cap, .slice a' m.length cap'] 22)) := ((Grow.refl 0 w).alloc _)
  have B1 := hid (show Below w.heap.size w (w.alloc (.cells #[.slice a l.length cap, .slice a' m.length cap'] 22)) from ((Below.refl _ w).alloc (Nat.le_refl _) _))
  have s1 := B1.out.size
  clear hG
  generalize (w.alloc (.cells #[.slice a l.length cap, .slice a' m.length cap'] 22)) = w1 at *
  by_cases hlong : 3000 < l.length ∨ 3000 < m.length
  · rw [decide_eq_true hlong]
    go_wp2_with fail
    refine (alive02_any _).mono ?_
    rintro e w2 ⟨rfl, b⟩
    have B2 := hid (B1.out.trans (b.mono s1))
    have s2 := B2.out.size
    clear b
    go_wp2
    go_ret
    exact ⟨rfl, B2.out⟩
  · rw [decide_eq_false hlong]
    have hl : l.length < 1000000000 := by omega
    have hm : m.length < 1000000000 := by omega
    have hfn := fst_neg l m
    have hfc := fst_comm m l
    have HFN := hid hfn
    clear hfn
    go_wp2_with fail
    refine (new_any _ l _ (H.out.below B1.out) hl).mono ?_
    rintro e w2 ⟨pt, ft, rfl, h9, b, z9⟩
    have Nt_2 := hid h9
    have B2 := hid (B1.out.trans (b.mono s1))
    have s2 := B2.out.size
    have Zt : Hid (∀ k ∈ ft, w.heap.size ≤ k) := hid (fun k hk => by have a1 := z9 k hk; (try simp at a1); omega)
    clear b h9 z9
    go_wp2_with fail
    refine (new_any _ m _ (H'.out.below B2.out) hm).mono ?_
    rintro e w3 ⟨pu, fu, rfl, h9, b, z9⟩
    have Nu_3 := hid h9
    have Dtu : Hid (∀ k ∈ ft, k ∉ fu) := hid (fun k hk hu => by have a1 := z9 k hu; have a2 := (Nt_2.out).lt k hk; (try simp at a1); (try simp at a2); omega)
    have Dut : Hid (∀ k ∈ fu, k ∉ ft) := hid (fun k hu hk => Dtu.out k hk hu)
    have t_3 := hid (Nt_2.out.call b)
    have B3 := hid (B2.out.trans (b.mono s2))
    have s3 := B3.out.size
    have Zu : Hid (∀ k ∈ fu, w.heap.size ≤ k) := hid (fun k hk => by have a1 := z9 k hk; (try simp at a1); omega)
    clear b h9 z9
    go_wp2_with fail
    refine (rfirst_any _ _ l m _ (H.out.below B3.out) (H'.out.below B3.out) hl hm).mono ?_
    rintro e wq ⟨rfl, q, rfl⟩
    have hG : Grow 0 w3 (w3.drewN q) := ((Grow.refl 0 w3).drewN q)
    have t_4 := hid (t_3.out.grow hG)
    have u_4 := hid (Nu_3.out.grow hG)
    have B4 := hid (show Below w.heap.size w (w3.drewN q) from (Below.drewN' B3.out q))
    have s4 := B4.out.size
    clear hG
    generalize (w3.drewN q) = w4 at *
    go_wp2_with fail
    refine (alive02_any _).mono ?_
    rintro e w5 ⟨rfl, b⟩
    have t_5 := hid (t_4.out.call b)
    have u_5 := hid (u_4.out.call b)
    have B5 := hid (B4.out.trans (b.mono s4))
    have s5 := B5.out.size
    clear b
    go_wp2_with fail
    refine (first_ta (some pt) (some pu) ft fu l m w5 (show TA w5 (some pt) ft l from t_5.out) (show TA w5 (some pu) fu m from u_5.out) hl hm (t_5.out).lt (u_5.out).lt).mono ?_
    rintro e w6 ⟨rfl, b⟩
    have t_6 := hid (t_5.out.call b)
    have u_6 := hid (u_5.out.call b)
    have B6 := hid (B5.out.trans (b.mono s5))
    have s6 := B6.out.size
    clear b
    go_wp2_with fail
    refine (first_ta (some pu) (some pt) fu ft m l w6 (show TA w6 (some pu) fu m from u_6.out) (show TA w6 (some pt) ft l from t_6.out) hm hl (u_6.out).lt (t_6.out).lt).mono ?_
    rintro e w7 ⟨rfl, b⟩
    have t_7 := hid (t_6.out.call b)
    have u_7 := hid (u_6.out.call b)
    have B7 := hid (B6.out.trans (b.mono s6))
    have s7 := B7.out.size
    rw [hfc]
    clear b
    go_wp2_with fail
    refine (equal_ta (some pt) (some pu) ft fu l m w7 (show TA w7 (some pt) ft l from t_7.out) (show TA w7 (some pu) fu m from u_7.out) hl hm (t_7.out).lt (u_7.out).lt).mono ?_
    rintro e w8 ⟨rfl, b⟩
    have t_8 := hid (t_7.out.call b)
    have u_8 := hid (u_7.out.call b)
    have B8 := hid (B7.out.trans (b.mono s7))
    have s8 := B8.out.size
    have hfn := HFN.out
    clear b
    go_wp2_with fail
    refine (new_any _ l _ (H.out.below B8.out) hl).mono ?_
    rintro e w9 ⟨px, fx, rfl, h9, b, z9⟩
    have Nx_9 := hid h9
    have Dtx : Hid (∀ k ∈ ft, k ∉ fx) := hid (fun k hk hu => by have a1 := z9 k hu; have a2 := (t_8.out).lt k hk; (try simp at a1); (try simp at a2); omega)
    have Dxt : Hid (∀ k ∈ fx, k ∉ ft) := hid (fun k hu hk => Dtx.out k hk hu)
    have Dux : Hid (∀ k ∈ fu, k ∉ fx) := hid (fun k hk hu => by have a1 := z9 k hu; have a2 := (u_8.out).lt k hk; (try simp at a1); (try simp at a2); omega)
    have Dxu : Hid (∀ k ∈ fx, k ∉ fu) := hid (fun k hu hk => Dux.out k hk hu)
    have t_9 := hid (t_8.out.call b)
    have u_9 := hid (u_8.out.call b)
    have B9 := hid (B8.out.trans (b.mono s8))
    have s9 := B9.out.size
    have Zx : Hid (∀ k ∈ fx, w.heap.size ≤ k) := hid (fun k hk => by have a1 := z9 k hk; (try simp at a1); omega)
    clear b h9 z9
    go_wp2_with fail
    refine (equal_ta (some pt) (some px) ft fx l l w9 (show TA w9 (some pt) ft l from t_9.out) (show TA w9 (some px) fx l from Nx_9.out) hl hl (t_9.out).lt (Nx_9.out).lt).mono ?_
    rintro e w10 ⟨rfl, b⟩
    have t_10 := hid (t_9.out.call b)
    have u_10 := hid (u_9.out.call b)
    have x_10 := hid (Nx_9.out.call b)
    have B10 := hid (B9.out.trans (b.mono s9))
    have s10 := B10.out.size
    have hq : decide (l = l) = true := by simp
    rw [hq]
    clear b
    go_wp2
    go_ret
    exact ⟨rfl, B10.out⟩
set_option maxRecDepth 100000 in
set_option maxHeartbeats 4000000 in
theorem none_law (v : Value) (l : List Ev) (kind : Int) (w : World) (h : EvSl w v l) :
    Calls Try.prog 5 #[v, .int .i64 kind] w (Ret (.bool true) w) := by
  have H := hid h
  obtain ⟨a, cap, rfl, _, _⟩ := h
  go_enter Try.func5, Try.ntmps5
  go_wp2_with fail
  refine (long_one w.heap.size 1 a l.length cap _ ((Blk.new rfl : Blk (w.alloc (.cells #[.slice a l.length cap] 22)) w.heap.size 22 [.slice a l.length cap]).cell (i := 0) rfl)).mono ?_
  rintro e wq ⟨rfl, rfl⟩
  have hG : Grow 0 w (w.alloc (.cells #[.slice a l.length cap] 22)) := ((Grow.refl 0 w).alloc _)
  have B1 := hid (show Below w.heap.size w (w.alloc (.cells #[.slice a l.length cap] 22)) from ((Below.refl _ w).alloc (Nat.le_refl _) _))
  have s1 := B1.out.size
  clear hG
  generalize (w.alloc (.cells #[.slice a l.length cap] 22)) = w1 at *
  by_cases hlong : 3000 < l.length
  · rw [decide_eq_true hlong]
    go_wp2_with fail
    refine (alive02_any _).mono ?_
    rintro e w2 ⟨rfl, b⟩
    have B2 := hid (B1.out.trans (b.mono s1))
    have s2 := B2.out.size
    clear b
    go_wp2
    go_ret
    exact ⟨rfl, B2.out⟩
  · rw [decide_eq_false hlong]
    have hl : l.length < 1000000000 := by omega
    go_wp2_with fail
    refine (note_nil kind kind kind _).mono ?_
    rintro e wq ⟨⟨x1, rfl⟩, rfl⟩
    go_wp2_with fail
    refine (new_any _ l _ (H.out.below B1.out) hl).mono ?_
    rintro e w2 ⟨pt, ft, rfl, h9, b, z9⟩
    have Nt_2 := hid h9
    have B2 := hid (B1.out.trans (b.mono s1))
    have s2 := B2.out.size
    have Zt : Hid (∀ k ∈ ft, w.heap.size ≤ k) := hid (fun k hk => by have a1 := z9 k hk; (try simp at a1); omega)
    clear b h9 z9
    go_wp2_with fail
    refine (play_nil _ _).mono ?_
    rintro e w3 ⟨rfl, b⟩
    have t_3 := hid (Nt_2.out.call b)
    have B3 := hid (B2.out.trans (b.mono s2))
    have s3 := B3.out.size
    clear b
    go_wp2_with fail
    refine (play_none pt _).mono ?_
    rintro e w4 ⟨rfl, b⟩
    have t_4 := hid (t_3.out.call b)
    have B4 := hid (B3.out.trans (b.mono s3))
    have s4 := B4.out.size
    clear b
    go_wp2_with fail
    refine (len_nil _).mono ?_
    rintro e wq ⟨rfl, rfl⟩
    go_wp2_with fail
    refine (events_nil _).mono ?_
    rintro e w5 ⟨v5, rfl, h5, b⟩
    have t_5 := hid (t_4.out.call b)
    have B5 := hid (B4.out.trans (b.mono s4))
    have s5 := B5.out.size
    obtain ⟨a5, c5, rfl⟩ := owns_slice h5
    clear b h5
    go_wp2_with fail
    refine (count_nil kind _).mono ?_
    rintro e w6 ⟨rfl, b⟩
    have t_6 := hid (t_5.out.call b)
    have B6 := hid (B5.out.trans (b.mono s5))
    have s6 := B6.out.size
    clear b
    go_wp2_with fail
    refine (since_nil 0 _).mono ?_
    rintro e w7 ⟨v6, rfl, h6, b⟩
    have t_7 := hid (t_6.out.call b)
    have B7 := hid (B6.out.trans (b.mono s6))
    have s7 := B7.out.size
    obtain ⟨a6, c6, rfl⟩ := owns_slice h6
    clear b h6
    go_wp2_with fail
    refine (len_at pt ft l _ t_7.out).mono ?_
    rintro e wq ⟨rfl, rfl⟩
    by_cases h0 : l = []
    · have d0 : ((l.length : Int) == 0) = true := by simp [h0]
      have f1 : fst [] l = -1 := by rw [h0]; rfl
      have f2 : fst l [] = -1 := by rw [fst_comm]; exact f1
      have F1 := hid f1
      have F2 := hid f2
      clear f1 f2
      go_wp2_with fail
      refine (alive02_any _).mono ?_
      rintro e w8 ⟨rfl, b⟩
      have t_8 := hid (t_7.out.call b)
      have B8 := hid (B7.out.trans (b.mono s7))
      have s8 := B8.out.size
      clear b
      go_wp2_with fail
      refine (new_any (.slice none 0 0) [] _ (evsl_nil _) (by decide)).mono ?_
      rintro e w9 ⟨px, fx, rfl, h9, b, z9⟩
      have Nx_9 := hid h9
      have Dtx : Hid (∀ k ∈ ft, k ∉ fx) := hid (fun k hk hu => by have a1 := z9 k hu; have a2 := (t_8.out).lt k hk; (try simp at a1); (try simp at a2); omega)
      have Dxt : Hid (∀ k ∈ fx, k ∉ ft) := hid (fun k hu hk => Dtx.out k hk hu)
      have t_9 := hid (t_8.out.call b)
      have B9 := hid (B8.out.trans (b.mono s8))
      have s9 := B9.out.size
      have Zx : Hid (∀ k ∈ fx, w.heap.size ≤ k) := hid (fun k hk => by have a1 := z9 k hk; (try simp at a1); omega)
      clear b h9 z9
      go_wp2_with fail
      refine (equal_ta none (some px) [] fx [] [] w9 rfl (show TA w9 (some px) fx [] from Nx_9.out) (by decide) (by decide) (by simp) (Nx_9.out).lt).mono ?_
      rintro e w10 ⟨rfl, b⟩
      have t_10 := hid (t_9.out.call b)
      have x_10 := hid (Nx_9.out.call b)
      have B10 := hid (B9.out.trans (b.mono s9))
      have s10 := B10.out.size
      have hq : decide (([] : List Ev) = []) = true := rfl
      rw [hq]
      clear b
      go_wp2_with fail
      refine (equal_ta none none [] [] [] [] w10 rfl rfl (by decide) (by decide) (by simp) (by simp)).mono ?_
      rintro e w11 ⟨rfl, b⟩
      have t_11 := hid (t_10.out.call b)
      have x_11 := hid (x_10.out.call b)
      have B11 := hid (B10.out.trans (b.mono s10))
      have s11 := B11.out.size
      have hq2 : decide (([] : List Ev) = []) = true := rfl
      rw [hq2]
      clear b
      go_wp2_with fail
      refine (first_ta none (some pt) [] ft [] l w11 rfl (show TA w11 (some pt) ft l from t_11.out) (by decide) hl (by simp) (t_11.out).lt).mono ?_
      rintro e w12 ⟨rfl, b⟩
      have t_12 := hid (t_11.out.call b)
      have x_12 := hid (x_11.out.call b)
      have B12 := hid (B11.out.trans (b.mono s11))
      have s12 := B12.out.size
      rw [F1.out]
      clear b
      go_wp2_with fail
      refine (first_ta (some pt) none ft [] l [] w12 (show TA w12 (some pt) ft l from t_12.out) rfl hl (by decide) (t_12.out).lt (by simp)).mono ?_
      rintro e w13 ⟨rfl, b⟩
      have t_13 := hid (t_12.out.call b)
      have x_13 := hid (x_12.out.call b)
      have B13 := hid (B12.out.trans (b.mono s12))
      have s13 := B13.out.size
      rw [F2.out]
      clear b
      go_wp2
      go_ret
      exact ⟨rfl, B13.out⟩
    · have d0 : ((l.length : Int) == 0) = false := by simp [h0]
      have f1 : fst [] l = 0 := by cases l with
              | nil => exact absurd rfl h0
              | cons x l => rfl
      have f2 : fst l [] = 0 := by rw [fst_comm]; exact f1
      have F1 := hid f1
      have F2 := hid f2
      clear f1 f2
      go_wp2_with fail
      refine (alive02_any _).mono ?_
      rintro e w8 ⟨rfl, b⟩
      have t_8 := hid (t_7.out.call b)
      have B8 := hid (B7.out.trans (b.mono s7))
      have s8 := B8.out.size
      clear b
      go_wp2_with fail
      refine (new_any (.slice none 0 0) [] _ (evsl_nil _) (by decide)).mono ?_
      rintro e w9 ⟨px, fx, rfl, h9, b, z9⟩
      have Nx_9 := hid h9
      have Dtx : Hid (∀ k ∈ ft, k ∉ fx) := hid (fun k hk hu => by have a1 := z9 k hu; have a2 := (t_8.out).lt k hk; (try simp at a1); (try simp at a2); omega)
      have Dxt : Hid (∀ k ∈ fx, k ∉ ft) := hid (fun k hu hk => Dtx.out k hk hu)
      have t_9 := hid (t_8.out.call b)
      have B9 := hid (B8.out.trans (b.mono s8))
      have s9 := B9.out.size
      have Zx : Hid (∀ k ∈ fx, w.heap.size ≤ k) := hid (fun k hk => by have a1 := z9 k hk; (try simp at a1); omega)
      clear b h9 z9
      go_wp2_with fail
      refine (equal_ta none (some px) [] fx [] [] w9 rfl (show TA w9 (some px) fx [] from Nx_9.out) (by decide) (by decide) (by simp) (Nx_9.out).lt).mono ?_
      rintro e w10 ⟨rfl, b⟩
      have t_10 := hid (t_9.out.call b)
      have x_10 := hid (Nx_9.out.call b)
      have B10 := hid (B9.out.trans (b.mono s9))
      have s10 := B10.out.size
      have hq : decide (([] : List Ev) = []) = true := rfl
      rw [hq]
      clear b
      go_wp2_with fail
      refine (equal_ta none none [] [] [] [] w10 rfl rfl (by decide) (by decide) (by simp) (by simp)).mono ?_
      rintro e w11 ⟨rfl, b⟩
      have t_11 := hid (t_10.out.call b)
      have x_11 := hid (x_10.out.call b)
      have B11 := hid (B10.out.trans (b.mono s10))
      have s11 := B11.out.size
      have hq2 : decide (([] : List Ev) = []) = true := rfl
      rw [hq2]
      clear b
      go_wp2_with fail
      refine (first_ta none (some pt) [] ft [] l w11 rfl (show TA w11 (some pt) ft l from t_11.out) (by decide) hl (by simp) (t_11.out).lt).mono ?_
      rintro e w12 ⟨rfl, b⟩
      have t_12 := hid (t_11.out.call b)
      have x_12 := hid (x_11.out.call b)
      have B12 := hid (B11.out.trans (b.mono s11))
      have s12 := B12.out.size
      rw [F1.out]
      clear b
      go_wp2_with fail
      refine (first_ta (some pt) none ft [] l [] w12 (show TA w12 (some pt) ft l from t_12.out) rfl hl (by decide) (t_12.out).lt (by simp)).mono ?_
      rintro e w13 ⟨rfl, b⟩
      have t_13 := hid (t_12.out.call b)
      have x_13 := hid (x_12.out.call b)
      have B13 := hid (B12.out.trans (b.mono s12))
      have s13 := B13.out.size
      rw [F2.out]
      clear b
      go_wp2
      go_ret
      exact ⟨rfl, B13.out⟩
end Go.Proofs.Ytbkpiegkiokdlaa
