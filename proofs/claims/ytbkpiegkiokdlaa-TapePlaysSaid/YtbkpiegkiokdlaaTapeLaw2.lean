/-
  TapeKeeps, TapePlays, TapeOwnsItsEvents: the walks.
-/
import Derived.Test.YtbkpiegkiokdlaaTapeConcat
import Derived.LoopN
namespace Go.Proofs.Ytbkpiegkiokdlaa
open Go.RowKit

set_option maxRecDepth 100000 in
set_option maxHeartbeats 4000000 in
theorem plays_law (v u : Value) (l m : List Ev) (w : World) (h : EvSl w v l) (h' : EvSl w u m) :
    Calls Try.prog 7 #[v, u] w (Ret (.bool true) w) := by
  have H := hid h
  have H' := hid h'
  obtain ⟨a, cap, rfl, _, _⟩ := h
  obtain ⟨a', cap', rfl, _, _⟩ := h'
  go_enter Try.func7, Try.ntmps7
  go_wp2_with fail
  refine (long_two w.heap.size 2 a a' l.length m.length cap cap' _ ((Blk.new rfl : Blk (w.alloc (.cells #[.slice a l.length cap, .slice a' m.length cap'] 22)) w.heap.size 22 [.slice a l.length cap, .slice a' m.length cap']).cell (i := 0) rfl) ((Blk.new rfl : Blk (w.alloc (.cells #[.slice a l.length cap, .slice a' m.length cap'] 22)) w.heap.size 22 [.slice a l.length cap, .slice a' m.length cap']).cell (i := 1) rfl)).mono ?_
  rintro e wq ⟨rfl, rfl⟩
  have hG : Grow 0 w (w.alloc (.cells #[.slice a l.length cap, .slice a' m.length cap'] 22)) := ((Grow.refl 0 w).alloc _)
  have B1 := hid (show Below w.heap.size w (w.alloc (.cells #[.slice a l.length cap, .slice a' m.length cap'] 22)) from ((Below.refl _ w).alloc (Nat.le_refl _) _))
  have s1 := B1.out.size
  clear hG
  generalize (w.alloc (.cells #[.slice a l.length cap, .slice a' m.length cap'] 22)) = w1 at *
  by_cases hlong : 3000 < l.length ∨ 3000 < m.length
  · rw [decide_eq_true hlong]
    go_wp2_with fail
    refine (alive02_any _).mono ?_
    rintro e w2 ⟨rfl, b⟩
    have B2 := hid (B1.out.trans (b.mono s1))
    have s2 := B2.out.size
    clear b
    go_wp2
    go_ret
    exact ⟨rfl, B2.out⟩
  · rw [decide_eq_false hlong]
    have hl : l.length < 3001 := by omega
    have hm : m.length < 3001 := by omega
    go_wp2_with fail
    refine (new_any _ l _ (H.out.below B1.out) (by omega)).mono ?_
    rintro e w2 ⟨pt, ft, rfl, h9, b, z9⟩
    have Nt_2 := hid h9
    have B2 := hid (B1.out.trans (b.mono s1))
    have s2 := B2.out.size
    have Zt : Hid (∀ k ∈ ft, w.heap.size ≤ k) := hid (fun k hk => by have a1 := z9 k hk; (try simp at a1); omega)
    clear b h9 z9
    go_wp2_with fail
    refine (new_any _ m _ (H'.out.below B2.out) (by omega)).mono ?_
    rintro e w3 ⟨pu, fu, rfl, h9, b, z9⟩
    have Nu_3 := hid h9
    have Dtu : Hid (∀ k ∈ ft, k ∉ fu) := hid (fun k hk hu => by have a1 := z9 k hu; have a2 := (Nt_2.out).lt k hk; (try simp at a1); (try simp at a2); omega)
    have Dut : Hid (∀ k ∈ fu, k ∉ ft) := hid (fun k hu hk => Dtu.out k hk hu)
    have t_3 := hid (Nt_2.out.call b)
    have B3 := hid (B2.out.trans (b.mono s2))
    have s3 := B3.out.size
    have Zu : Hid (∀ k ∈ fu, w.heap.size ≤ k) := hid (fun k hk => by have a1 := z9 k hk; (try simp at a1); omega)
    clear b h9 z9
    go_wp2_with fail
    refine (new_any (.slice none 0 0) [] _ (evsl_nil _) (by decide)).mono ?_
    rintro e w4 ⟨pv, fv, rfl, h9, b, z9⟩
    have Nv_4 := hid h9
    have Dtv : Hid (∀ k ∈ ft, k ∉ fv) := hid (fun k hk hu => by have a1 := z9 k hu; have a2 := (t_3.out).lt k hk; (try simp at a1); (try simp at a2); omega)
    have Dvt : Hid (∀ k ∈ fv, k ∉ ft) := hid (fun k hu hk => Dtv.out k hk hu)
    have Duv : Hid (∀ k ∈ fu, k ∉ fv) := hid (fun k hk hu => by have a1 := z9 k hu; have a2 := (Nu_3.out).lt k hk; (try simp at a1); (try simp at a2); omega)
    have Dvu : Hid (∀ k ∈ fv, k ∉ fu) := hid (fun k hu hk => Duv.out k hk hu)
    have t_4 := hid (t_3.out.call b)
    have u_4 := hid (Nu_3.out.call b)
    have B4 := hid (B3.out.trans (b.mono s3))
    have s4 := B4.out.size
    have Zv : Hid (∀ k ∈ fv, w.heap.size ≤ k) := hid (fun k hk => by have a1 := z9 k hk; (try simp at a1); omega)
    clear b h9 z9
    go_wp2_with fail
    refine (play_at pt ft l pu fu m _ t_4.out (.inr ⟨u_4.out, fun k hk hu => Dtu.out k hk hu⟩) (by omega)).mono ?_
    rintro e w5 ⟨rfl, ft5, h9, o9, z9⟩
    have Nt_5 := hid h9
    have u_5 := hid (u_4.out.only o9 (fun k hk hx => Dut.out k hk hx))
    have Etu : Hid (∀ k ∈ ft5, k ∉ fu) := hid (fun k hk hx => (z9 k hk).elim (fun h => Dtu.out k h hx) (fun h => by have := (u_4.out).lt k hx; omega))
    have v_5 := hid (Nv_4.out.only o9 (fun k hk hx => Dvt.out k hk hx))
    have Etv : Hid (∀ k ∈ ft5, k ∉ fv) := hid (fun k hk hx => (z9 k hk).elim (fun h => Dtv.out k h hx) (fun h => by have := (Nv_4.out).lt k hx; omega))
    have B5 := hid (B4.out.trans (o9.below (n := w.heap.size) Zt.out s4))
    have s5 := B5.out.size
    have Yt : Hid (∀ k ∈ ft5, w.heap.size ≤ k) := hid (fun k hk => (z9 k hk).elim (Zt.out k) (fun h => Nat.le_trans s4 h))
    clear Zt
    have Zt := Yt
    clear Yt
    clear Dtu Dut
    have Dtu := Etu
    clear Etu
    have Dut : Hid (∀ k ∈ fu, k ∉ ft5) := hid (fun k hu hk => Dtu.out k hk hu)
    clear Dtv Dvt
    have Dtv := Etv
    clear Etv
    have Dvt : Hid (∀ k ∈ fv, k ∉ ft5) := hid (fun k hu hk => Dtv.out k hk hu)
    clear h9 o9 z9
    go_wp2_with fail
    refine (play_at pv fv [] pu fu m _ v_5.out (.inr ⟨u_5.out, fun k hk hu => Dvu.out k hk hu⟩) (by simp; omega)).mono ?_
    rintro e w6 ⟨rfl, fv6, h9, o9, z9⟩
    have Nv_6 := hid h9
    have t_6 := hid (Nt_5.out.only o9 (fun k hk hx => Dtv.out k hk hx))
    have Evt : Hid (∀ k ∈ fv6, k ∉ ft5) := hid (fun k hk hx => (z9 k hk).elim (fun h => Dvt.out k h hx) (fun h => by have := (Nt_5.out).lt k hx; omega))
    have u_6 := hid (u_5.out.only o9 (fun k hk hx => Duv.out k hk hx))
    have Evu : Hid (∀ k ∈ fv6, k ∉ fu) := hid (fun k hk hx => (z9 k hk).elim (fun h => Dvu.out k h hx) (fun h => by have := (u_5.out).lt k hx; omega))
    have B6 := hid (B5.out.trans (o9.below (n := w.heap.size) Zv.out s5))
    have s6 := B6.out.size
    have Yv : Hid (∀ k ∈ fv6, w.heap.size ≤ k) := hid (fun k hk => (z9 k hk).elim (Zv.out k) (fun h => Nat.le_trans s5 h))
    clear Zv
    have Zv := Yv
    clear Yv
    clear Dvt Dtv
    have Dvt := Evt
    clear Evt
    have Dtv : Hid (∀ k ∈ ft5, k ∉ fv6) := hid (fun k hu hk => Dvt.out k hk hu)
    clear Dvu Duv
    have Dvu := Evu
    clear Evu
    have Duv : Hid (∀ k ∈ fu, k ∉ fv6) := hid (fun k hu hk => Dvu.out k hk hu)
    clear h9 o9 z9
    go_wp2_with fail
    refine (equal_ta (some pu) (some pv) fu fv6 m ([] ++ m) w6 (show TA w6 (some pu) fu m from u_6.out) (show TA w6 (some pv) fv6 ([] ++ m) from Nv_6.out) (by omega) (by simp; omega) (u_6.out).lt (Nv_6.out).lt).mono ?_
    rintro e w7 ⟨rfl, b⟩
    have t_7 := hid (t_6.out.call b)
    have u_7 := hid (u_6.out.call b)
    have v_7 := hid (Nv_6.out.call b)
    have B7 := hid (B6.out.trans (b.mono s6))
    have s7 := B7.out.size
    have hq : decide (m = [] ++ m) = true := by simp
    rw [hq]
    clear hq
    clear b
    go_wp2_with fail
    refine (events_at pu fu m _ u_7.out (by omega)).mono ?_
    rintro e w8 ⟨vVa, rfl, h9, b⟩
    have t_8 := hid (t_7.out.call b)
    have u_8 := hid (u_7.out.call b)
    have v_8 := hid (v_7.out.call b)
    have B8 := hid (B7.out.trans (b.mono s7))
    have s8 := B8.out.size
    have Va := hid (owns_evsl h9)
    clear b h9
    go_wp2_with fail
    refine (rsame_any vVa _ m m _ Va.out (H'.out.below B8.out) (by omega) (by omega)).mono ?_
    rintro e wq ⟨rfl, q8, rfl⟩
    have hq : decide (m = m) = true := by simp
    rw [hq]
    clear hq
    have hG : Grow 0 w8 (w8.drewN q8) := ((Grow.refl 0 w8).drewN q8)
    have t_9 := hid (t_8.out.grow hG)
    have u_9 := hid (u_8.out.grow hG)
    have v_9 := hid (v_8.out.grow hG)
    have Va_9 := hid (Va.out.grow hG)
    have B9 := hid (show Below w.heap.size w (w8.drewN q8) from (Below.drewN' B8.out q8))
    have s9 := B9.out.size
    clear hG
    generalize (w8.drewN q8) = w9 at *
    go_wp2_with fail
    refine (play_at pu fu m pu fu m _ u_9.out (.inl ⟨rfl, rfl⟩) (by omega)).mono ?_
    rintro e w10 ⟨rfl, fu10, h9, o9, z9⟩
    have Nu_10 := hid h9
    have t_10 := hid (t_9.out.only o9 (fun k hk hx => Dtu.out k hk hx))
    have Eut : Hid (∀ k ∈ fu10, k ∉ ft5) := hid (fun k hk hx => (z9 k hk).elim (fun h => Dut.out k h hx) (fun h => by have := (t_9.out).lt k hx; omega))
    have v_10 := hid (v_9.out.only o9 (fun k hk hx => Dvu.out k hk hx))
    have Euv : Hid (∀ k ∈ fu10, k ∉ fv6) := hid (fun k hk hx => (z9 k hk).elim (fun h => Duv.out k h hx) (fun h => by have := (v_9.out).lt k hx; omega))
    have B10 := hid (B9.out.trans (o9.below (n := w.heap.size) Zu.out s9))
    have s10 := B10.out.size
    have Yu : Hid (∀ k ∈ fu10, w.heap.size ≤ k) := hid (fun k hk => (z9 k hk).elim (Zu.out k) (fun h => Nat.le_trans s9 h))
    clear Zu
    have Zu := Yu
    clear Yu
    clear Dut Dtu
    have Dut := Eut
    clear Eut
    have Dtu : Hid (∀ k ∈ ft5, k ∉ fu10) := hid (fun k hu hk => Dut.out k hk hu)
    clear Duv Dvu
    have Duv := Euv
    clear Euv
    have Dvu : Hid (∀ k ∈ fv6, k ∉ fu10) := hid (fun k hu hk => Duv.out k hk hu)
    clear h9 o9 z9
    go_wp2_with fail
    refine (alive02_any _).mono ?_
    rintro e w11 ⟨rfl, b⟩
    have t_11 := hid (t_10.out.call b)
    have u_11 := hid (Nu_10.out.call b)
    have v_11 := hid (v_10.out.call b)
    have B11 := hid (B10.out.trans (b.mono s10))
    have s11 := B11.out.size
    clear b
    go_wp2_with fail
    refine (events_at pu fu10 (m ++ m) _ u_11.out (by simp; omega)).mono ?_
    rintro e w12 ⟨vVb, rfl, h9, b⟩
    have t_12 := hid (t_11.out.call b)
    have u_12 := hid (u_11.out.call b)
    have v_12 := hid (v_11.out.call b)
    have B12 := hid (B11.out.trans (b.mono s11))
    have s12 := B12.out.size
    have Vb := hid (owns_evsl h9)
    clear b h9
    go_wp2_with fail
    refine (concat_two w12.heap.size 2 (.slice a' m.length cap') (.slice a' m.length cap') m m _ ((Blk.new rfl : Blk (w12.alloc (.cells #[(.slice a' m.length cap'), (.slice a' m.length cap')] 22)) w12.heap.size 22 [(.slice a' m.length cap'), (.slice a' m.length cap')]).cell (i := 0) rfl) ((Blk.new rfl : Blk (w12.alloc (.cells #[(.slice a' m.length cap'), (.slice a' m.length cap')] 22)) w12.heap.size 22 [(.slice a' m.length cap'), (.slice a' m.length cap')]).cell (i := 1) rfl) (H'.out.below (B12.out.alloc s12 _)) (H'.out.below (B12.out.alloc s12 _)) (by omega)).mono ?_
    rintro e w13 ⟨vVc, rfl, h9, b⟩
    have t_13 := hid ((t_12.out.alloc (.cells #[(.slice a' m.length cap'), (.slice a' m.length cap')] 22)).call b)
    have u_13 := hid ((u_12.out.alloc (.cells #[(.slice a' m.length cap'), (.slice a' m.length cap')] 22)).call b)
    have v_13 := hid ((v_12.out.alloc (.cells #[(.slice a' m.length cap'), (.slice a' m.length cap')] 22)).call b)
    have Vb_13 := hid ((Vb.out.below ((Below.refl _ _).alloc (Nat.le_refl _) _)).below b)
    have B13 := hid ((B12.out.alloc s12 _).trans (b.mono (by simp; try omega)))
    have s13 := B13.out.size
    have Vc := hid (owns_evsl h9)
    clear b h9
    go_wp2_with fail
    refine (rsame_any vVb vVc (m ++ m) (m ++ m) _ Vb_13.out Vc.out (by simp; omega) (by simp; omega)).mono ?_
    rintro e wq ⟨rfl, q13, rfl⟩
    have hq : decide ((m ++ m) = (m ++ m)) = true := by simp
    rw [hq]
    clear hq
    have hG : Grow 0 w13 (w13.drewN q13) := ((Grow.refl 0 w13).drewN q13)
    have t_14 := hid (t_13.out.grow hG)
    have u_14 := hid (u_13.out.grow hG)
    have v_14 := hid (v_13.out.grow hG)
    have Vb_14 := hid (Vb_13.out.grow hG)
    have Vc_14 := hid (Vc.out.grow hG)
    have B14 := hid (show Below w.heap.size w (w13.drewN q13) from (Below.drewN' B13.out q13))
    have s14 := B14.out.size
    clear hG
    generalize (w13.drewN q13) = w14 at *
    go_wp2_with fail
    refine (events_at pt ft5 (l ++ m) _ t_14.out (by simp; omega)).mono ?_
    rintro e w15 ⟨vVd, rfl, h9, b⟩
    have t_15 := hid (t_14.out.call b)
    have u_15 := hid (u_14.out.call b)
    have v_15 := hid (v_14.out.call b)
    have Vb_15 := hid (Vb_14.out.below b)
    have Vc_15 := hid (Vc_14.out.below b)
    have B15 := hid (B14.out.trans (b.mono s14))
    have s15 := B15.out.size
    have Vd := hid (owns_evsl h9)
    clear b h9
    go_wp2_with fail
    refine (concat_two w15.heap.size 2 (.slice a l.length cap) (.slice a' m.length cap') l m _ ((Blk.new rfl : Blk (w15.alloc (.cells #[(.slice a l.length cap), (.slice a' m.length cap')] 22)) w15.heap.size 22 [(.slice a l.length cap), (.slice a' m.length cap')]).cell (i := 0) rfl) ((Blk.new rfl : Blk (w15.alloc (.cells #[(.slice a l.length cap), (.slice a' m.length cap')] 22)) w15.heap.size 22 [(.slice a l.length cap), (.slice a' m.length cap')]).cell (i := 1) rfl) (H.out.below (B15.out.alloc s15 _)) (H'.out.below (B15.out.alloc s15 _)) (by omega)).mono ?_
    rintro e w16 ⟨vVe, rfl, h9, b⟩
    have t_16 := hid ((t_15.out.alloc (.cells #[(.slice a l.length cap), (.slice a' m.length cap')] 22)).call b)
    have u_16 := hid ((u_15.out.alloc (.cells #[(.slice a l.length cap), (.slice a' m.length cap')] 22)).call b)
    have v_16 := hid ((v_15.out.alloc (.cells #[(.slice a l.length cap), (.slice a' m.length cap')] 22)).call b)
    have Vb_16 := hid ((Vb_15.out.below ((Below.refl _ _).alloc (Nat.le_refl _) _)).below b)
    have Vc_16 := hid ((Vc_15.out.below ((Below.refl _ _).alloc (Nat.le_refl _) _)).below b)
    have Vd_16 := hid ((Vd.out.below ((Below.refl _ _).alloc (Nat.le_refl _) _)).below b)
    have B16 := hid ((B15.out.alloc s15 _).trans (b.mono (by simp; try omega)))
    have s16 := B16.out.size
    have Ve := hid (owns_evsl h9)
    clear b h9
    go_wp2_with fail
    refine (rsame_any vVd vVe (l ++ m) (l ++ m) _ Vd_16.out Ve.out (by simp; omega) (by simp; omega)).mono ?_
    rintro e wq ⟨rfl, q16, rfl⟩
    have hq : decide ((l ++ m) = (l ++ m)) = true := by simp
    rw [hq]
    clear hq
    have hG : Grow 0 w16 (w16.drewN q16) := ((Grow.refl 0 w16).drewN q16)
    have t_17 := hid (t_16.out.grow hG)
    have u_17 := hid (u_16.out.grow hG)
    have v_17 := hid (v_16.out.grow hG)
    have Vb_17 := hid (Vb_16.out.grow hG)
    have Vc_17 := hid (Vc_16.out.grow hG)
    have Vd_17 := hid (Vd_16.out.grow hG)
    have Ve_17 := hid (Ve.out.grow hG)
    have B17 := hid (show Below w.heap.size w (w16.drewN q16) from (Below.drewN' B16.out q16))
    have s17 := B17.out.size
    clear hG
    generalize (w16.drewN q16) = w17 at *
    go_wp2_with fail
    refine (len_at pv fv6 ([] ++ m) _ v_17.out).mono ?_
    rintro e wq ⟨rfl, rfl⟩
    have hq : (([] ++ m : List Ev).length : Int) = (m.length : Int) := rfl
    rw [hq]
    go_wp2
    go_ret
    exact ⟨rfl, B17.out⟩
end Go.Proofs.Ytbkpiegkiokdlaa
