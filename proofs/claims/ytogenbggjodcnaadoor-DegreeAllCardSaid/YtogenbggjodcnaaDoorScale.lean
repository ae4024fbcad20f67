/-
  The multiple of a polynomial; no tape.
-/
import Derived.Test.YtogenbggjodcnaaDoorPolys
import Derived.Test.YtogenbggjodcnaaDoorQuot
import Derived.Test.YtogenbggjodcnaaDoorMont
import Derived.Test.YtogenbggjodcnaaDoorLimbs
import Derived.OwnWalk
import Derived.Test.YtogenbggjodcnaaDoorKit
namespace Go.Proofs.YtogenbggjodcnaaDoor
open Go.RowKit Go.Shelf

attribute [local go_sem] Oper.semAt_some

/-- The multiple of a list of forms. -/
noncomputable def pscl (m x : Nat) (xs : List Nat) : List Nat := xs.map fun y => mont m y x
theorem scl_store {m n k x y r : Nat} {xs : List Nat} {zs : List Value} (h : FRow n (fun t => if t < k then mont m (xs.getD t 0) x else 0) zs) (hc : k < n) (hx : xs.getD k 0 = y) (hr : mont m y x = r) :
    FRow n (fun t => if t < k + 1 then mont m (xs.getD t 0) x else 0) ((((zs.set (k * 4) (.int .u64 (limb r 0 : Int))).set (k * 4 + 1) (.int .u64 (limb r 1 : Int))).set (k * 4 + 2) (.int .u64 (limb r 2 : Int))).set (k * 4 + 3) (.int .u64 (limb r 3 : Int))) := by
  refine h.store hc r (fun t _ => ?_)
  by_cases e : t = k
  · rw [if_pos e, if_pos (by omega), e, hx, hr]
  · rw [if_neg e]
    by_cases l : t < k
    · rw [if_pos l, if_pos (by omega)]
    · rw [if_neg l, if_neg (by omega)]
theorem pscl_range (m x : Nat) (xs : List Nat) : pscl m x xs = (List.range xs.length).map fun t => mont m (xs.getD t 0) x := by
  unfold pscl
  refine List.ext_getElem? fun k => ?_
  rw [List.getElem?_map, List.getElem?_map]
  by_cases h : k < xs.length
  · rw [List.getElem?_range h, List.getElem?_eq_getElem h]
    show some (mont m (xs[k]) x) = some (mont m (xs.getD k 0) x)
    rw [getD_some (List.getElem?_eq_getElem h)]
  · rw [List.getElem?_eq_none (by omega), List.getElem?_eq_none (by simp; omega)]; rfl
set_option maxRecDepth 100000 in
set_option maxHeartbeats 1000000 in
theorem scale_any (id : Int) (m inv o s x : Nat) (v : Value) (xs : List Nat) (w : World) (hF : Hid (FieldOK m inv)) (hx : Hid (x < m)) (hS : NumSl w v xs) (hxs : ∀ y ∈ xs, y < m) (hl : xs.length < 1000000) :
    Calls Tryd.prog 80 #[.pointer none, fld id m inv o s, v, vec x] w (RetOwn 29 4 xs.length (nums (pscl m x xs)) w) := by
  have hm2 := hF.out.2.1
  have hS9 := hS
  obtain ⟨a, cap, rfl, _, _⟩ := hS9
  obtain ⟨n, hn⟩ : ∃ n, xs.length = n := ⟨_, rfl⟩
  rw [hn] at hS hl ⊢
  have hga : n ≠ 0 → ∀ ad, a = some ad → ad.block < w.heap.size := fun hn0 ad h => by
    have hS' := hS
    obtain ⟨a', c', e, _, hr⟩ := hS'
    simp only [Value.slice.injEq] at e
    obtain ⟨rfl, _, _⟩ := e
    rcases hr with h0 | ⟨g, off, rfl, he⟩
    · rw [h0] at hn; exact absurd hn.symm hn0
    · cases h
      obtain ⟨z, hz⟩ : ∃ z, xs[0]? = some z := ⟨xs[0]'(by omega), List.getElem?_eq_getElem _⟩
      exact World.block_lt_of_cell? w _ (he 0 z hz).2.1
  obtain ⟨i0, hi, hz0, hz1, hz2⟩ := info_parts info_el
  obtain ⟨wq, hmk, hoq, hgq⟩ := run_make_full (P := Tryd.prog) ((w.alloc (.cells #[.int .i64 id, .int .u64 (limb m 0 : Int), .int .u64 (limb m 1 : Int), .int .u64 (limb m 2 : Int), .int .u64 (limb m 3 : Int), .int .u64 (inv : Int), .int .u64 (limb o 0 : Int), .int .u64 (limb o 1 : Int), .int .u64 (limb o 2 : Int), .int .u64 (limb o 3 : Int), .int .u64 (limb s 0 : Int), .int .u64 (limb s 1 : Int), .int .u64 (limb s 2 : Int), .int .u64 (limb s 3 : Int)] 31)).alloc (.cells #[.int .u64 (limb x 0 : Int), .int .u64 (limb x 1 : Int), .int .u64 (limb x 2 : Int), .int .u64 (limb x 3 : Int)] 29)) (w.heap.size + 1 + 1) 34 29 i0 _ 4 Tryd.underlying34 hi hz0 hz1 .i64 .i64 n (by rw [hz2]; omega) (by unfold maxLen; omega) (by simp)
  have zW0 : ((w.alloc (.cells #[.int .i64 id, .int .u64 (limb m 0 : Int), .int .u64 (limb m 1 : Int), .int .u64 (limb m 2 : Int), .int .u64 (limb m 3 : Int), .int .u64 (inv : Int), .int .u64 (limb o 0 : Int), .int .u64 (limb o 1 : Int), .int .u64 (limb o 2 : Int), .int .u64 (limb o 3 : Int), .int .u64 (limb s 0 : Int), .int .u64 (limb s 1 : Int), .int .u64 (limb s 2 : Int), .int .u64 (limb s 3 : Int)] 31)).alloc (.cells #[.int .u64 (limb x 0 : Int), .int .u64 (limb x 1 : Int), .int .u64 (limb x 2 : Int), .int .u64 (limb x 3 : Int)] 29)).heap.size = w.heap.size + 1 + 1 := by simp
  have B0 : Below w.heap.size w ((w.alloc (.cells #[.int .i64 id, .int .u64 (limb m 0 : Int), .int .u64 (limb m 1 : Int), .int .u64 (limb m 2 : Int), .int .u64 (limb m 3 : Int), .int .u64 (inv : Int), .int .u64 (limb o 0 : Int), .int .u64 (limb o 1 : Int), .int .u64 (limb o 2 : Int), .int .u64 (limb o 3 : Int), .int .u64 (limb s 0 : Int), .int .u64 (limb s 1 : Int), .int .u64 (limb s 2 : Int), .int .u64 (limb s 3 : Int)] 31)).alloc (.cells #[.int .u64 (limb x 0 : Int), .int .u64 (limb x 1 : Int), .int .u64 (limb x 2 : Int), .int .u64 (limb x 3 : Int)] 29)) := by go_grown
  have Bq := Below.grown B0 hgq (by rw [zW0]; omega) (fun j hj => by cases hj)
  have f0 : Blk wq w.heap.size 31 [.int .i64 id, .int .u64 (limb m 0 : Int), .int .u64 (limb m 1 : Int), .int .u64 (limb m 2 : Int), .int .u64 (limb m 3 : Int), .int .u64 (inv : Int), .int .u64 (limb o 0 : Int), .int .u64 (limb o 1 : Int), .int .u64 (limb o 2 : Int), .int .u64 (limb o 3 : Int), .int .u64 (limb s 0 : Int), .int .u64 (limb s 1 : Int), .int .u64 (limb s 2 : Int), .int .u64 (limb s 3 : Int)] := Blk.grown (Blk.alloc (Blk.new rfl) _) hgq (by simp)
  have x0 : Blk wq (w.heap.size + 1) 29 [.int .u64 (limb x 0 : Int), .int .u64 (limb x 1 : Int), .int .u64 (limb x 2 : Int), .int .u64 (limb x 3 : Int)] := Blk.grown (Blk.new (by simp)) hgq (by simp)
  have hoq' : wq.ownsRow (w.heap.size + 1 + 1) 29 4 (.slice (some ⟨w.heap.size + 1 + 1, 0, none⟩) n n) n (madeCells (Value.agg #[.int .u64 0, .int .u64 0, .int .u64 0, .int .u64 0]).cells (n * 4)).toList := by rw [zW0] at hoq; exact hoq
  rw [zW0] at hmk
  have zq : w.heap.size + 1 + 1 < wq.heap.size := (hoq'.lt _ rfl).2
  have HMK := hmk
  have SQ := hid (hS.below Bq)
  clear hmk hi hz0 hz1 hz2 hoq hgq B0 zW0
  refine (callsIn_wide (n := 9)).1 ?_
  refine callsIn_of_wp_marks Tryd.func80 rfl trivial ?_ rfl
  simp only [Tryd.ntmps80, List.size_toArray, List.length_cons, List.length_nil, Nat.reduceAdd, Nat.reduceSub, Array.replicate_succ, Array.replicate_zero, List.push_toArray, List.append_toArray, List.nil_append, List.cons_append]
  gi_wp2_with (first | (refine ⟨trivial, ?_⟩; gi_at_call 113; refine (callsIn_wide.2 (all_any a n cap _)).mono ?_; rintro e w' ⟨rfl, rfl⟩) | (refine ⟨trivial, ?_⟩; gi_at_call 112; refine (callsIn_wide.2 (visit_any none 136 _ _)).mono ?_; rintro e w' ⟨rfl, rfl⟩))
  have G5 : Grow wq.heap.size wq ((((wq.alloc (.cells #[.slice (some ⟨w.heap.size + 1 + 1, 0, none⟩) n n] 34)).alloc (.cells #[.slice a n cap] 34)).alloc (.cells #[.pointer none] 53)).alloc (.cells #[.func (.func 136) #[] #[ptr' (wq.heap.size + 1)]] 160)) := ((((Grow.refl _ wq).alloc _).alloc _).alloc _).alloc _
  have q5 : Blk ((((wq.alloc (.cells #[.slice (some ⟨w.heap.size + 1 + 1, 0, none⟩) n n] 34)).alloc (.cells #[.slice a n cap] 34)).alloc (.cells #[.pointer none] 53)).alloc (.cells #[.func (.func 136) #[] #[ptr' (wq.heap.size + 1)]] 160)) wq.heap.size 34 [.slice (some ⟨w.heap.size + 1 + 1, 0, none⟩) n n] := Blk.alloc (Blk.alloc (Blk.alloc (Blk.new rfl) _) _) _
  have s5 : Blk ((((wq.alloc (.cells #[.slice (some ⟨w.heap.size + 1 + 1, 0, none⟩) n n] 34)).alloc (.cells #[.slice a n cap] 34)).alloc (.cells #[.pointer none] 53)).alloc (.cells #[.func (.func 136) #[] #[ptr' (wq.heap.size + 1)]] 160)) (wq.heap.size + 1) 34 [.slice a n cap] := Blk.alloc (Blk.alloc (Blk.new (by simp)) _) _
  have t5 : Blk ((((wq.alloc (.cells #[.slice (some ⟨w.heap.size + 1 + 1, 0, none⟩) n n] 34)).alloc (.cells #[.slice a n cap] 34)).alloc (.cells #[.pointer none] 53)).alloc (.cells #[.func (.func 136) #[] #[ptr' (wq.heap.size + 1)]] 160)) (wq.heap.size + 1 + 1) 53 [.pointer none] := Blk.alloc (Blk.new (by simp)) _
  have l5 : Blk ((((wq.alloc (.cells #[.slice (some ⟨w.heap.size + 1 + 1, 0, none⟩) n n] 34)).alloc (.cells #[.slice a n cap] 34)).alloc (.cells #[.pointer none] 53)).alloc (.cells #[.func (.func 136) #[] #[ptr' (wq.heap.size + 1)]] 160)) (wq.heap.size + 1 + 1 + 1) 160 [.func (.func 136) #[] #[ptr' (wq.heap.size + 1)]] := Blk.new (by simp)
  have z5 : ((((wq.alloc (.cells #[.slice (some ⟨w.heap.size + 1 + 1, 0, none⟩) n n] 34)).alloc (.cells #[.slice a n cap] 34)).alloc (.cells #[.pointer none] 53)).alloc (.cells #[.func (.func 136) #[] #[ptr' (wq.heap.size + 1)]] 160)).heap.size = wq.heap.size + 4 := by simp
  generalize ((((wq.alloc (.cells #[.slice (some ⟨w.heap.size + 1 + 1, 0, none⟩) n n] 34)).alloc (.cells #[.slice a n cap] 34)).alloc (.cells #[.pointer none] 53)).alloc (.cells #[.func (.func 136) #[] #[ptr' (wq.heap.size + 1)]] 160)) = w5 at *
  have hP0 : VisS (wq.heap.size + 1 + 1 + 1) (wq.heap.size + 1 + 1) 136 #[ptr' (wq.heap.size + 1)] w5 ∧ BackS (wq.heap.size + 1) (.slice a n cap) xs w5 := ⟨⟨l5, t5⟩, s5, SQ.out.grow G5⟩
  have B5 : Below w.heap.size w w5 := Below.behind Bq (Nat.le_refl _) G5 (by omega)
  have f5 := f0.grow G5
  have x5 := x0.grow G5
  have o5 := owns_grow hoq' G5
  have HXS := hid hxs
  have HNL := hid hn
  have hqr := (FRow.zero n _ (by rw [Array.length_toList]; exact size_madeCells _ _) (fun j i hj hi => made_zeros n j i hj hi)).congr (g := fun t => if t < ([] : List (Nat × Nat)).length then mont m (xs.getD t 0) x else 0) (fun t _ => by simp)
  refine wpIn_every (gf := 135) (lb := #[ptr' (wq.heap.size + 1 + 1 + 1), ptr' (wq.heap.size + 1 + 1)]) (encs := pairV) (xs := ups xs)
    (Kp := fun A B => (VisS (wq.heap.size + 1 + 1 + 1) (wq.heap.size + 1 + 1) 136 #[ptr' (wq.heap.size + 1)] A ∧ BackS (wq.heap.size + 1) (.slice a n cap) xs A → VisS (wq.heap.size + 1 + 1 + 1) (wq.heap.size + 1 + 1) 136 #[ptr' (wq.heap.size + 1)] B ∧ BackS (wq.heap.size + 1) (.slice a n cap) xs B) ∧ Keeps w5.heap.size A B)
    rfl (enters_of Tryd.func135 (by kernel_rfl) rfl)
    (fun W hg => visit_seq _ _ _ _ (BackS (wq.heap.size + 1) (.slice a n cap) xs) (ups xs) W w5.heap.size hg.size (enters_of Tryd.func136 (by kernel_rfl) rfl) (hP0.1.grow hg) (hP0.2.grow hg) (fun B A A' h k => h.grow k) (fun W' hq => all_seq _ _ xs W' hq (by rw [hn]; omega)))
    (fun h k => ⟨fun p => k.1 (h.1 p), h.2.trans k.2⟩) (fun A B hg => ⟨fun p => ⟨p.1.grow hg, p.2.grow hg⟩, hg.keeps _⟩) (fun _ => rfl)
    (fun pre W => Blk W w.heap.size 31 [.int .i64 id, .int .u64 (limb m 0 : Int), .int .u64 (limb m 1 : Int), .int .u64 (limb m 2 : Int), .int .u64 (limb m 3 : Int), .int .u64 (inv : Int), .int .u64 (limb o 0 : Int), .int .u64 (limb o 1 : Int), .int .u64 (limb o 2 : Int), .int .u64 (limb o 3 : Int), .int .u64 (limb s 0 : Int), .int .u64 (limb s 1 : Int), .int .u64 (limb s 2 : Int), .int .u64 (limb s 3 : Int)] ∧ Blk W (w.heap.size + 1) 29 [.int .u64 (limb x 0 : Int), .int .u64 (limb x 1 : Int), .int .u64 (limb x 2 : Int), .int .u64 (limb x 3 : Int)] ∧ Blk W wq.heap.size 34 [.slice (some ⟨w.heap.size + 1 + 1, 0, none⟩) n n] ∧ (∃ ys, W.ownsRow (w.heap.size + 1 + 1) 29 4 (.slice (some ⟨w.heap.size + 1 + 1, 0, none⟩) n n) n ys ∧ FRow n (fun t => if t < pre.length then mont m (xs.getD t 0) x else 0) ys) ∧ Below w.heap.size w W ∧ w5.heap.size ≤ W.heap.size)
    (fun _ _ _ => False)
    (fun pre A B h g => by
      obtain ⟨h1, h2, h4, ⟨ys, h6, h7⟩, h8, h9⟩ := h
      exact ⟨h1.grow g, h2.grow g, h4.grow g, ⟨ys, owns_grow h6 g, h7⟩, Below.behind h8 (Nat.le_refl _) g (by omega), Nat.le_trans h9 g.size⟩)
    (fun _ _ _ _ h _ => h) ⟨f5, x5, q5, ⟨_, o5, hqr⟩, B5, Nat.le_refl _⟩ ?round ?done ?stop
  case round =>
    rintro lm l pre ⟨i, y⟩ W ⟨h1, h2, h4, ⟨ys, h6, h7⟩, h8, h9⟩ hpre hl
    obtain ⟨hget, hpt⟩ := pre_take hpre
    obtain ⟨hy, hik⟩ := ups_at hget
    have hym := hxs y (List.mem_of_getElem? hy)
    have hin : i < n := by have := (List.getElem?_eq_some_iff.1 hy).1; omega
    have HYD := hid (show xs.getD i 0 = y by rw [hik]; exact getD_some hy)
    have HIK := hid hik
    have HQR := hid h7
    have HB8 := hid h8
    have HP0 := hid hP0
    have HGA := hid (hga (by omega))
    clear hik hga f0 x0 hoq' HMK G5 q5 s5 t5 l5 B5 f5 x5 o5 hqr h7 h8 hy hget hpt hpre hP0 hxs hn Bq hS
    simp only [pairV]
    gi_wp2
    refine ⟨((Only.refl (fun _ => True) W).alloc _).low _ _, fun W2 hg => ?_⟩
    have G2 : Grow w5.heap.size W W2 := ((Grow.refl _ W).alloc _).trans hg
    have dy : Blk W2 W.heap.size 29 (limbs y) := (Blk.new rfl).grow hg
    have df := h1.grow G2
    have dx := h2.grow G2
    have dq := h4.grow G2
    have do' := owns_grow h6 G2
    have zz2 : w5.heap.size ≤ W2.heap.size := Nat.le_trans h9 G2.size
    have zy : W.heap.size < W2.heap.size := dy.lt
    have HB2 := hid (Below.behind HB8.out (Nat.le_refl _) G2 (by omega))
    have HG2 := hid G2
    have M1 := hid (mmul_any id m inv o s y x hF.out (by have := hF.out.1; omega) (by have := hF.out.1; have := hx.out; omega) (Nat.mul_lt_mul_of_lt_of_lt (by have := hF.out.1; omega) hx.out))
    clear h1 h2 h4 h6 hg G2
    have f0 := df.cell (i := 0) rfl
    have f1 := df.cell (i := 1) rfl
    have f2 := df.cell (i := 2) rfl
    have f3 := df.cell (i := 3) rfl
    have f4 := df.cell (i := 4) rfl
    have f5 := df.cell (i := 5) rfl
    have f6 := df.cell (i := 6) rfl
    have f7 := df.cell (i := 7) rfl
    have f8 := df.cell (i := 8) rfl
    have f9 := df.cell (i := 9) rfl
    have f10 := df.cell (i := 10) rfl
    have f11 := df.cell (i := 11) rfl
    have f12 := df.cell (i := 12) rfl
    have f13 := df.cell (i := 13) rfl
    have x0 := dx.cell (i := 0) rfl
    have x1 := dx.cell (i := 1) rfl
    have x2 := dx.cell (i := 2) rfl
    have x3 := dx.cell (i := 3) rfl
    have y0 := dy.cell (i := 0) rfl
    have y1 := dy.cell (i := 1) rfl
    have y2 := dy.cell (i := 2) rfl
    have y3 := dy.cell (i := 3) rfl
    have q0 := dq.cell (i := 0) rfl
    have zf := df.lt
    have zx := dx.lt
    have zq2 := dq.lt
    gi_wp2
    refine wpIn_round_soft (C := fun W' => Below W2.heap.size W2 W') 6 (by kernel_rfl) (by kernel_rfl) (by kernel_rfl) ((Below.refl _ _).drew) ?_
    simp only [List.take_succ_cons, List.take_zero, List.drop_succ_cons, List.drop_zero]
    refine wpQuiet_step (fun K hK => ?_)
    rw [if_pos (by rfl)]
    refine ⟨.slice (some ⟨w.heap.size + 1 + 1, 0, none⟩) n n, fun W' hW => ?_, hK _ ?_⟩
    · have e0 := (hW.cell (p := ⟨wq.heap.size, 0, none⟩) zq2).trans q0
      go_simp
    clear hK K
    simp only [Act.put, List.setIfInBounds_toArray, List.set_cons_zero, List.set_cons_succ]
    refine wpQuiet_step (fun K hK => ?_)
    rw [if_pos (by rfl)]
    refine ⟨.int .i64 (i : Int), fun W' hW => ?_, hK _ ?_⟩
    · go_simp
    clear hK K
    simp only [Act.put, List.setIfInBounds_toArray, List.set_cons_zero, List.set_cons_succ]
    refine wpQuiet_step (fun K hK => ?_)
    rw [if_pos (by rfl)]
    refine ⟨fld id m inv o s, fun W' hW => ?_, hK _ ?_⟩
    · have e0 := (hW.cell (p := ⟨w.heap.size, 0, none⟩) zf).trans f0
      have e1 := (hW.cell (p := ⟨w.heap.size, 1, none⟩) zf).trans f1
      have e2 := (hW.cell (p := ⟨w.heap.size, 2, none⟩) zf).trans f2
      have e3 := (hW.cell (p := ⟨w.heap.size, 3, none⟩) zf).trans f3
      have e4 := (hW.cell (p := ⟨w.heap.size, 4, none⟩) zf).trans f4
      have e5 := (hW.cell (p := ⟨w.heap.size, 5, none⟩) zf).trans f5
      have e6 := (hW.cell (p := ⟨w.heap.size, 6, none⟩) zf).trans f6
      have e7 := (hW.cell (p := ⟨w.heap.size, 7, none⟩) zf).trans f7
      have e8 := (hW.cell (p := ⟨w.heap.size, 8, none⟩) zf).trans f8
      have e9 := (hW.cell (p := ⟨w.heap.size, 9, none⟩) zf).trans f9
      have e10 := (hW.cell (p := ⟨w.heap.size, 10, none⟩) zf).trans f10
      have e11 := (hW.cell (p := ⟨w.heap.size, 11, none⟩) zf).trans f11
      have e12 := (hW.cell (p := ⟨w.heap.size, 12, none⟩) zf).trans f12
      have e13 := (hW.cell (p := ⟨w.heap.size, 13, none⟩) zf).trans f13
      go_simp
    clear hK K
    simp only [Act.put, List.setIfInBounds_toArray, List.set_cons_zero, List.set_cons_succ]
    refine wpQuiet_step (fun K hK => ?_)
    rw [if_pos (by rfl)]
    refine ⟨vec y, fun W' hW => ?_, hK _ ?_⟩
    · have e0 := (hW.cell (p := ⟨W.heap.size, 0, none⟩) zy).trans y0
      have e1 := (hW.cell (p := ⟨W.heap.size, 1, none⟩) zy).trans y1
      have e2 := (hW.cell (p := ⟨W.heap.size, 2, none⟩) zy).trans y2
      have e3 := (hW.cell (p := ⟨W.heap.size, 3, none⟩) zy).trans y3
      go_simp
    clear hK K
    simp only [Act.put, List.setIfInBounds_toArray, List.set_cons_zero, List.set_cons_succ]
    refine wpQuiet_step (fun K hK => ?_)
    rw [if_pos (by rfl)]
    refine ⟨vec x, fun W' hW => ?_, hK _ ?_⟩
    · have e0 := (hW.cell (p := ⟨w.heap.size + 1, 0, none⟩) zx).trans x0
      have e1 := (hW.cell (p := ⟨w.heap.size + 1, 1, none⟩) zx).trans x1
      have e2 := (hW.cell (p := ⟨w.heap.size + 1, 2, none⟩) zx).trans x2
      have e3 := (hW.cell (p := ⟨w.heap.size + 1, 3, none⟩) zx).trans x3
      go_simp
    clear hK K
    simp only [Act.put, List.setIfInBounds_toArray, List.set_cons_zero, List.set_cons_succ]
    refine wpQuiet_step (fun K hK => ?_)
    rw [if_pos (by rfl)]
    refine ⟨vec (mont m y x), fun W' hW => ?_, hK _ ?_⟩
    · go_simp
      refine (M1.out _).mono ?_
      rintro e w' ⟨rfl, b⟩
      exact ⟨rfl, hW.trans (b.mono hW.size)⟩
    clear hK K
    simp only [Act.put, List.setIfInBounds_toArray, List.set_cons_zero, List.set_cons_succ]
    refine wpQuiet_nil ?_
    intro W3 hW3
    have zb := hW3.size
    obtain ⟨r2, hr2⟩ : ∃ r2, mont m y x = r2 := ⟨_, rfl⟩
    have HR2 := hid hr2
    rw [hr2]
    clear hr2
    have lo := owns_keep do' hW3
    have t0 := (lo.cellAt (i * 4) (by omega)).trans (HQR.out.2 i 0 (by omega) (by omega))
    have t1 := (lo.cellAt (i * 4 + 1) (by omega)).trans (HQR.out.2 i 1 (by omega) (by omega))
    have t2 := (lo.cellAt (i * 4 + 2) (by omega)).trans (HQR.out.2 i 2 (by omega) (by omega))
    have t3 := (lo.cellAt (i * 4 + 3) (by omega)).trans (HQR.out.2 i 3 (by omega) (by omega))
    have u0 := lo.frozenAt (i * 4)
    have u1 := lo.frozenAt (i * 4 + 1)
    have u2 := lo.frozenAt (i * 4 + 2)
    have u3 := lo.frozenAt (i * 4 + 3)
    have zlo : w.heap.size + 1 + 1 < W3.heap.size := (lo.lt _ rfl).2
    have hjc : (i : Int) < (n : Int) := by omega
    gi_wp2
    have O3 := (Below.only hW3 (fun k => k = w.heap.size + 1 + 1))
    have OE := (((O3.setCell (p := ⟨w.heap.size + 1 + 1, i * 4, none⟩) (.inl rfl) (.int .u64 (limb r2 0 : Int))).setCell (p := ⟨w.heap.size + 1 + 1, i * 4 + 1, none⟩) (.inl rfl) (.int .u64 (limb r2 1 : Int))).setCell (p := ⟨w.heap.size + 1 + 1, i * 4 + 2, none⟩) (.inl rfl) (.int .u64 (limb r2 2 : Int))).setCell (p := ⟨w.heap.size + 1 + 1, i * 4 + 3, none⟩) (.inl rfl) (.int .u64 (limb r2 3 : Int))
    have own1 := lo
    have KP : ∀ p, _ := fun p : VisS (wq.heap.size + 1 + 1 + 1) (wq.heap.size + 1 + 1) 136 #[ptr' (wq.heap.size + 1)] W ∧ BackS (wq.heap.size + 1) (.slice a n cap) xs W => (⟨⟨(p.1.grow HG2.out).1.only OE (by omega), (p.1.grow HG2.out).2.only OE (by omega)⟩, (p.2.grow HG2.out).1.only OE (by omega), (p.2.grow HG2.out).2.only OE (fun ad h => by have := HGA.out ad h; omega)⟩ : VisS (wq.heap.size + 1 + 1 + 1) (wq.heap.size + 1 + 1) 136 #[ptr' (wq.heap.size + 1)] _ ∧ BackS (wq.heap.size + 1) (.slice a n cap) xs _)
    exact ⟨OE.low _ _, ⟨fun p q => KP ⟨p, q⟩, (HG2.out.keeps _).trans (OE.keeps (fun k h => by omega))⟩, df.only OE (by omega), dx.only OE (by omega), dq.only OE (by omega), ⟨_, ((((own1.stored (i * 4) _).1.stored (i * 4 + 1) _).1.stored (i * 4 + 2) _).1.stored (i * 4 + 3) _).1, by rw [List.length_append]; have q := HQR.out; rw [← HIK.out] at q ⊢; exact scl_store q (by omega) HYD.out HR2.out⟩, HB2.out.trans (OE.below (fun k h => by omega) (by omega)), by have := OE.size; omega⟩
  case done =>
    rintro D W hD ⟨h1, h2, h4, ⟨ys, h6, h7⟩, h8, h9⟩ hK
    have k0 := h4.cell (i := 0) rfl
    have zk := h4.lt
    gi_wp2
    refine ⟨by simp, .inl ⟨_, _, rfl, run_takeDeferred hK, ?_⟩⟩
    have hg := (Grow.refl w5.heap.size _).putObj (.deferred none) hD hK rfl
    refine ⟨.slice (some ⟨w.heap.size + 1 + 1, 0, none⟩) n n, by simp only [results, Tryd.results80]; go_simp, ?_⟩
    refine ⟨_, rfl, ?_, Below.behind h8 (Nat.le_refl _) hg (by omega)⟩
    have e1 : ys = nums (pscl m x xs) := by rw [ups_len, HNL.out] at h7; rw [pscl_range, HNL.out]; exact (h7.congr (g := fun t => mont m (xs.getD t 0) x) (fun t ht => by rw [if_pos ht])).done
    rw [← e1]
    exact owns_grow (owns_mono h6 (by omega)) hg
  case stop => exact fun _ _ _ _ _ _ h _ => h.elim
end Go.Proofs.YtogenbggjodcnaaDoor
