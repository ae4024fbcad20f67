/-
  Quotient and Eval; no tape.
-/
import Derived.Test.YtogenbggjodcnaaDoorPolys
import Derived.Test.YtogenbggjodcnaaDoorMont
import Derived.Test.YtogenbggjodcnaaDoorLimbs
import Derived.OwnWalk
import Derived.Test.YtogenbggjodcnaaDoorKit
namespace Go.Proofs.YtogenbggjodcnaaDoor
open Go.RowKit Go.Shelf

attribute [local go_sem] Oper.semAt_some

theorem info_el : (Tryd.prog.info? 29).map (fun i => (i.zero, i.size, i.bytes)) = some (some (.agg #[.int .u64 0, .int .u64 0, .int .u64 0, .int .u64 0]), 4, 32) := by kernel_rfl
theorem limbs_zero : limbs 0 = [.int .u64 0, .int .u64 0, .int .u64 0, .int .u64 0] := by
  have e : ∀ i, limb 0 i = 0 := fun i => by rw [limb_eq]; simp
  show [Value.int .u64 (limb 0 0 : Int), .int .u64 (limb 0 1 : Int), .int .u64 (limb 0 2 : Int), .int .u64 (limb 0 3 : Int)] = _
  rw [e, e, e, e]; rfl
/-- The quotient and the remainder. -/
def RetQuo (m x : Nat) (xs : List Nat) (w : World) : Ending → World → Prop := fun e w' => ∃ q, e = .returned (.tuple #[q, vec (horP m x (downs xs))]) ∧ w'.ownsRow w.heap.size 29 4 q (xs.length - 1) (nums (quo m x xs)) ∧ Below w.heap.size w w'
set_option maxRecDepth 100000 in
set_option maxHeartbeats 1000000 in
theorem quotient_pos (id : Int) (m inv o s x c cap : Nat) (a : Option Addr) (xs : List Nat) (w : World) (hF : Hid (FieldOK m inv)) (hx : Hid (x < m)) (hS : NumSl w (.slice a (c + 1) cap) xs) (hxs : ∀ y ∈ xs, y < m) (hn : xs.length = c + 1) (hl : c + 1 < 1000000) :
    Calls Tryd.prog 97 #[.pointer none, fld id m inv o s, .slice a (c + 1) cap, vec x] w (RetQuo m x xs w) := by
  have hm2 := hF.out.2.1
  have hga : ∀ ad, a = some ad → ad.block < w.heap.size := fun ad h => by
    have hS' := hS
    obtain ⟨a', c', e, _, hr⟩ := hS'
    simp only [Value.slice.injEq] at e
    obtain ⟨rfl, _, _⟩ := e
    rcases hr with h0 | ⟨g, off, rfl, he⟩
    · rw [h0] at hn; cases hn
    · cases h
      obtain ⟨z, hz⟩ : ∃ z, xs[0]? = some z := ⟨xs[0]'(by omega), List.getElem?_eq_getElem _⟩
      exact World.block_lt_of_cell? w _ (he 0 z hz).2.1
  obtain ⟨i0, hi, hz0, hz1, hz2⟩ := info_parts info_el
  obtain ⟨wq, hmk, hoq, hgq⟩ := run_make_full (P := Tryd.prog) (((w.alloc (.cells #[.int .i64 id, .int .u64 (limb m 0 : Int), .int .u64 (limb m 1 : Int), .int .u64 (limb m 2 : Int), .int .u64 (limb m 3 : Int), .int .u64 (inv : Int), .int .u64 (limb o 0 : Int), .int .u64 (limb o 1 : Int), .int .u64 (limb o 2 : Int), .int .u64 (limb o 3 : Int), .int .u64 (limb s 0 : Int), .int .u64 (limb s 1 : Int), .int .u64 (limb s 2 : Int), .int .u64 (limb s 3 : Int)] 31)).alloc (.cells #[.int .u64 (limb x 0 : Int), .int .u64 (limb x 1 : Int), .int .u64 (limb x 2 : Int), .int .u64 (limb x 3 : Int)] 29)).alloc (.cells #[.int .u64 0, .int .u64 0, .int .u64 0, .int .u64 0] 29)) (w.heap.size + 1 + 1 + 1) 34 29 i0 _ 4 Tryd.underlying34 hi hz0 hz1 .i64 .i64 c (by rw [hz2]; omega) (by unfold maxLen; omega) (by simp)
  have zW0 : (((w.alloc (.cells #[.int .i64 id, .int .u64 (limb m 0 : Int), .int .u64 (limb m 1 : Int), .int .u64 (limb m 2 : Int), .int .u64 (limb m 3 : Int), .int .u64 (inv : Int), .int .u64 (limb o 0 : Int), .int .u64 (limb o 1 : Int), .int .u64 (limb o 2 : Int), .int .u64 (limb o 3 : Int), .int .u64 (limb s 0 : Int), .int .u64 (limb s 1 : Int), .int .u64 (limb s 2 : Int), .int .u64 (limb s 3 : Int)] 31)).alloc (.cells #[.int .u64 (limb x 0 : Int), .int .u64 (limb x 1 : Int), .int .u64 (limb x 2 : Int), .int .u64 (limb x 3 : Int)] 29)).alloc (.cells #[.int .u64 0, .int .u64 0, .int .u64 0, .int .u64 0] 29)).heap.size = w.heap.size + 1 + 1 + 1 := by simp
  have B0 : Below w.heap.size w (((w.alloc (.cells #[.int .i64 id, .int .u64 (limb m 0 : Int), .int .u64 (limb m 1 : Int), .int .u64 (limb m 2 : Int), .int .u64 (limb m 3 : Int), .int .u64 (inv : Int), .int .u64 (limb o 0 : Int), .int .u64 (limb o 1 : Int), .int .u64 (limb o 2 : Int), .int .u64 (limb o 3 : Int), .int .u64 (limb s 0 : Int), .int .u64 (limb s 1 : Int), .int .u64 (limb s 2 : Int), .int .u64 (limb s 3 : Int)] 31)).alloc (.cells #[.int .u64 (limb x 0 : Int), .int .u64 (limb x 1 : Int), .int .u64 (limb x 2 : Int), .int .u64 (limb x 3 : Int)] 29)).alloc (.cells #[.int .u64 0, .int .u64 0, .int .u64 0, .int .u64 0] 29)) := by go_grown
  have Bq := Below.grown B0 hgq (by rw [zW0]; omega) (fun j hj => by cases hj)
  have f0 : Blk wq w.heap.size 31 [.int .i64 id, .int .u64 (limb m 0 : Int), .int .u64 (limb m 1 : Int), .int .u64 (limb m 2 : Int), .int .u64 (limb m 3 : Int), .int .u64 (inv : Int), .int .u64 (limb o 0 : Int), .int .u64 (limb o 1 : Int), .int .u64 (limb o 2 : Int), .int .u64 (limb o 3 : Int), .int .u64 (limb s 0 : Int), .int .u64 (limb s 1 : Int), .int .u64 (limb s 2 : Int), .int .u64 (limb s 3 : Int)] := Blk.grown (Blk.alloc (Blk.alloc (Blk.new rfl) _) _) hgq (by simp)
  have x0 : Blk wq (w.heap.size + 1) 29 [.int .u64 (limb x 0 : Int), .int .u64 (limb x 1 : Int), .int .u64 (limb x 2 : Int), .int .u64 (limb x 3 : Int)] := Blk.grown (Blk.alloc (Blk.new (by simp)) _) hgq (by simp)
  have r0 : Blk wq (w.heap.size + 1 + 1) 29 [.int .u64 0, .int .u64 0, .int .u64 0, .int .u64 0] := Blk.grown (Blk.new (by simp)) hgq (by simp)
  have hoq' : wq.ownsRow (w.heap.size + 1 + 1 + 1) 29 4 (.slice (some ⟨w.heap.size + 1 + 1 + 1, 0, none⟩) c c) c (madeCells (Value.agg #[.int .u64 0, .int .u64 0, .int .u64 0, .int .u64 0]).cells (c * 4)).toList := by rw [zW0] at hoq; exact hoq
  rw [zW0] at hmk
  have zq : w.heap.size + 1 + 1 + 1 < wq.heap.size := (hoq'.lt _ rfl).2
  have HMK := hmk
  have SQ := hid (hS.below Bq)
  clear hmk hi hz0 hz1 hz2 hoq hgq B0 zW0
  refine (callsIn_wide (n := 9)).1 ?_
  refine callsIn_of_wp_marks Tryd.func97 rfl trivial ?_ rfl
  simp only [Tryd.ntmps97, List.size_toArray, List.length_cons, List.length_nil, Nat.reduceAdd, Nat.reduceSub, Array.replicate_succ, Array.replicate_zero, List.push_toArray, List.append_toArray, List.nil_append, List.cons_append]
  gi_wp2_with (first | (refine ⟨trivial, ?_⟩; gi_at_call 126; refine (callsIn_wide.2 (back_any a (c + 1) cap _)).mono ?_; rintro e w' ⟨rfl, rfl⟩) | (refine ⟨trivial, ?_⟩; gi_at_call 112; refine (callsIn_wide.2 (visit_any none 143 _ _)).mono ?_; rintro e w' ⟨rfl, rfl⟩))
  have G5 : Grow wq.heap.size wq (((((wq.alloc (.cells #[.slice (some ⟨w.heap.size + 1 + 1 + 1, 0, none⟩) c c] 34)).alloc (.cells #[.int .u64 0, .int .u64 0, .int .u64 0, .int .u64 0] 29)).alloc (.cells #[.slice a (c + 1) cap] 34)).alloc (.cells #[.pointer none] 53)).alloc (.cells #[.func (.func 143) #[] #[ptr' (wq.heap.size + 1 + 1)]] 160)) := (((((Grow.refl _ wq).alloc _).alloc _).alloc _).alloc _).alloc _
  have q5 : Blk (((((wq.alloc (.cells #[.slice (some ⟨w.heap.size + 1 + 1 + 1, 0, none⟩) c c] 34)).alloc (.cells #[.int .u64 0, .int .u64 0, .int .u64 0, .int .u64 0] 29)).alloc (.cells #[.slice a (c + 1) cap] 34)).alloc (.cells #[.pointer none] 53)).alloc (.cells #[.func (.func 143) #[] #[ptr' (wq.heap.size + 1 + 1)]] 160)) wq.heap.size 34 [.slice (some ⟨w.heap.size + 1 + 1 + 1, 0, none⟩) c c] := Blk.alloc (Blk.alloc (Blk.alloc (Blk.alloc (Blk.new rfl) _) _) _) _
  have a5 : Blk (((((wq.alloc (.cells #[.slice (some ⟨w.heap.size + 1 + 1 + 1, 0, none⟩) c c] 34)).alloc (.cells #[.int .u64 0, .int .u64 0, .int .u64 0, .int .u64 0] 29)).alloc (.cells #[.slice a (c + 1) cap] 34)).alloc (.cells #[.pointer none] 53)).alloc (.cells #[.func (.func 143) #[] #[ptr' (wq.heap.size + 1 + 1)]] 160)) (wq.heap.size + 1) 29 [.int .u64 0, .int .u64 0, .int .u64 0, .int .u64 0] := Blk.alloc (Blk.alloc (Blk.alloc (Blk.new (by simp)) _) _) _
  have s5 : Blk (((((wq.alloc (.cells #[.slice (some ⟨w.heap.size + 1 + 1 + 1, 0, none⟩) c c] 34)).alloc (.cells #[.int .u64 0, .int .u64 0, .int .u64 0, .int .u64 0] 29)).alloc (.cells #[.slice a (c + 1) cap] 34)).alloc (.cells #[.pointer none] 53)).alloc (.cells #[.func (.func 143) #[] #[ptr' (wq.heap.size + 1 + 1)]] 160)) (wq.heap.size + 1 + 1) 34 [.slice a (c + 1) cap] := Blk.alloc (Blk.alloc (Blk.new (by simp)) _) _
  have t5 : Blk (((((wq.alloc (.cells #[.slice (some ⟨w.heap.size + 1 + 1 + 1, 0, none⟩) c c] 34)).alloc (.cells #[.int .u64 0, .int .u64 0, .int .u64 0, .int .u64 0] 29)).alloc (.cells #[.slice a (c + 1) cap] 34)).alloc (.cells #[.pointer none] 53)).alloc (.cells #[.func (.func 143) #[] #[ptr' (wq.heap.size + 1 + 1)]] 160)) (wq.heap.size + 1 + 1 + 1) 53 [.pointer none] := Blk.alloc (Blk.new (by simp)) _
  have l5 : Blk (((((wq.alloc (.cells #[.slice (some ⟨w.heap.size + 1 + 1 + 1, 0, none⟩) c c] 34)).alloc (.cells #[.int .u64 0, .int .u64 0, .int .u64 0, .int .u64 0] 29)).alloc (.cells #[.slice a (c + 1) cap] 34)).alloc (.cells #[.pointer none] 53)).alloc (.cells #[.func (.func 143) #[] #[ptr' (wq.heap.size + 1 + 1)]] 160)) (wq.heap.size + 1 + 1 + 1 + 1) 160 [.func (.func 143) #[] #[ptr' (wq.heap.size + 1 + 1)]] := Blk.new (by simp)
  have z5 : (((((wq.alloc (.cells #[.slice (some ⟨w.heap.size + 1 + 1 + 1, 0, none⟩) c c] 34)).alloc (.cells #[.int .u64 0, .int .u64 0, .int .u64 0, .int .u64 0] 29)).alloc (.cells #[.slice a (c + 1) cap] 34)).alloc (.cells #[.pointer none] 53)).alloc (.cells #[.func (.func 143) #[] #[ptr' (wq.heap.size + 1 + 1)]] 160)).heap.size = wq.heap.size + 5 := by simp
  generalize (((((wq.alloc (.cells #[.slice (some ⟨w.heap.size + 1 + 1 + 1, 0, none⟩) c c] 34)).alloc (.cells #[.int .u64 0, .int .u64 0, .int .u64 0, .int .u64 0] 29)).alloc (.cells #[.slice a (c + 1) cap] 34)).alloc (.cells #[.pointer none] 53)).alloc (.cells #[.func (.func 143) #[] #[ptr' (wq.heap.size + 1 + 1)]] 160)) = w5 at *
  have hP0 : VisS (wq.heap.size + 1 + 1 + 1 + 1) (wq.heap.size + 1 + 1 + 1) 143 #[ptr' (wq.heap.size + 1 + 1)] w5 ∧ BackS (wq.heap.size + 1 + 1) (.slice a (c + 1) cap) xs w5 := ⟨⟨l5, t5⟩, s5, SQ.out.grow G5⟩
  have B5 : Below w.heap.size w w5 := Below.behind Bq (Nat.le_refl _) G5 (by omega)
  have a5' : Blk w5 (wq.heap.size + 1) 29 (limbs (horP m x [])) := by rw [horP_nil, limbs_zero]; exact a5
  have f5 := f0.grow G5
  have x5 := x0.grow G5
  have r5 := r0.grow G5
  have o5 := owns_grow hoq' G5
  have HXS := hid hxs
  have HNL := hid hn
  have hqr := QRow.zero m x c (downs xs) _ (by rw [Array.length_toList]; exact size_madeCells _ _) (fun j i hj hi => made_zeros c j i hj hi)
  refine wpIn_every (gf := 135) (lb := #[ptr' (wq.heap.size + 1 + 1 + 1 + 1), ptr' (wq.heap.size + 1 + 1 + 1)]) (encs := pairV) (xs := downs xs)
    (Kp := fun A B => (VisS (wq.heap.size + 1 + 1 + 1 + 1) (wq.heap.size + 1 + 1 + 1) 143 #[ptr' (wq.heap.size + 1 + 1)] A ∧ BackS (wq.heap.size + 1 + 1) (.slice a (c + 1) cap) xs A → VisS (wq.heap.size + 1 + 1 + 1 + 1) (wq.heap.size + 1 + 1 + 1) 143 #[ptr' (wq.heap.size + 1 + 1)] B ∧ BackS (wq.heap.size + 1 + 1) (.slice a (c + 1) cap) xs B) ∧ Keeps w5.heap.size A B)
    rfl (enters_of Tryd.func135 (by kernel_rfl) rfl)
    (fun W hg => visit_seq _ _ _ _ (BackS (wq.heap.size + 1 + 1) (.slice a (c + 1) cap) xs) (downs xs) W w5.heap.size hg.size (enters_of Tryd.func143 (by kernel_rfl) rfl) (hP0.1.grow hg) (hP0.2.grow hg) (fun B A A' h k => h.grow k) (fun W' hq => back_seq _ _ xs W' hq (by rw [hn]; omega)))
    (fun h k => ⟨fun p => k.1 (h.1 p), h.2.trans k.2⟩) (fun A B hg => ⟨fun p => ⟨p.1.grow hg, p.2.grow hg⟩, hg.keeps _⟩) (fun _ => rfl)
    (fun pre W => Blk W w.heap.size 31 [.int .i64 id, .int .u64 (limb m 0 : Int), .int .u64 (limb m 1 : Int), .int .u64 (limb m 2 : Int), .int .u64 (limb m 3 : Int), .int .u64 (inv : Int), .int .u64 (limb o 0 : Int), .int .u64 (limb o 1 : Int), .int .u64 (limb o 2 : Int), .int .u64 (limb o 3 : Int), .int .u64 (limb s 0 : Int), .int .u64 (limb s 1 : Int), .int .u64 (limb s 2 : Int), .int .u64 (limb s 3 : Int)] ∧ Blk W (w.heap.size + 1) 29 [.int .u64 (limb x 0 : Int), .int .u64 (limb x 1 : Int), .int .u64 (limb x 2 : Int), .int .u64 (limb x 3 : Int)] ∧ Blk W (w.heap.size + 1 + 1) 29 [.int .u64 0, .int .u64 0, .int .u64 0, .int .u64 0] ∧ Blk W wq.heap.size 34 [.slice (some ⟨w.heap.size + 1 + 1 + 1, 0, none⟩) c c] ∧ Blk W (wq.heap.size + 1) 29 (limbs (horP m x pre)) ∧ (∃ ys, W.ownsRow (w.heap.size + 1 + 1 + 1) 29 4 (.slice (some ⟨w.heap.size + 1 + 1 + 1, 0, none⟩) c c) c ys ∧ QRow m x c (downs xs) pre.length ys) ∧ Below w.heap.size w W ∧ w5.heap.size ≤ W.heap.size)
    (fun _ _ _ => False)
    (fun pre A B h g => by
      obtain ⟨h1, h2, h3, h4, h5, ⟨ys, h6, h7⟩, h8, h9⟩ := h
      exact ⟨h1.grow g, h2.grow g, h3.grow g, h4.grow g, h5.grow g, ⟨ys, owns_grow h6 g, h7⟩, Below.behind h8 (Nat.le_refl _) g (by omega), Nat.le_trans h9 g.size⟩)
    (fun _ _ _ _ h _ => h) ⟨f5, x5, r5, q5, a5', ⟨_, o5, hqr⟩, B5, Nat.le_refl _⟩ ?round ?done ?stop
  case round =>
    rintro lm l pre ⟨i, y⟩ W ⟨h1, h2, h3, h4, h5, ⟨ys, h6, h7⟩, h8, h9⟩ hpre hl
    obtain ⟨hget, hpt⟩ := pre_take hpre
    obtain ⟨hy, hik⟩ := downs_at hget
    have hym := hxs y (List.mem_of_getElem? hy)
    rw [hn] at hik
    have HQR := hid h7
    have HB8 := hid h8
    have HPT := hid hpt
    have HGET := hid hget
    have HP0 := hid hP0
    have HGA := hid hga
    clear hga f0 x0 r0 hoq' HMK G5 q5 a5 s5 t5 l5 B5 a5' f5 x5 r5 o5 hqr h7 h8 hy hget hpt hpre hP0 hxs hn Bq hS
    simp only [pairV]
    gi_wp2
    refine ⟨((Only.refl (fun _ => True) W).alloc _).low _ _, fun W2 hg => ?_⟩
    have G2 : Grow w5.heap.size W W2 := ((Grow.refl _ W).alloc _).trans hg
    have dy : Blk W2 W.heap.size 29 (limbs y) := (Blk.new rfl).grow hg
    have df := h1.grow G2
    have dx := h2.grow G2
    have dz := h3.grow G2
    have dq := h4.grow G2
    have da := h5.grow G2
    have do' := owns_grow h6 G2
    have HO2 := hid (((Only.refl (fun k => k = wq.heap.size + 1 ∨ k = w.heap.size + 1 + 1 + 1 ∨ W2.heap.size ≤ k) W2)))
    have zz2 : w5.heap.size ≤ W2.heap.size := Nat.le_trans h9 G2.size
    have zy : W.heap.size < W2.heap.size := dy.lt
    have HB2 := hid (Below.behind HB8.out (Nat.le_refl _) G2 (by omega))
    have HG2 := hid G2
    have mlt := horP_lt (m := m) x (by omega) pre
    obtain ⟨r, hr⟩ : ∃ r, horP m x pre = r := ⟨_, rfl⟩
    have HRR := hid hr
    rw [hr] at da mlt
    have M1 := hid (mmul_any id m inv o s r x hF.out (by have := hF.out.1; omega) (by have := hF.out.1; have := hx.out; omega) (Nat.mul_lt_mul_of_lt_of_lt (by have := hF.out.1; omega) hx.out))
    have M2 := hid (madd_any id m inv o s (mont m r x) y hF.out.1 (mont_lt _ _ (by omega)) hym)
    clear h1 h2 h3 h4 h5 h6 hg G2 hr
    have f0 := df.cell (i := 0) rfl
    have f1 := df.cell (i := 1) rfl
    have f2 := df.cell (i := 2) rfl
    have f3 := df.cell (i := 3) rfl
    have f4 := df.cell (i := 4) rfl
    have f5 := df.cell (i := 5) rfl
    have f6 := df.cell (i := 6) rfl
    have f7 := df.cell (i := 7) rfl
    have f8 := df.cell (i := 8) rfl
    have f9 := df.cell (i := 9) rfl
    have f10 := df.cell (i := 10) rfl
    have f11 := df.cell (i := 11) rfl
    have f12 := df.cell (i := 12) rfl
    have f13 := df.cell (i := 13) rfl
    have x0 := dx.cell (i := 0) rfl
    have x1 := dx.cell (i := 1) rfl
    have x2 := dx.cell (i := 2) rfl
    have x3 := dx.cell (i := 3) rfl
    have a0 := da.cell (i := 0) rfl
    have a1 := da.cell (i := 1) rfl
    have a2 := da.cell (i := 2) rfl
    have a3 := da.cell (i := 3) rfl
    have y0 := dy.cell (i := 0) rfl
    have y1 := dy.cell (i := 1) rfl
    have y2 := dy.cell (i := 2) rfl
    have y3 := dy.cell (i := 3) rfl
    have q0 := dq.cell (i := 0) rfl
    have zf := df.lt
    have zx := dx.lt
    have za := da.lt
    have zq2 := dq.lt
    by_cases hi0 : i = 0
    · subst hi0
      gi_wp2
      refine wpIn_round_soft (C := fun W' => Below W2.heap.size W2 W') 7 (by kernel_rfl) (by kernel_rfl) (by kernel_rfl) ((Below.refl _ _).drew) ?_
      simp only [List.take_succ_cons, List.take_zero, List.drop_succ_cons, List.drop_zero]
      refine wpQuiet_step (fun K hK => ?_)
      rw [if_pos (by rfl)]
      refine ⟨fld id m inv o s, fun W' hW => ?_, hK _ ?_⟩
      · have e0 := (hW.cell (p := ⟨w.heap.size, 0, none⟩) zf).trans f0
        have e1 := (hW.cell (p := ⟨w.heap.size, 1, none⟩) zf).trans f1
        have e2 := (hW.cell (p := ⟨w.heap.size, 2, none⟩) zf).trans f2
        have e3 := (hW.cell (p := ⟨w.heap.size, 3, none⟩) zf).trans f3
        have e4 := (hW.cell (p := ⟨w.heap.size, 4, none⟩) zf).trans f4
        have e5 := (hW.cell (p := ⟨w.heap.size, 5, none⟩) zf).trans f5
        have e6 := (hW.cell (p := ⟨w.heap.size, 6, none⟩) zf).trans f6
        have e7 := (hW.cell (p := ⟨w.heap.size, 7, none⟩) zf).trans f7
        have e8 := (hW.cell (p := ⟨w.heap.size, 8, none⟩) zf).trans f8
        have e9 := (hW.cell (p := ⟨w.heap.size, 9, none⟩) zf).trans f9
        have e10 := (hW.cell (p := ⟨w.heap.size, 10, none⟩) zf).trans f10
        have e11 := (hW.cell (p := ⟨w.heap.size, 11, none⟩) zf).trans f11
        have e12 := (hW.cell (p := ⟨w.heap.size, 12, none⟩) zf).trans f12
        have e13 := (hW.cell (p := ⟨w.heap.size, 13, none⟩) zf).trans f13
        go_simp
      clear hK K
      simp only [Act.put, List.setIfInBounds_toArray, List.set_cons_zero, List.set_cons_succ]
      refine wpQuiet_step (fun K hK => ?_)
      rw [if_pos (by rfl)]
      refine ⟨fld id m inv o s, fun W' hW => ?_, hK _ ?_⟩
      · have e0 := (hW.cell (p := ⟨w.heap.size, 0, none⟩) zf).trans f0
        have e1 := (hW.cell (p := ⟨w.heap.size, 1, none⟩) zf).trans f1
        have e2 := (hW.cell (p := ⟨w.heap.size, 2, none⟩) zf).trans f2
        have e3 := (hW.cell (p := ⟨w.heap.size, 3, none⟩) zf).trans f3
        have e4 := (hW.cell (p := ⟨w.heap.size, 4, none⟩) zf).trans f4
        have e5 := (hW.cell (p := ⟨w.heap.size, 5, none⟩) zf).trans f5
        have e6 := (hW.cell (p := ⟨w.heap.size, 6, none⟩) zf).trans f6
        have e7 := (hW.cell (p := ⟨w.heap.size, 7, none⟩) zf).trans f7
        have e8 := (hW.cell (p := ⟨w.heap.size, 8, none⟩) zf).trans f8
        have e9 := (hW.cell (p := ⟨w.heap.size, 9, none⟩) zf).trans f9
        have e10 := (hW.cell (p := ⟨w.heap.size, 10, none⟩) zf).trans f10
        have e11 := (hW.cell (p := ⟨w.heap.size, 11, none⟩) zf).trans f11
        have e12 := (hW.cell (p := ⟨w.heap.size, 12, none⟩) zf).trans f12
        have e13 := (hW.cell (p := ⟨w.heap.size, 13, none⟩) zf).trans f13
        go_simp
      clear hK K
      simp only [Act.put, List.setIfInBounds_toArray, List.set_cons_zero, List.set_cons_succ]
      refine wpQuiet_step (fun K hK => ?_)
      rw [if_pos (by rfl)]
      refine ⟨vec r, fun W' hW => ?_, hK _ ?_⟩
      · have e0 := (hW.cell (p := ⟨wq.heap.size + 1, 0, none⟩) za).trans a0
        have e1 := (hW.cell (p := ⟨wq.heap.size + 1, 1, none⟩) za).trans a1
        have e2 := (hW.cell (p := ⟨wq.heap.size + 1, 2, none⟩) za).trans a2
        have e3 := (hW.cell (p := ⟨wq.heap.size + 1, 3, none⟩) za).trans a3
        go_simp
      clear hK K
      simp only [Act.put, List.setIfInBounds_toArray, List.set_cons_zero, List.set_cons_succ]
      refine wpQuiet_step (fun K hK => ?_)
      rw [if_pos (by rfl)]
      refine ⟨vec x, fun W' hW => ?_, hK _ ?_⟩
      · have e0 := (hW.cell (p := ⟨w.heap.size + 1, 0, none⟩) zx).trans x0
        have e1 := (hW.cell (p := ⟨w.heap.size + 1, 1, none⟩) zx).trans x1
        have e2 := (hW.cell (p := ⟨w.heap.size + 1, 2, none⟩) zx).trans x2
        have e3 := (hW.cell (p := ⟨w.heap.size + 1, 3, none⟩) zx).trans x3
        go_simp
      clear hK K
      simp only [Act.put, List.setIfInBounds_toArray, List.set_cons_zero, List.set_cons_succ]
      refine wpQuiet_step (fun K hK => ?_)
      rw [if_pos (by rfl)]
      refine ⟨vec (mont m r x), fun W' hW => ?_, hK _ ?_⟩
      · go_simp
        refine (M1.out _).mono ?_
        rintro e w' ⟨rfl, b⟩
        exact ⟨rfl, hW.trans (b.mono hW.size)⟩
      clear hK K
      simp only [Act.put, List.setIfInBounds_toArray, List.set_cons_zero, List.set_cons_succ]
      refine wpQuiet_step (fun K hK => ?_)
      rw [if_pos (by rfl)]
      refine ⟨vec y, fun W' hW => ?_, hK _ ?_⟩
      · have e0 := (hW.cell (p := ⟨W.heap.size, 0, none⟩) zy).trans y0
        have e1 := (hW.cell (p := ⟨W.heap.size, 1, none⟩) zy).trans y1
        have e2 := (hW.cell (p := ⟨W.heap.size, 2, none⟩) zy).trans y2
        have e3 := (hW.cell (p := ⟨W.heap.size, 3, none⟩) zy).trans y3
        go_simp
      clear hK K
      simp only [Act.put, List.setIfInBounds_toArray, List.set_cons_zero, List.set_cons_succ]
      refine wpQuiet_step (fun K hK => ?_)
      rw [if_pos (by rfl)]
      refine ⟨vec (addm m (mont m r x) y), fun W' hW => ?_, hK _ ?_⟩
      · go_simp
        refine (M2.out _).mono ?_
        rintro e w' ⟨rfl, b⟩
        exact ⟨rfl, hW.trans (b.mono hW.size)⟩
      clear hK K
      simp only [Act.put, List.setIfInBounds_toArray, List.set_cons_zero, List.set_cons_succ]
      refine wpQuiet_nil ?_
      intro W3 hW3
      have la := da.below hW3 za
      have lq := dq.below hW3 zq2
      have zb := hW3.size
      have b0 := la.cell (i := 0) rfl
      have bf0 := la.frozen 0
      have b1 := la.cell (i := 1) rfl
      have bf1 := la.frozen 1
      have b2 := la.cell (i := 2) rfl
      have bf2 := la.frozen 2
      have b3 := la.cell (i := 3) rfl
      have bf3 := la.frozen 3
      have k0 := lq.cell (i := 0) rfl
      have zla := la.lt
      obtain ⟨r2, hr2⟩ : ∃ r2, addm m (mont m r x) y = r2 := ⟨_, rfl⟩
      have HR2 := hid hr2
      rw [hr2]
      have O3 := (Below.only hW3 (fun k => k = wq.heap.size + 1))
      have OE := (((O3.setCell (p := ⟨wq.heap.size + 1, 0, none⟩) (.inl rfl) (.int .u64 (limb r2 0 : Int))).setCell (p := ⟨wq.heap.size + 1, 1, none⟩) (.inl rfl) (.int .u64 (limb r2 1 : Int))).setCell (p := ⟨wq.heap.size + 1, 2, none⟩) (.inl rfl) (.int .u64 (limb r2 2 : Int))).setCell (p := ⟨wq.heap.size + 1, 3, none⟩) (.inl rfl) (.int .u64 (limb r2 3 : Int))
      have A4 := la.set4 (.int .u64 (limb r2 0 : Int)) (.int .u64 (limb r2 1 : Int)) (.int .u64 (limb r2 2 : Int)) (.int .u64 (limb r2 3 : Int))
      have hpr : r2 = horP m x (pre ++ [(0, y)]) := by rw [horP_snoc, HRR.out, HR2.out]
      have HPR := hid hpr
      clear hpr hr2 O3
      gi_wp2
      have KP : ∀ p, _ := fun p : VisS (wq.heap.size + 1 + 1 + 1 + 1) (wq.heap.size + 1 + 1 + 1) 143 #[ptr' (wq.heap.size + 1 + 1)] W ∧ BackS (wq.heap.size + 1 + 1) (.slice a (c + 1) cap) xs W => (⟨⟨(p.1.grow HG2.out).1.only OE (by omega), (p.1.grow HG2.out).2.only OE (by omega)⟩, (p.2.grow HG2.out).1.only OE (by omega), (p.2.grow HG2.out).2.only OE (fun ad h => by have := HGA.out ad h; omega)⟩ : VisS (wq.heap.size + 1 + 1 + 1 + 1) (wq.heap.size + 1 + 1 + 1) 143 #[ptr' (wq.heap.size + 1 + 1)] _ ∧ BackS (wq.heap.size + 1 + 1) (.slice a (c + 1) cap) xs _)
      exact ⟨OE.low _ _, ⟨KP, (HG2.out.keeps _).trans (OE.keeps (fun k h => by omega))⟩, df.only OE (by omega), dx.only OE (by omega), dz.only OE (by omega), dq.only OE (by omega), by rw [← HPR.out]; exact A4, ⟨ys, owns_only do' OE (fun k h => by cases h; show ¬ (w.heap.size + 1 + 1 + 1 = wq.heap.size + 1); omega), by rw [List.length_append]; exact HQR.out.skip (by omega)⟩, HB2.out.trans (OE.below (fun k h => by omega) (by omega)), Nat.le_trans zz2 OE.size⟩
    · obtain ⟨j, rfl⟩ : ∃ j, i = j + 1 := ⟨i - 1, by omega⟩
      gi_wp2
      refine wpIn_round_soft (C := fun W' => Below W2.heap.size W2 W') 7 (by kernel_rfl) (by kernel_rfl) (by kernel_rfl) ((Below.refl _ _).drew) ?_
      simp only [List.take_succ_cons, List.take_zero, List.drop_succ_cons, List.drop_zero]
      refine wpQuiet_step (fun K hK => ?_)
      rw [if_pos (by rfl)]
      refine ⟨fld id m inv o s, fun W' hW => ?_, hK _ ?_⟩
      · have e0 := (hW.cell (p := ⟨w.heap.size, 0, none⟩) zf).trans f0
        have e1 := (hW.cell (p := ⟨w.heap.size, 1, none⟩) zf).trans f1
        have e2 := (hW.cell (p := ⟨w.heap.size, 2, none⟩) zf).trans f2
        have e3 := (hW.cell (p := ⟨w.heap.size, 3, none⟩) zf).trans f3
        have e4 := (hW.cell (p := ⟨w.heap.size, 4, none⟩) zf).trans f4
        have e5 := (hW.cell (p := ⟨w.heap.size, 5, none⟩) zf).trans f5
        have e6 := (hW.cell (p := ⟨w.heap.size, 6, none⟩) zf).trans f6
        have e7 := (hW.cell (p := ⟨w.heap.size, 7, none⟩) zf).trans f7
        have e8 := (hW.cell (p := ⟨w.heap.size, 8, none⟩) zf).trans f8
        have e9 := (hW.cell (p := ⟨w.heap.size, 9, none⟩) zf).trans f9
        have e10 := (hW.cell (p := ⟨w.heap.size, 10, none⟩) zf).trans f10
        have e11 := (hW.cell (p := ⟨w.heap.size, 11, none⟩) zf).trans f11
        have e12 := (hW.cell (p := ⟨w.heap.size, 12, none⟩) zf).trans f12
        have e13 := (hW.cell (p := ⟨w.heap.size, 13, none⟩) zf).trans f13
        go_simp
      clear hK K
      simp only [Act.put, List.setIfInBounds_toArray, List.set_cons_zero, List.set_cons_succ]
      refine wpQuiet_step (fun K hK => ?_)
      rw [if_pos (by rfl)]
      refine ⟨fld id m inv o s, fun W' hW => ?_, hK _ ?_⟩
      · have e0 := (hW.cell (p := ⟨w.heap.size, 0, none⟩) zf).trans f0
        have e1 := (hW.cell (p := ⟨w.heap.size, 1, none⟩) zf).trans f1
        have e2 := (hW.cell (p := ⟨w.heap.size, 2, none⟩) zf).trans f2
        have e3 := (hW.cell (p := ⟨w.heap.size, 3, none⟩) zf).trans f3
        have e4 := (hW.cell (p := ⟨w.heap.size, 4, none⟩) zf).trans f4
        have e5 := (hW.cell (p := ⟨w.heap.size, 5, none⟩) zf).trans f5
        have e6 := (hW.cell (p := ⟨w.heap.size, 6, none⟩) zf).trans f6
        have e7 := (hW.cell (p := ⟨w.heap.size, 7, none⟩) zf).trans f7
        have e8 := (hW.cell (p := ⟨w.heap.size, 8, none⟩) zf).trans f8
        have e9 := (hW.cell (p := ⟨w.heap.size, 9, none⟩) zf).trans f9
        have e10 := (hW.cell (p := ⟨w.heap.size, 10, none⟩) zf).trans f10
        have e11 := (hW.cell (p := ⟨w.heap.size, 11, none⟩) zf).trans f11
        have e12 := (hW.cell (p := ⟨w.heap.size, 12, none⟩) zf).trans f12
        have e13 := (hW.cell (p := ⟨w.heap.size, 13, none⟩) zf).trans f13
        go_simp
      clear hK K
      simp only [Act.put, List.setIfInBounds_toArray, List.set_cons_zero, List.set_cons_succ]
      refine wpQuiet_step (fun K hK => ?_)
      rw [if_pos (by rfl)]
      refine ⟨vec r, fun W' hW => ?_, hK _ ?_⟩
      · have e0 := (hW.cell (p := ⟨wq.heap.size + 1, 0, none⟩) za).trans a0
        have e1 := (hW.cell (p := ⟨wq.heap.size + 1, 1, none⟩) za).trans a1
        have e2 := (hW.cell (p := ⟨wq.heap.size + 1, 2, none⟩) za).trans a2
        have e3 := (hW.cell (p := ⟨wq.heap.size + 1, 3, none⟩) za).trans a3
        go_simp
      clear hK K
      simp only [Act.put, List.setIfInBounds_toArray, List.set_cons_zero, List.set_cons_succ]
      refine wpQuiet_step (fun K hK => ?_)
      rw [if_pos (by rfl)]
      refine ⟨vec x, fun W' hW => ?_, hK _ ?_⟩
      · have e0 := (hW.cell (p := ⟨w.heap.size + 1, 0, none⟩) zx).trans x0
        have e1 := (hW.cell (p := ⟨w.heap.size + 1, 1, none⟩) zx).trans x1
        have e2 := (hW.cell (p := ⟨w.heap.size + 1, 2, none⟩) zx).trans x2
        have e3 := (hW.cell (p := ⟨w.heap.size + 1, 3, none⟩) zx).trans x3
        go_simp
      clear hK K
      simp only [Act.put, List.setIfInBounds_toArray, List.set_cons_zero, List.set_cons_succ]
      refine wpQuiet_step (fun K hK => ?_)
      rw [if_pos (by rfl)]
      refine ⟨vec (mont m r x), fun W' hW => ?_, hK _ ?_⟩
      · go_simp
        refine (M1.out _).mono ?_
        rintro e w' ⟨rfl, b⟩
        exact ⟨rfl, hW.trans (b.mono hW.size)⟩
      clear hK K
      simp only [Act.put, List.setIfInBounds_toArray, List.set_cons_zero, List.set_cons_succ]
      refine wpQuiet_step (fun K hK => ?_)
      rw [if_pos (by rfl)]
      refine ⟨vec y, fun W' hW => ?_, hK _ ?_⟩
      · have e0 := (hW.cell (p := ⟨W.heap.size, 0, none⟩) zy).trans y0
        have e1 := (hW.cell (p := ⟨W.heap.size, 1, none⟩) zy).trans y1
        have e2 := (hW.cell (p := ⟨W.heap.size, 2, none⟩) zy).trans y2
        have e3 := (hW.cell (p := ⟨W.heap.size, 3, none⟩) zy).trans y3
        go_simp
      clear hK K
      simp only [Act.put, List.setIfInBounds_toArray, List.set_cons_zero, List.set_cons_succ]
      refine wpQuiet_step (fun K hK => ?_)
      rw [if_pos (by rfl)]
      refine ⟨vec (addm m (mont m r x) y), fun W' hW => ?_, hK _ ?_⟩
      · go_simp
        refine (M2.out _).mono ?_
        rintro e w' ⟨rfl, b⟩
        exact ⟨rfl, hW.trans (b.mono hW.size)⟩
      clear hK K
      simp only [Act.put, List.setIfInBounds_toArray, List.set_cons_zero, List.set_cons_succ]
      refine wpQuiet_nil ?_
      intro W3 hW3
      have la := da.below hW3 za
      have lq := dq.below hW3 zq2
      have zb := hW3.size
      have b0 := la.cell (i := 0) rfl
      have bf0 := la.frozen 0
      have b1 := la.cell (i := 1) rfl
      have bf1 := la.frozen 1
      have b2 := la.cell (i := 2) rfl
      have bf2 := la.frozen 2
      have b3 := la.cell (i := 3) rfl
      have bf3 := la.frozen 3
      have k0 := lq.cell (i := 0) rfl
      have zla := la.lt
      obtain ⟨r2, hr2⟩ : ∃ r2, addm m (mont m r x) y = r2 := ⟨_, rfl⟩
      have HR2 := hid hr2
      rw [hr2]
      have O3 := (Below.only hW3 (fun k => k = wq.heap.size + 1))
      have OE := (((O3.setCell (p := ⟨wq.heap.size + 1, 0, none⟩) (.inl rfl) (.int .u64 (limb r2 0 : Int))).setCell (p := ⟨wq.heap.size + 1, 1, none⟩) (.inl rfl) (.int .u64 (limb r2 1 : Int))).setCell (p := ⟨wq.heap.size + 1, 2, none⟩) (.inl rfl) (.int .u64 (limb r2 2 : Int))).setCell (p := ⟨wq.heap.size + 1, 3, none⟩) (.inl rfl) (.int .u64 (limb r2 3 : Int))
      have A4 := la.set4 (.int .u64 (limb r2 0 : Int)) (.int .u64 (limb r2 1 : Int)) (.int .u64 (limb r2 2 : Int)) (.int .u64 (limb r2 3 : Int))
      have hpr : r2 = horP m x (pre ++ [(j + 1, y)]) := by rw [horP_snoc, HRR.out, HR2.out]
      have HPR := hid hpr
      clear hpr hr2 O3
      have lo := owns_keep do' hW3
      have t0 := (lo.cellAt (j * 4) (by omega)).trans (HQR.out.2 j 0 (by omega) (by omega))
      have t1 := (lo.cellAt (j * 4 + 1) (by omega)).trans (HQR.out.2 j 1 (by omega) (by omega))
      have t2 := (lo.cellAt (j * 4 + 2) (by omega)).trans (HQR.out.2 j 2 (by omega) (by omega))
      have t3 := (lo.cellAt (j * 4 + 3) (by omega)).trans (HQR.out.2 j 3 (by omega) (by omega))
      have u0 := lo.frozenAt (j * 4)
      have u1 := lo.frozenAt (j * 4 + 1)
      have u2 := lo.frozenAt (j * 4 + 2)
      have u3 := lo.frozenAt (j * 4 + 3)
      have zlo : w.heap.size + 1 + 1 + 1 < W3.heap.size := (lo.lt _ rfl).2
      have hjc : (j : Int) < (c : Int) := by omega
      have hjc2 : j < c := by omega
      gi_wp2
      have own1 := owns_only do' OE (fun k h => by cases h; show ¬ (w.heap.size + 1 + 1 + 1 = wq.heap.size + 1); omega)
      have OF := ((((OE.mono (fun k h => Or.inl (b := k = w.heap.size + 1 + 1 + 1) h)).setCell (p := ⟨w.heap.size + 1 + 1 + 1, j * 4, none⟩) (.inl (.inr rfl)) (.int .u64 (limb r2 0 : Int))).setCell (p := ⟨w.heap.size + 1 + 1 + 1, j * 4 + 1, none⟩) (.inl (.inr rfl)) (.int .u64 (limb r2 1 : Int))).setCell (p := ⟨w.heap.size + 1 + 1 + 1, j * 4 + 2, none⟩) (.inl (.inr rfl)) (.int .u64 (limb r2 2 : Int))).setCell (p := ⟨w.heap.size + 1 + 1 + 1, j * 4 + 3, none⟩) (.inl (.inr rfl)) (.int .u64 (limb r2 3 : Int))
      have A5 := (((A4.other ⟨w.heap.size + 1 + 1 + 1, j * 4, none⟩ (.int .u64 (limb r2 0 : Int)) (by dsimp only; omega)).other ⟨w.heap.size + 1 + 1 + 1, j * 4 + 1, none⟩ (.int .u64 (limb r2 1 : Int)) (by dsimp only; omega)).other ⟨w.heap.size + 1 + 1 + 1, j * 4 + 2, none⟩ (.int .u64 (limb r2 2 : Int)) (by dsimp only; omega)).other ⟨w.heap.size + 1 + 1 + 1, j * 4 + 3, none⟩ (.int .u64 (limb r2 3 : Int)) (by dsimp only; omega)
      have KP : ∀ p, _ := fun p : VisS (wq.heap.size + 1 + 1 + 1 + 1) (wq.heap.size + 1 + 1 + 1) 143 #[ptr' (wq.heap.size + 1 + 1)] W ∧ BackS (wq.heap.size + 1 + 1) (.slice a (c + 1) cap) xs W => (⟨⟨(p.1.grow HG2.out).1.only OF (by omega), (p.1.grow HG2.out).2.only OF (by omega)⟩, (p.2.grow HG2.out).1.only OF (by omega), (p.2.grow HG2.out).2.only OF (fun ad h => by have := HGA.out ad h; omega)⟩ : VisS (wq.heap.size + 1 + 1 + 1 + 1) (wq.heap.size + 1 + 1 + 1) 143 #[ptr' (wq.heap.size + 1 + 1)] _ ∧ BackS (wq.heap.size + 1 + 1) (.slice a (c + 1) cap) xs _)
      exact ⟨OF.low _ _, ⟨KP, (HG2.out.keeps _).trans (OF.keeps (fun k h => by omega))⟩, df.only OF (by omega), dx.only OF (by omega), dz.only OF (by omega), dq.only OF (by omega), by rw [← HPR.out]; exact A5, ⟨_, ((((own1.stored (j * 4) _).1.stored (j * 4 + 1) _).1.stored (j * 4 + 2) _).1.stored (j * 4 + 3) _).1, by rw [List.length_append]; exact HQR.out.store (by omega) r2 (by rw [take_next HGET.out, ← HPT.out]; exact HPR.out.symm)⟩, HB2.out.trans (OF.below (fun k h => by omega) (by omega)), Nat.le_trans zz2 OF.size⟩
  case done =>
    rintro D W hD ⟨h1, h2, h3, h4, h5, ⟨ys, h6, h7⟩, h8, h9⟩ hK
    have k0 := h4.cell (i := 0) rfl
    have b0 := h5.cell (i := 0) rfl
    have b1 := h5.cell (i := 1) rfl
    have b2 := h5.cell (i := 2) rfl
    have b3 := h5.cell (i := 3) rfl
    have rr0 := h3.cell (i := 0) rfl
    have rrf0 := h3.frozen 0
    have rr1 := h3.cell (i := 1) rfl
    have rrf1 := h3.frozen 1
    have rr2 := h3.cell (i := 2) rfl
    have rrf2 := h3.frozen 2
    have rr3 := h3.cell (i := 3) rfl
    have rrf3 := h3.frozen 3
    have zr := h3.lt
    have zk := h4.lt
    have zb := h5.lt
    gi_wp2
    refine wpIn_wide.2 ?_
    go_region
    gi_wp2
    obtain ⟨r2, hr2⟩ : ∃ r2, horP m x (downs xs) = r2 := ⟨_, rfl⟩
    rw [hr2]
    have HR2 := hid hr2
    have OE := (((((Only.refl (fun k => k = w.heap.size + 1 + 1) W).setCell (p := ⟨w.heap.size + 1 + 1, 0, none⟩) (.inl rfl) (.int .u64 (limb r2 0 : Int))).setCell (p := ⟨w.heap.size + 1 + 1, 1, none⟩) (.inl rfl) (.int .u64 (limb r2 1 : Int))).setCell (p := ⟨w.heap.size + 1 + 1, 2, none⟩) (.inl rfl) (.int .u64 (limb r2 2 : Int))).setCell (p := ⟨w.heap.size + 1 + 1, 3, none⟩) (.inl rfl) (.int .u64 (limb r2 3 : Int))).drew
    have R4 := Blk.drew (h3.set4 (.int .u64 (limb r2 0 : Int)) (.int .u64 (limb r2 1 : Int)) (.int .u64 (limb r2 2 : Int)) (.int .u64 (limb r2 3 : Int)))
    have OW := owns_only h6 OE (fun k h => by cases h; show ¬ (w.heap.size + 1 + 1 + 1 = w.heap.size + 1 + 1); omega)
    have BW := h8.trans (OE.below (n := w.heap.size) (fun k h => by omega) (by have := h8.size; omega))
    have hK2 := OE.block D _ hK (.inr rfl)
    skip
    refine ⟨by simp, .inl ⟨_, _, rfl, run_takeDeferred hK2, ?_⟩⟩
    have hg := (Grow.refl w5.heap.size _).putObj (.deferred none) hD hK2 rfl
    have R5 := R4.grow hg
    have p0 := R5.cell (i := 0) rfl
    have p1 := R5.cell (i := 1) rfl
    have p2 := R5.cell (i := 2) rfl
    have p3 := R5.cell (i := 3) rfl
    refine ⟨.tuple #[.slice (some ⟨w.heap.size + 1 + 1 + 1, 0, none⟩) c c, vec r2], by simp only [results, Tryd.results97]; go_simp, ?_⟩
    refine ⟨_, by rw [HR2.out], ?_, Below.behind BW (Nat.le_refl _) hg (by omega)⟩
    have e1 : ys = nums (quo m x xs) := by rw [downs_len] at h7; exact h7.done (by omega)
    rw [← e1, show xs.length - 1 = c by omega]
    exact owns_grow (owns_mono OW (by omega)) hg
  case stop => exact fun _ _ _ _ _ _ h _ => h.elim
end Go.Proofs.YtogenbggjodcnaaDoor
