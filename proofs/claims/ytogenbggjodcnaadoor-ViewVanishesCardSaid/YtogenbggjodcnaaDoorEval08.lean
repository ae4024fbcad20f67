/-
  Quotient of the empty list; Eval; no tape.
-/
import Derived.Test.YtogenbggjodcnaaDoorBatB
namespace Go.Proofs.YtogenbggjodcnaaDoor
open Go.RowKit Go.Shelf

attribute [local go_sem] Oper.semAt_some

set_option maxRecDepth 100000 in
set_option maxHeartbeats 1000000 in
theorem quotient_nil (id : Int) (m inv o s x cap : Nat) (a : Option Addr) (xs : List Nat) (w : World) (hF : Hid (FieldOK m inv)) (hS : NumSl w (.slice a 0 cap) xs) (hn : xs.length = 0) :
    Calls Tryd.prog 97 #[.pointer none, fld id m inv o s, .slice a 0 cap, vec x] w (RetQuo m x xs w) := by
  have hm2 := hF.out.2.1
  have hxs : True := trivial
  obtain ⟨i0, hi, hz0, hz1, hz2⟩ := info_parts info_el
  obtain ⟨wq, hmk, hoq, hgq⟩ := run_make_full (P := Tryd.prog) (((w.alloc (.cells #[.int .i64 id, .int .u64 (limb m 0 : Int), .int .u64 (limb m 1 : Int), .int .u64 (limb m 2 : Int), .int .u64 (limb m 3 : Int), .int .u64 (inv : Int), .int .u64 (limb o 0 : Int), .int .u64 (limb o 1 : Int), .int .u64 (limb o 2 : Int), .int .u64 (limb o 3 : Int), .int .u64 (limb s 0 : Int), .int .u64 (limb s 1 : Int), .int .u64 (limb s 2 : Int), .int .u64 (limb s 3 : Int)] 31)).alloc (.cells #[.int .u64 (limb x 0 : Int), .int .u64 (limb x 1 : Int), .int .u64 (limb x 2 : Int), .int .u64 (limb x 3 : Int)] 29)).alloc (.cells #[.int .u64 0, .int .u64 0, .int .u64 0, .int .u64 0] 29)) (w.heap.size + 1 + 1 + 1) 34 29 i0 _ 4 Tryd.underlying34 hi hz0 hz1 .i64 .i64 0 (by rw [hz2]; omega) (by unfold maxLen; omega) (by simp)
  have zW0 : (((w.alloc (.cells #[.int .i64 id, .int .u64 (limb m 0 : Int), .int .u64 (limb m 1 : Int), .int .u64 (limb m 2 : Int), .int .u64 (limb m 3 : Int), .int .u64 (inv : Int), .int .u64 (limb o 0 : Int), .int .u64 (limb o 1 : Int), .int .u64 (limb o 2 : Int), .int .u64 (limb o 3 : Int), .int .u64 (limb s 0 : Int), .int .u64 (limb s 1 : Int), .int .u64 (limb s 2 : Int), .int .u64 (limb s 3 : Int)] 31)).alloc (.cells #[.int .u64 (limb x 0 : Int), .int .u64 (limb x 1 : Int), .int .u64 (limb x 2 : Int), .int .u64 (limb x 3 : Int)] 29)).alloc (.cells #[.int .u64 0, .int .u64 0, .int .u64 0, .int .u64 0] 29)).heap.size = w.heap.size + 1 + 1 + 1 := by simp
  have B0 : Below w.heap.size w (((w.alloc (.cells #[.int .i64 id, .int .u64 (limb m 0 : Int), .int .u64 (limb m 1 : Int), .int .u64 (limb m 2 : Int), .int .u64 (limb m 3 : Int), .int .u64 (inv : Int), .int .u64 (limb o 0 : Int), .int .u64 (limb o 1 : Int), .int .u64 (limb o 2 : Int), .int .u64 (limb o 3 : Int), .int .u64 (limb s 0 : Int), .int .u64 (limb s 1 : Int), .int .u64 (limb s 2 : Int), .int .u64 (limb s 3 : Int)] 31)).alloc (.cells #[.int .u64 (limb x 0 : Int), .int .u64 (limb x 1 : Int), .int .u64 (limb x 2 : Int), .int .u64 (limb x 3 : Int)] 29)).alloc (.cells #[.int .u64 0, .int .u64 0, .int .u64 0, .int .u64 0] 29)) := by go_grown
  have Bq := Below.grown B0 hgq (by rw [zW0]; omega) (fun j hj => by cases hj)
  have f0 : Blk wq w.heap.size 31 [.int .i64 id, .int .u64 (limb m 0 : Int), .int .u64 (limb m 1 : Int), .int .u64 (limb m 2 : Int), .int .u64 (limb m 3 : Int), .int .u64 (inv : Int), .int .u64 (limb o 0 : Int), .int .u64 (limb o 1 : Int), .int .u64 (limb o 2 : Int), .int .u64 (limb o 3 : Int), .int .u64 (limb s 0 : Int), .int .u64 (limb s 1 : Int), .int .u64 (limb s 2 : Int), .int .u64 (limb s 3 : Int)] := Blk.grown (Blk.alloc (Blk.alloc (Blk.new rfl) _) _) hgq (by simp)
  have x0 : Blk wq (w.heap.size + 1) 29 [.int .u64 (limb x 0 : Int), .int .u64 (limb x 1 : Int), .int .u64 (limb x 2 : Int), .int .u64 (limb x 3 : Int)] := Blk.grown (Blk.alloc (Blk.new (by simp)) _) hgq (by simp)
  have r0 : Blk wq (w.heap.size + 1 + 1) 29 [.int .u64 0, .int .u64 0, .int .u64 0, .int .u64 0] := Blk.grown (Blk.new (by simp)) hgq (by simp)
  have hoq' : wq.ownsRow (w.heap.size + 1 + 1 + 1) 29 4 (.slice (some ⟨w.heap.size + 1 + 1 + 1, 0, none⟩) 0 0) 0 (madeCells (Value.agg #[.int .u64 0, .int .u64 0, .int .u64 0, .int .u64 0]).cells (0 * 4)).toList := by rw [zW0] at hoq; exact hoq
  rw [zW0] at hmk
  have zq : w.heap.size + 1 + 1 + 1 < wq.heap.size := (hoq'.lt _ rfl).2
  have HMK : Sem.run Tryd.prog (Instr.makeSlice 34 (.int .i64 0) (.int .i64 0)) (((w.alloc (.cells #[.int .i64 id, .int .u64 (limb m 0 : Int), .int .u64 (limb m 1 : Int), .int .u64 (limb m 2 : Int), .int .u64 (limb m 3 : Int), .int .u64 (inv : Int), .int .u64 (limb o 0 : Int), .int .u64 (limb o 1 : Int), .int .u64 (limb o 2 : Int), .int .u64 (limb o 3 : Int), .int .u64 (limb s 0 : Int), .int .u64 (limb s 1 : Int), .int .u64 (limb s 2 : Int), .int .u64 (limb s 3 : Int)] 31)).alloc (.cells #[.int .u64 (limb x 0 : Int), .int .u64 (limb x 1 : Int), .int .u64 (limb x 2 : Int), .int .u64 (limb x 3 : Int)] 29)).alloc (.cells #[.int .u64 0, .int .u64 0, .int .u64 0, .int .u64 0] 29)) = _ := hmk
  have SQ := hid (hS.below Bq)
  clear hmk hi hz0 hz1 hz2 hoq hgq B0 zW0
  refine (callsIn_wide (n := 9)).1 ?_
  refine callsIn_of_wp_marks Tryd.func97 rfl trivial ?_ rfl
  simp only [Tryd.ntmps97, List.size_toArray, List.length_cons, List.length_nil, Nat.reduceAdd, Nat.reduceSub, Array.replicate_succ, Array.replicate_zero, List.push_toArray, List.append_toArray, List.nil_append, List.cons_append]
  gi_wp2_with (first | (refine ⟨trivial, ?_⟩; gi_at_call 126; refine (callsIn_wide.2 (back_any a (0) cap _)).mono ?_; rintro e w' ⟨rfl, rfl⟩) | (refine ⟨trivial, ?_⟩; gi_at_call 112; refine (callsIn_wide.2 (visit_any none 143 _ _)).mono ?_; rintro e w' ⟨rfl, rfl⟩))
  have G5 : Grow wq.heap.size wq (((((wq.alloc (.cells #[.slice (some ⟨w.heap.size + 1 + 1 + 1, 0, none⟩) 0 0] 34)).alloc (.cells #[.int .u64 0, .int .u64 0, .int .u64 0, .int .u64 0] 29)).alloc (.cells #[.slice a 0 cap] 34)).alloc (.cells #[.pointer none] 53)).alloc (.cells #[.func (.func 143) #[] #[ptr' (wq.heap.size + 1 + 1)]] 160)) := (((((Grow.refl _ wq).alloc _).alloc _).alloc _).alloc _).alloc _
  have q5 : Blk (((((wq.alloc (.cells #[.slice (some ⟨w.heap.size + 1 + 1 + 1, 0, none⟩) 0 0] 34)).alloc (.cells #[.int .u64 0, .int .u64 0, .int .u64 0, .int .u64 0] 29)).alloc (.cells #[.slice a 0 cap] 34)).alloc (.cells #[.pointer none] 53)).alloc (.cells #[.func (.func 143) #[] #[ptr' (wq.heap.size + 1 + 1)]] 160)) wq.heap.size 34 [.slice (some ⟨w.heap.size + 1 + 1 + 1, 0, none⟩) 0 0] := Blk.alloc (Blk.alloc (Blk.alloc (Blk.alloc (Blk.new rfl) _) _) _) _
  have a5 : Blk (((((wq.alloc (.cells #[.slice (some ⟨w.heap.size + 1 + 1 + 1, 0, none⟩) 0 0] 34)).alloc (.cells #[.int .u64 0, .int .u64 0, .int .u64 0, .int .u64 0] 29)).alloc (.cells #[.slice a 0 cap] 34)).alloc (.cells #[.pointer none] 53)).alloc (.cells #[.func (.func 143) #[] #[ptr' (wq.heap.size + 1 + 1)]] 160)) (wq.heap.size + 1) 29 [.int .u64 0, .int .u64 0, .int .u64 0, .int .u64 0] := Blk.alloc (Blk.alloc (Blk.alloc (Blk.new (by simp)) _) _) _
  have s5 : Blk (((((wq.alloc (.cells #[.slice (some ⟨w.heap.size + 1 + 1 + 1, 0, none⟩) 0 0] 34)).alloc (.cells #[.int .u64 0, .int .u64 0, .int .u64 0, .int .u64 0] 29)).alloc (.cells #[.slice a 0 cap] 34)).alloc (.cells #[.pointer none] 53)).alloc (.cells #[.func (.func 143) #[] #[ptr' (wq.heap.size + 1 + 1)]] 160)) (wq.heap.size + 1 + 1) 34 [.slice a 0 cap] := Blk.alloc (Blk.alloc (Blk.new (by simp)) _) _
  have t5 : Blk (((((wq.alloc (.cells #[.slice (some ⟨w.heap.size + 1 + 1 + 1, 0, none⟩) 0 0] 34)).alloc (.cells #[.int .u64 0, .int .u64 0, .int .u64 0, .int .u64 0] 29)).alloc (.cells #[.slice a 0 cap] 34)).alloc (.cells #[.pointer none] 53)).alloc (.cells #[.func (.func 143) #[] #[ptr' (wq.heap.size + 1 + 1)]] 160)) (wq.heap.size + 1 + 1 + 1) 53 [.pointer none] := Blk.alloc (Blk.new (by simp)) _
  have l5 : Blk (((((wq.alloc (.cells #[.slice (some ⟨w.heap.size + 1 + 1 + 1, 0, none⟩) 0 0] 34)).alloc (.cells #[.int .u64 0, .int .u64 0, .int .u64 0, .int .u64 0] 29)).alloc (.cells #[.slice a 0 cap] 34)).alloc (.cells #[.pointer none] 53)).alloc (.cells #[.func (.func 143) #[] #[ptr' (wq.heap.size + 1 + 1)]] 160)) (wq.heap.size + 1 + 1 + 1 + 1) 160 [.func (.func 143) #[] #[ptr' (wq.heap.size + 1 + 1)]] := Blk.new (by simp)
  have z5 : (((((wq.alloc (.cells #[.slice (some ⟨w.heap.size + 1 + 1 + 1, 0, none⟩) 0 0] 34)).alloc (.cells #[.int .u64 0, .int .u64 0, .int .u64 0, .int .u64 0] 29)).alloc (.cells #[.slice a 0 cap] 34)).alloc (.cells #[.pointer none] 53)).alloc (.cells #[.func (.func 143) #[] #[ptr' (wq.heap.size + 1 + 1)]] 160)).heap.size = wq.heap.size + 5 := by simp
  generalize (((((wq.alloc (.cells #[.slice (some ⟨w.heap.size + 1 + 1 + 1, 0, none⟩) 0 0] 34)).alloc (.cells #[.int .u64 0, .int .u64 0, .int .u64 0, .int .u64 0] 29)).alloc (.cells #[.slice a 0 cap] 34)).alloc (.cells #[.pointer none] 53)).alloc (.cells #[.func (.func 143) #[] #[ptr' (wq.heap.size + 1 + 1)]] 160)) = w5 at *
  have hP0 : VisS (wq.heap.size + 1 + 1 + 1 + 1) (wq.heap.size + 1 + 1 + 1) 143 #[ptr' (wq.heap.size + 1 + 1)] w5 ∧ BackS (wq.heap.size + 1 + 1) (.slice a 0 cap) xs w5 := ⟨⟨l5, t5⟩, s5, SQ.out.grow G5⟩
  have B5 : Below w.heap.size w w5 := Below.behind Bq (Nat.le_refl _) G5 (by omega)
  have a5' : Blk w5 (wq.heap.size + 1) 29 (limbs (horP m x [])) := by rw [horP_nil, limbs_zero]; exact a5
  have f5 := f0.grow G5
  have x5 := x0.grow G5
  have r5 := r0.grow G5
  have o5 := owns_grow hoq' G5
  have HXS := hid hxs
  have HNL := hid hn
  have hqr := QRow.zero m x 0 (downs xs) _ (by rw [Array.length_toList]; exact size_madeCells _ _) (fun j i hj hi => made_zeros 0 j i hj hi)
  refine wpIn_every (gf := 135) (lb := #[ptr' (wq.heap.size + 1 + 1 + 1 + 1), ptr' (wq.heap.size + 1 + 1 + 1)]) (encs := pairV) (xs := downs xs)
    (Kp := fun A B => (VisS (wq.heap.size + 1 + 1 + 1 + 1) (wq.heap.size + 1 + 1 + 1) 143 #[ptr' (wq.heap.size + 1 + 1)] A ∧ BackS (wq.heap.size + 1 + 1) (.slice a 0 cap) xs A → VisS (wq.heap.size + 1 + 1 + 1 + 1) (wq.heap.size + 1 + 1 + 1) 143 #[ptr' (wq.heap.size + 1 + 1)] B ∧ BackS (wq.heap.size + 1 + 1) (.slice a 0 cap) xs B) ∧ Keeps w5.heap.size A B)
    rfl (enters_of Tryd.func135 (by kernel_rfl) rfl)
    (fun W hg => visit_seq _ _ _ _ (BackS (wq.heap.size + 1 + 1) (.slice a 0 cap) xs) (downs xs) W w5.heap.size hg.size (enters_of Tryd.func143 (by kernel_rfl) rfl) (hP0.1.grow hg) (hP0.2.grow hg) (fun B A A' h k => h.grow k) (fun W' hq => back_seq _ _ xs W' hq (by rw [hn]; omega)))
    (fun h k => ⟨fun p => k.1 (h.1 p), h.2.trans k.2⟩) (fun A B hg => ⟨fun p => ⟨p.1.grow hg, p.2.grow hg⟩, hg.keeps _⟩) (fun _ => rfl)
    (fun pre W => Blk W w.heap.size 31 [.int .i64 id, .int .u64 (limb m 0 : Int), .int .u64 (limb m 1 : Int), .int .u64 (limb m 2 : Int), .int .u64 (limb m 3 : Int), .int .u64 (inv : Int), .int .u64 (limb o 0 : Int), .int .u64 (limb o 1 : Int), .int .u64 (limb o 2 : Int), .int .u64 (limb o 3 : Int), .int .u64 (limb s 0 : Int), .int .u64 (limb s 1 : Int), .int .u64 (limb s 2 : Int), .int .u64 (limb s 3 : Int)] ∧ Blk W (w.heap.size + 1) 29 [.int .u64 (limb x 0 : Int), .int .u64 (limb x 1 : Int), .int .u64 (limb x 2 : Int), .int .u64 (limb x 3 : Int)] ∧ Blk W (w.heap.size + 1 + 1) 29 [.int .u64 0, .int .u64 0, .int .u64 0, .int .u64 0] ∧ Blk W wq.heap.size 34 [.slice (some ⟨w.heap.size + 1 + 1 + 1, 0, none⟩) 0 0] ∧ Blk W (wq.heap.size + 1) 29 (limbs (horP m x pre)) ∧ (∃ ys, W.ownsRow (w.heap.size + 1 + 1 + 1) 29 4 (.slice (some ⟨w.heap.size + 1 + 1 + 1, 0, none⟩) 0 0) 0 ys ∧ QRow m x 0 (downs xs) pre.length ys) ∧ Below w.heap.size w W ∧ w5.heap.size ≤ W.heap.size)
    (fun _ _ _ => False)
    (fun pre A B h g => by
      obtain ⟨h1, h2, h3, h4, h5, ⟨ys, h6, h7⟩, h8, h9⟩ := h
      exact ⟨h1.grow g, h2.grow g, h3.grow g, h4.grow g, h5.grow g, ⟨ys, owns_grow h6 g, h7⟩, Below.behind h8 (Nat.le_refl _) g (by omega), Nat.le_trans h9 g.size⟩)
    (fun _ _ _ _ h _ => h) ⟨f5, x5, r5, q5, a5', ⟨_, o5, hqr⟩, B5, Nat.le_refl _⟩ ?round ?done ?stop
  case round =>
    rintro l0 l pre e W _ hpre _
    have := hpre.length_le
    rw [downs_len, hn] at this
    simp at this
  case done =>
    rintro D W hD ⟨h1, h2, h3, h4, h5, ⟨ys, h6, h7⟩, h8, h9⟩ hK
    have k0 := h4.cell (i := 0) rfl
    have b0 := h5.cell (i := 0) rfl
    have b1 := h5.cell (i := 1) rfl
    have b2 := h5.cell (i := 2) rfl
    have b3 := h5.cell (i := 3) rfl
    have rr0 := h3.cell (i := 0) rfl
    have rrf0 := h3.frozen 0
    have rr1 := h3.cell (i := 1) rfl
    have rrf1 := h3.frozen 1
    have rr2 := h3.cell (i := 2) rfl
    have rrf2 := h3.frozen 2
    have rr3 := h3.cell (i := 3) rfl
    have rrf3 := h3.frozen 3
    have zr := h3.lt
    have zk := h4.lt
    have zb := h5.lt
    gi_wp2
    refine wpIn_wide.2 ?_
    go_region
    gi_wp2
    obtain ⟨r2, hr2⟩ : ∃ r2, horP m x (downs xs) = r2 := ⟨_, rfl⟩
    rw [hr2]
    have HR2 := hid hr2
    have OE := (((((Only.refl (fun k => k = w.heap.size + 1 + 1) W).setCell (p := ⟨w.heap.size + 1 + 1, 0, none⟩) (.inl rfl) (.int .u64 (limb r2 0 : Int))).setCell (p := ⟨w.heap.size + 1 + 1, 1, none⟩) (.inl rfl) (.int .u64 (limb r2 1 : Int))).setCell (p := ⟨w.heap.size + 1 + 1, 2, none⟩) (.inl rfl) (.int .u64 (limb r2 2 : Int))).setCell (p := ⟨w.heap.size + 1 + 1, 3, none⟩) (.inl rfl) (.int .u64 (limb r2 3 : Int))).drew
    have R4 := Blk.drew (h3.set4 (.int .u64 (limb r2 0 : Int)) (.int .u64 (limb r2 1 : Int)) (.int .u64 (limb r2 2 : Int)) (.int .u64 (limb r2 3 : Int)))
    have OW := owns_only h6 OE (fun k h => by cases h; show ¬ (w.heap.size + 1 + 1 + 1 = w.heap.size + 1 + 1); omega)
    have BW := h8.trans (OE.below (n := w.heap.size) (fun k h => by omega) (by have := h8.size; omega))
    have hK2 := OE.block D _ hK (.inr rfl)
    skip
    refine ⟨by simp, .inl ⟨_, _, rfl, run_takeDeferred hK2, ?_⟩⟩
    have hg := (Grow.refl w5.heap.size _).putObj (.deferred none) hD hK2 rfl
    have R5 := R4.grow hg
    have p0 := R5.cell (i := 0) rfl
    have p1 := R5.cell (i := 1) rfl
    have p2 := R5.cell (i := 2) rfl
    have p3 := R5.cell (i := 3) rfl
    refine ⟨.tuple #[.slice (some ⟨w.heap.size + 1 + 1 + 1, 0, none⟩) 0 0, vec r2], by simp only [results, Tryd.results97]; go_simp, ?_⟩
    refine ⟨_, by rw [HR2.out], ?_, Below.behind BW (Nat.le_refl _) hg (by omega)⟩
    have e1 : ys = nums (quo m x xs) := by rw [downs_len] at h7; exact h7.done (by omega)
    rw [← e1, show xs.length - 1 = 0 by omega]
    exact owns_grow (owns_mono OW (by omega)) hg
  case stop => exact fun _ _ _ _ _ _ h _ => h.elim
theorem quotient_any (id : Int) (m inv o s x : Nat) (v : Value) (xs : List Nat) (w : World) (hF : Hid (FieldOK m inv)) (hx : Hid (x < m)) (hS : NumSl w v xs) (hxs : ∀ y ∈ xs, y < m) (hl : xs.length < 1000000) :
    Calls Tryd.prog 97 #[.pointer none, fld id m inv o s, v, vec x] w (RetQuo m x xs w) := by
  have hS' := hS
  obtain ⟨a, cap, rfl, _, _⟩ := hS'
  obtain ⟨n, hn⟩ : ∃ n, xs.length = n := ⟨_, rfl⟩
  rw [hn] at hS hl ⊢
  match n, hn with
  | 0, hn => exact quotient_nil id m inv o s x cap a xs w hF hS hn
  | c + 1, hn => exact quotient_pos id m inv o s x c cap a xs w hF hx hS hxs hn hl
end Go.Proofs.YtogenbggjodcnaaDoor
