/-
  The sum of two polynomials; no tape.
-/
import Derived.Test.YtogenbggjodcnaaDoorClone
import Derived.Test.YtogenbggjodcnaaDoorScale
import Derived.Test.YtogenbggjodcnaaDoorPolys
import Derived.Test.YtogenbggjodcnaaDoorQuot
import Derived.Test.YtogenbggjodcnaaDoorMont
import Derived.Test.YtogenbggjodcnaaDoorLimbs
import Derived.OwnWalk
import Derived.Test.YtogenbggjodcnaaDoorKit
namespace Go.Proofs.YtogenbggjodcnaaDoor
open Go.RowKit Go.Shelf

attribute [local go_sem] Oper.semAt_some

theorem padd_store {m n n2 i x y r : Nat} {xs ys : List Nat} {zs : List Value} (h : FRow n (fun t => if t < i ∧ t < n2 then addm m (xs.getD t 0) (ys.getD t 0) else xs.getD t 0) zs) (hc : i < n) (hi2 : i < n2) (hx : xs.getD i 0 = x) (hy : ys.getD i 0 = y) (hr : addm m x y = r) :
    FRow n (fun t => if t < i + 1 ∧ t < n2 then addm m (xs.getD t 0) (ys.getD t 0) else xs.getD t 0) ((((zs.set (i * 4) (.int .u64 (limb r 0 : Int))).set (i * 4 + 1) (.int .u64 (limb r 1 : Int))).set (i * 4 + 2) (.int .u64 (limb r 2 : Int))).set (i * 4 + 3) (.int .u64 (limb r 3 : Int))) := by
  refine h.store hc r (fun t _ => ?_)
  by_cases e : t = i
  · rw [if_pos e, if_pos ⟨by omega, by omega⟩, e, hx, hy, hr]
  · rw [if_neg e]
    by_cases l : t < i ∧ t < n2
    · rw [if_pos l, if_pos ⟨by omega, l.2⟩]
    · rw [if_neg l, if_neg (fun h => l ⟨by omega, h.2⟩)]
theorem padd_skip {m n n2 i : Nat} {xs ys : List Nat} {zs : List Value} (h : FRow n (fun t => if t < i ∧ t < n2 then addm m (xs.getD t 0) (ys.getD t 0) else xs.getD t 0) zs) (hi2 : ¬ i < n2) :
    FRow n (fun t => if t < i + 1 ∧ t < n2 then addm m (xs.getD t 0) (ys.getD t 0) else xs.getD t 0) zs := by
  refine h.congr (fun t _ => ?_)
  by_cases l : t < i ∧ t < n2
  · rw [if_pos l, if_pos ⟨by omega, l.2⟩]
  · rw [if_neg l, if_neg (fun h => l ⟨by omega, h.2⟩)]
set_option maxRecDepth 100000 in
set_option maxHeartbeats 1000000 in
theorem padd_ge (id : Int) (m inv o s n n2 capL capS : Nat) (aL aS : Option Addr) (xs ys : List Nat) (w : World) (hF : Hid (FieldOK m inv)) (hS : NumSl w (.slice aL n capL) xs) (hS2 : NumSl w (.slice aS n2 capS) ys) (hxs : ∀ y ∈ xs, y < m) (hys : ∀ y ∈ ys, y < m) (hn : xs.length = n) (hn2 : ys.length = n2) (hl : n < 1000000) (hm : ¬ n < n2) :
    Calls Tryd.prog 79 #[.pointer none, fld id m inv o s, .slice aL n capL, .slice aS n2 capS] w (RetOwn 29 4 n (nums (paddV m xs ys)) w) := by
  have hm2 := hF.out.2.1
  have hle : n2 ≤ n := by omega
  have hga : n ≠ 0 → ∀ ad, aL = some ad → ad.block < w.heap.size := fun hn0 ad h => by
    have hS' := hS
    obtain ⟨a', c', e, _, hr⟩ := hS'
    simp only [Value.slice.injEq] at e
    obtain ⟨rfl, _, _⟩ := e
    rcases hr with h0 | ⟨g, off, rfl, he⟩
    · rw [h0] at hn; exact absurd hn.symm hn0
    · cases h
      obtain ⟨z, hz⟩ : ∃ z, xs[0]? = some z := ⟨xs[0]'(by omega), List.getElem?_eq_getElem _⟩
      exact World.block_lt_of_cell? w _ (he 0 z hz).2.1
  have hsh : ys = [] ∨ ∃ g off, aS = some ⟨g, off, none⟩ ∧ NumsAt w g off ys := by
    obtain ⟨a', c', e, _, hr⟩ := hS2
    simp only [Value.slice.injEq] at e
    obtain ⟨rfl, _, _⟩ := e
    exact hr
  have zW0 : ((w.alloc (.cells #[.int .i64 id, .int .u64 (limb m 0 : Int), .int .u64 (limb m 1 : Int), .int .u64 (limb m 2 : Int), .int .u64 (limb m 3 : Int), .int .u64 (inv : Int), .int .u64 (limb o 0 : Int), .int .u64 (limb o 1 : Int), .int .u64 (limb o 2 : Int), .int .u64 (limb o 3 : Int), .int .u64 (limb s 0 : Int), .int .u64 (limb s 1 : Int), .int .u64 (limb s 2 : Int), .int .u64 (limb s 3 : Int)] 31)).alloc (.cells #[.slice aS n2 capS] 34)).heap.size = w.heap.size + 1 + 1 := by simp
  have B0 : Below w.heap.size w ((w.alloc (.cells #[.int .i64 id, .int .u64 (limb m 0 : Int), .int .u64 (limb m 1 : Int), .int .u64 (limb m 2 : Int), .int .u64 (limb m 3 : Int), .int .u64 (inv : Int), .int .u64 (limb o 0 : Int), .int .u64 (limb o 1 : Int), .int .u64 (limb o 2 : Int), .int .u64 (limb o 3 : Int), .int .u64 (limb s 0 : Int), .int .u64 (limb s 1 : Int), .int .u64 (limb s 2 : Int), .int .u64 (limb s 3 : Int)] 31)).alloc (.cells #[.slice aS n2 capS] 34)) := by go_grown
  have f00 : Blk ((w.alloc (.cells #[.int .i64 id, .int .u64 (limb m 0 : Int), .int .u64 (limb m 1 : Int), .int .u64 (limb m 2 : Int), .int .u64 (limb m 3 : Int), .int .u64 (inv : Int), .int .u64 (limb o 0 : Int), .int .u64 (limb o 1 : Int), .int .u64 (limb o 2 : Int), .int .u64 (limb o 3 : Int), .int .u64 (limb s 0 : Int), .int .u64 (limb s 1 : Int), .int .u64 (limb s 2 : Int), .int .u64 (limb s 3 : Int)] 31)).alloc (.cells #[.slice aS n2 capS] 34)) w.heap.size 31 [.int .i64 id, .int .u64 (limb m 0 : Int), .int .u64 (limb m 1 : Int), .int .u64 (limb m 2 : Int), .int .u64 (limb m 3 : Int), .int .u64 (inv : Int), .int .u64 (limb o 0 : Int), .int .u64 (limb o 1 : Int), .int .u64 (limb o 2 : Int), .int .u64 (limb o 3 : Int), .int .u64 (limb s 0 : Int), .int .u64 (limb s 1 : Int), .int .u64 (limb s 2 : Int), .int .u64 (limb s 3 : Int)] := Blk.alloc (Blk.new rfl) _
  have b00 : Blk ((w.alloc (.cells #[.int .i64 id, .int .u64 (limb m 0 : Int), .int .u64 (limb m 1 : Int), .int .u64 (limb m 2 : Int), .int .u64 (limb m 3 : Int), .int .u64 (inv : Int), .int .u64 (limb o 0 : Int), .int .u64 (limb o 1 : Int), .int .u64 (limb o 2 : Int), .int .u64 (limb o 3 : Int), .int .u64 (limb s 0 : Int), .int .u64 (limb s 1 : Int), .int .u64 (limb s 2 : Int), .int .u64 (limb s 3 : Int)] 31)).alloc (.cells #[.slice aS n2 capS] 34)) (w.heap.size + 1) 34 [.slice aS n2 capS] := Blk.new (by simp)
  have S00 := hid (hS.below B0)
  have HSH := hid hsh
  have HXS := hid hxs
  have HYS := hid hys
  have HNL := hid hn
  have HN2 := hid hn2
  have c00 := b00.cell (i := 0) rfl
  have zb0 := b00.lt
  clear hS hS2 hsh hxs hys hn hn2
  have HM := hid hm
  have hmi : ¬ (n : Int) < (n2 : Int) := by omega
  clear hm
  refine (callsIn_wide (n := 9)).1 ?_
  refine callsIn_of_wp_marks Tryd.func79 rfl trivial ?_ rfl
  simp only [Tryd.ntmps79, List.size_toArray, List.length_cons, List.length_nil, Nat.reduceAdd, Nat.reduceSub, Array.replicate_succ, Array.replicate_zero, List.push_toArray, List.append_toArray, List.nil_append, List.cons_append]
  gi_wp2_with (first | (refine ⟨trivial, ?_⟩; gi_at_call 111; refine (callsIn_wide.2 (clone_any (.slice aL n capL) xs _ S00.out (by rw [HNL.out]; exact hl))).mono ?_; rintro e wq ⟨vc, rfl, hoc, bc⟩; rw [zW0, HNL.out] at hoc; obtain ⟨ac, cc, rfl, _, hacL, hacS⟩ := owns_form hoc; have hHS := hid hacS; have HACL := hid hacL; have Bq := hid (B0.trans (bc.mono B0.size)); have f0 := Blk.keep f00 bc; have b0 := Blk.keep b00 bc; have zq : w.heap.size + 1 < wq.heap.size := b0.lt; have SQ := hid (S00.out.below bc); have HOC := hid hoc; clear c00 zb0 f00 b00 B0 bc zW0 hacS hacL hoc; have b0c := b0.cell (i := 0) rfl) | (refine ⟨trivial, ?_⟩; gi_at_call 113; refine (callsIn_wide.2 (all_any aL n capL _)).mono ?_; rintro e w' ⟨rfl, rfl⟩) | (refine ⟨trivial, ?_⟩; gi_at_call 112; refine (callsIn_wide.2 (visit_any none 136 _ _)).mono ?_; rintro e w' ⟨rfl, rfl⟩))
  have G5 : Grow wq.heap.size wq ((((wq.alloc (.cells #[.slice ac n cc] 34)).alloc (.cells #[.slice aL n capL] 34)).alloc (.cells #[.pointer none] 53)).alloc (.cells #[.func (.func 136) #[] #[ptr' (wq.heap.size + 1)]] 160)) := ((((Grow.refl _ wq).alloc _).alloc _).alloc _).alloc _
  have q5 : Blk ((((wq.alloc (.cells #[.slice ac n cc] 34)).alloc (.cells #[.slice aL n capL] 34)).alloc (.cells #[.pointer none] 53)).alloc (.cells #[.func (.func 136) #[] #[ptr' (wq.heap.size + 1)]] 160)) wq.heap.size 34 [.slice ac n cc] := Blk.alloc (Blk.alloc (Blk.alloc (Blk.new rfl) _) _) _
  have s5 : Blk ((((wq.alloc (.cells #[.slice ac n cc] 34)).alloc (.cells #[.slice aL n capL] 34)).alloc (.cells #[.pointer none] 53)).alloc (.cells #[.func (.func 136) #[] #[ptr' (wq.heap.size + 1)]] 160)) (wq.heap.size + 1) 34 [.slice aL n capL] := Blk.alloc (Blk.alloc (Blk.new (by simp)) _) _
  have t5 : Blk ((((wq.alloc (.cells #[.slice ac n cc] 34)).alloc (.cells #[.slice aL n capL] 34)).alloc (.cells #[.pointer none] 53)).alloc (.cells #[.func (.func 136) #[] #[ptr' (wq.heap.size + 1)]] 160)) (wq.heap.size + 1 + 1) 53 [.pointer none] := Blk.alloc (Blk.new (by simp)) _
  have l5 : Blk ((((wq.alloc (.cells #[.slice ac n cc] 34)).alloc (.cells #[.slice aL n capL] 34)).alloc (.cells #[.pointer none] 53)).alloc (.cells #[.func (.func 136) #[] #[ptr' (wq.heap.size + 1)]] 160)) (wq.heap.size + 1 + 1 + 1) 160 [.func (.func 136) #[] #[ptr' (wq.heap.size + 1)]] := Blk.new (by simp)
  have z5 : ((((wq.alloc (.cells #[.slice ac n cc] 34)).alloc (.cells #[.slice aL n capL] 34)).alloc (.cells #[.pointer none] 53)).alloc (.cells #[.func (.func 136) #[] #[ptr' (wq.heap.size + 1)]] 160)).heap.size = wq.heap.size + 4 := by simp
  generalize ((((wq.alloc (.cells #[.slice ac n cc] 34)).alloc (.cells #[.slice aL n capL] 34)).alloc (.cells #[.pointer none] 53)).alloc (.cells #[.func (.func 136) #[] #[ptr' (wq.heap.size + 1)]] 160)) = w5 at *
  have hP0 : VisS (wq.heap.size + 1 + 1 + 1) (wq.heap.size + 1 + 1) 136 #[ptr' (wq.heap.size + 1)] w5 ∧ BackS (wq.heap.size + 1) (.slice aL n capL) xs w5 := ⟨⟨l5, t5⟩, s5, SQ.out.grow G5⟩
  have B5 : Below w.heap.size w w5 := Below.behind Bq.out (Nat.le_refl _) G5 (by omega)
  have f5 := f0.grow G5
  have b5 := b0.grow G5
  have o5 := owns_grow HOC.out G5
  have hqr : FRow n (fun t => if t < ([] : List (Nat × Nat)).length ∧ t < n2 then addm m (xs.getD t 0) (ys.getD t 0) else xs.getD t 0) (nums xs) := by
    have q := FRow.of xs
    rw [HNL.out] at q
    exact q.congr (fun t _ => by rw [if_neg (fun h => Nat.not_lt_zero _ h.1)])
  have HGA0 := hid hga
  clear hga b0c
  refine wpIn_every (gf := 135) (lb := #[ptr' (wq.heap.size + 1 + 1 + 1), ptr' (wq.heap.size + 1 + 1)]) (encs := pairV) (xs := ups xs)
    (Kp := fun A B => (VisS (wq.heap.size + 1 + 1 + 1) (wq.heap.size + 1 + 1) 136 #[ptr' (wq.heap.size + 1)] A ∧ BackS (wq.heap.size + 1) (.slice aL n capL) xs A → VisS (wq.heap.size + 1 + 1 + 1) (wq.heap.size + 1 + 1) 136 #[ptr' (wq.heap.size + 1)] B ∧ BackS (wq.heap.size + 1) (.slice aL n capL) xs B) ∧ Keeps w5.heap.size A B)
    rfl (enters_of Tryd.func135 (by kernel_rfl) rfl)
    (fun W hg => visit_seq _ _ _ _ (BackS (wq.heap.size + 1) (.slice aL n capL) xs) (ups xs) W w5.heap.size hg.size (enters_of Tryd.func136 (by kernel_rfl) rfl) (hP0.1.grow hg) (hP0.2.grow hg) (fun B A A' h k => h.grow k) (fun W' hq => all_seq _ _ xs W' hq (by rw [HNL.out]; omega)))
    (fun h k => ⟨fun p => k.1 (h.1 p), h.2.trans k.2⟩) (fun A B hg => ⟨fun p => ⟨p.1.grow hg, p.2.grow hg⟩, hg.keeps _⟩) (fun _ => rfl)
    (fun pre W => Blk W w.heap.size 31 [.int .i64 id, .int .u64 (limb m 0 : Int), .int .u64 (limb m 1 : Int), .int .u64 (limb m 2 : Int), .int .u64 (limb m 3 : Int), .int .u64 (inv : Int), .int .u64 (limb o 0 : Int), .int .u64 (limb o 1 : Int), .int .u64 (limb o 2 : Int), .int .u64 (limb o 3 : Int), .int .u64 (limb s 0 : Int), .int .u64 (limb s 1 : Int), .int .u64 (limb s 2 : Int), .int .u64 (limb s 3 : Int)] ∧ Blk W (w.heap.size + 1) 34 [.slice aS n2 capS] ∧ Blk W wq.heap.size 34 [.slice ac n cc] ∧ (∃ zs, W.ownsRow (w.heap.size + 1 + 1) 29 4 (.slice ac n cc) n zs ∧ FRow n (fun t => if t < pre.length ∧ t < n2 then addm m (xs.getD t 0) (ys.getD t 0) else xs.getD t 0) zs) ∧ Below w.heap.size w W ∧ w5.heap.size ≤ W.heap.size)
    (fun _ _ _ => False)
    (fun pre A B h g => by
      obtain ⟨h1, h2, h4, ⟨ys, h6, h7⟩, h8, h9⟩ := h
      exact ⟨h1.grow g, h2.grow g, h4.grow g, ⟨ys, owns_grow h6 g, h7⟩, Below.behind h8 (Nat.le_refl _) g (by omega), Nat.le_trans h9 g.size⟩)
    (fun _ _ _ _ h _ => h) ⟨f5, b5, q5, ⟨_, o5, hqr⟩, B5, Nat.le_refl _⟩ ?round ?done ?stop
  case round =>
    rintro lm l pre ⟨i, y0⟩ W ⟨h1, h2, h4, ⟨zs, h6, h7⟩, h8, h9⟩ hpre hl9
    obtain ⟨hget, hpt⟩ := pre_take hpre
    obtain ⟨hy, hik⟩ := ups_at hget
    have hin : i < n := by have := (List.getElem?_eq_some_iff.1 hy).1; have := HNL.out; omega
    have HIK := hid hik
    have HQR := hid h7
    have HB8 := hid h8
    have HP0 := hid hP0
    have HGA := hid (HGA0.out (by omega))
    obtain ⟨gq, rfl⟩ := hHS.out (by omega)
    have zgq0 : w.heap.size + 1 + 1 ≤ gq ∧ gq < wq.heap.size := by obtain ⟨g9, e9, h91, h92⟩ := HACL.out _ rfl; cases e9; exact ⟨h91, h92⟩
    obtain ⟨zgq, zgw⟩ := zgq0
    clear hik f0 b0 G5 q5 s5 t5 l5 B5 f5 b5 o5 hqr h7 h8 hy hget hpt hpre hP0
    simp only [pairV]
    gi_wp2
    refine ⟨(Only.refl (fun _ => True) W).low _ _, fun W2 hg => ?_⟩
    have G2 : Grow w5.heap.size W W2 := hg
    have df := h1.grow G2
    have db := h2.grow G2
    have dq := h4.grow G2
    have do' := owns_grow h6 G2
    have zz2 : w5.heap.size ≤ W2.heap.size := Nat.le_trans h9 G2.size
    have HB2 := hid (Below.behind HB8.out (Nat.le_refl _) G2 (by omega))
    have HG2 := hid G2
    clear h1 h2 h4 h6 hg G2
    have zb : w.heap.size ≤ W2.heap.size := HB2.out.size
    have f0 := df.cell (i := 0) rfl
    have f1 := df.cell (i := 1) rfl
    have f2 := df.cell (i := 2) rfl
    have f3 := df.cell (i := 3) rfl
    have f4 := df.cell (i := 4) rfl
    have f5 := df.cell (i := 5) rfl
    have f6 := df.cell (i := 6) rfl
    have f7 := df.cell (i := 7) rfl
    have f8 := df.cell (i := 8) rfl
    have f9 := df.cell (i := 9) rfl
    have f10 := df.cell (i := 10) rfl
    have f11 := df.cell (i := 11) rfl
    have f12 := df.cell (i := 12) rfl
    have f13 := df.cell (i := 13) rfl
    have b0 := db.cell (i := 0) rfl
    have q0 := dq.cell (i := 0) rfl
    have zf := df.lt
    have zbx := db.lt
    have zq2 := dq.lt
    by_cases hi2 : i < n2
    · obtain ⟨y, hy⟩ : ∃ y, ys[i]? = some y := ⟨ys[i]'(by rw [HN2.out]; exact hi2), List.getElem?_eq_getElem _⟩
      obtain ⟨gs, os, rfl, hat⟩ : ∃ g off, aS = some ⟨g, off, none⟩ ∧ NumsAt w g off ys := by
        rcases HSH.out with h | h
        · rw [h] at hy; cases hy
        · exact h
      have hym := HYS.out y (List.mem_of_getElem? hy)
      have HYD := hid (show ys.getD i 0 = y from getD_some hy)
      obtain ⟨_, e0, e1, e2, e3⟩ := hat i y hy
      have hgs : gs < w.heap.size := World.block_lt_of_cell? w _ e0
      have hgr := Nat.lt_of_lt_of_le hgs zb
      have d0 := (HB2.out.cell (p := ⟨gs, os + i * 4, none⟩) hgs).trans e0
      have d1 := (HB2.out.cell (p := ⟨gs, os + i * 4 + 1, none⟩) hgs).trans e1
      have d2 := (HB2.out.cell (p := ⟨gs, os + i * 4 + 2, none⟩) hgs).trans e2
      have d3 := (HB2.out.cell (p := ⟨gs, os + i * 4 + 3, none⟩) hgs).trans e3
      obtain ⟨x, hx⟩ : ∃ x, xs.getD i 0 = x := ⟨_, rfl⟩
      have hxm : x < m := by rw [← hx]; exact getD_lt (by omega) HXS.out i
      have HXD := hid hx
      have M1 := hid (madd_any id m inv o s x y hF.out.1 hxm hym)
      have hrow : ∀ j, j < 4 → zs[i * 4 + j]? = some (.int .u64 (limb x j : Int)) := fun j hj => by
        have q := HQR.out.2 i j hin hj
        rw [← HIK.out] at q
        dsimp only at q
        rw [if_neg (fun h => Nat.lt_irrefl _ h.1), HXD.out] at q
        exact q
      have r0 : W2.cell? ⟨gq, i * 4, none⟩ = some (.int .u64 (limb x 0 : Int)) := (do'.cellAt (i * 4) (by omega)).trans (hrow 0 (by omega))
      have r1 : W2.cell? ⟨gq, i * 4 + 1, none⟩ = some (.int .u64 (limb x 1 : Int)) := (do'.cellAt (i * 4 + 1) (by omega)).trans (hrow 1 (by omega))
      have r2 : W2.cell? ⟨gq, i * 4 + 2, none⟩ = some (.int .u64 (limb x 2 : Int)) := (do'.cellAt (i * 4 + 2) (by omega)).trans (hrow 2 (by omega))
      have r3 : W2.cell? ⟨gq, i * 4 + 3, none⟩ = some (.int .u64 (limb x 3 : Int)) := (do'.cellAt (i * 4 + 3) (by omega)).trans (hrow 3 (by omega))
      have zgq2 : gq < W2.heap.size := (do'.lt _ rfl).2
      have HROW := hid hrow
      clear hrow e0 e1 e2 e3 hat hy hx
      gi_wp2
      refine wpIn_round_soft (C := fun W' => Below W2.heap.size W2 W') 12 (by kernel_rfl) (by kernel_rfl) (by kernel_rfl) ((Below.refl _ _).drew) ?_
      simp only [List.take_succ_cons, List.take_zero, List.drop_succ_cons, List.drop_zero]
      refine wpQuiet_step (fun K hK => ?_)
      rw [if_pos (by rfl)]
      refine ⟨.slice (some ⟨gq, 0, none⟩) n cc, fun W' hW => ?_, hK _ ?_⟩
      · have e0 := (hW.cell (p := ⟨wq.heap.size, 0, none⟩) zq2).trans q0
        go_simp
      clear hK K
      simp only [Act.put, List.setIfInBounds_toArray, List.set_cons_zero, List.set_cons_succ]
      refine wpQuiet_step (fun K hK => ?_)
      rw [if_pos (by rfl)]
      refine ⟨.int .i64 (i : Int), fun W' hW => ?_, hK _ ?_⟩
      · go_simp
      clear hK K
      simp only [Act.put, List.setIfInBounds_toArray, List.set_cons_zero, List.set_cons_succ]
      refine wpQuiet_step (fun K hK => ?_)
      rw [if_pos (by rfl)]
      refine ⟨fld id m inv o s, fun W' hW => ?_, hK _ ?_⟩
      · have e0 := (hW.cell (p := ⟨w.heap.size, 0, none⟩) zf).trans f0
        have e1 := (hW.cell (p := ⟨w.heap.size, 1, none⟩) zf).trans f1
        have e2 := (hW.cell (p := ⟨w.heap.size, 2, none⟩) zf).trans f2
        have e3 := (hW.cell (p := ⟨w.heap.size, 3, none⟩) zf).trans f3
        have e4 := (hW.cell (p := ⟨w.heap.size, 4, none⟩) zf).trans f4
        have e5 := (hW.cell (p := ⟨w.heap.size, 5, none⟩) zf).trans f5
        have e6 := (hW.cell (p := ⟨w.heap.size, 6, none⟩) zf).trans f6
        have e7 := (hW.cell (p := ⟨w.heap.size, 7, none⟩) zf).trans f7
        have e8 := (hW.cell (p := ⟨w.heap.size, 8, none⟩) zf).trans f8
        have e9 := (hW.cell (p := ⟨w.heap.size, 9, none⟩) zf).trans f9
        have e10 := (hW.cell (p := ⟨w.heap.size, 10, none⟩) zf).trans f10
        have e11 := (hW.cell (p := ⟨w.heap.size, 11, none⟩) zf).trans f11
        have e12 := (hW.cell (p := ⟨w.heap.size, 12, none⟩) zf).trans f12
        have e13 := (hW.cell (p := ⟨w.heap.size, 13, none⟩) zf).trans f13
        go_simp
      clear hK K
      simp only [Act.put, List.setIfInBounds_toArray, List.set_cons_zero, List.set_cons_succ]
      refine wpQuiet_step (fun K hK => ?_)
      rw [if_pos (by rfl)]
      refine ⟨.slice (some ⟨gq, 0, none⟩) n cc, fun W' hW => ?_, hK _ ?_⟩
      · have e0 := (hW.cell (p := ⟨wq.heap.size, 0, none⟩) zq2).trans q0
        go_simp
      clear hK K
      simp only [Act.put, List.setIfInBounds_toArray, List.set_cons_zero, List.set_cons_succ]
      refine wpQuiet_step (fun K hK => ?_)
      rw [if_pos (by rfl)]
      refine ⟨.int .i64 (i : Int), fun W' hW => ?_, hK _ ?_⟩
      · go_simp
      clear hK K
      simp only [Act.put, List.setIfInBounds_toArray, List.set_cons_zero, List.set_cons_succ]
      refine wpQuiet_step (fun K hK => ?_)
      rw [if_pos (by rfl)]
      refine ⟨.pointer (some ⟨gq, i * 4, none⟩), fun W' hW => ?_, hK _ ?_⟩
      · go_simp
      clear hK K
      simp only [Act.put, List.setIfInBounds_toArray, List.set_cons_zero, List.set_cons_succ]
      refine wpQuiet_step (fun K hK => ?_)
      rw [if_pos (by rfl)]
      refine ⟨vec x, fun W' hW => ?_, hK _ ?_⟩
      · have e0 := (hW.cell (p := ⟨gq, i * 4, none⟩) zgq2).trans r0
        have e1 := (hW.cell (p := ⟨gq, i * 4 + 1, none⟩) zgq2).trans r1
        have e2 := (hW.cell (p := ⟨gq, i * 4 + 2, none⟩) zgq2).trans r2
        have e3 := (hW.cell (p := ⟨gq, i * 4 + 3, none⟩) zgq2).trans r3
        go_simp
      clear hK K
      simp only [Act.put, List.setIfInBounds_toArray, List.set_cons_zero, List.set_cons_succ]
      refine wpQuiet_step (fun K hK => ?_)
      rw [if_pos (by rfl)]
      refine ⟨.slice (some ⟨gs, os, none⟩) n2 capS, fun W' hW => ?_, hK _ ?_⟩
      · have e0 := (hW.cell (p := ⟨w.heap.size + 1, 0, none⟩) zbx).trans b0
        go_simp
      clear hK K
      simp only [Act.put, List.setIfInBounds_toArray, List.set_cons_zero, List.set_cons_succ]
      refine wpQuiet_step (fun K hK => ?_)
      rw [if_pos (by rfl)]
      refine ⟨.int .i64 (i : Int), fun W' hW => ?_, hK _ ?_⟩
      · go_simp
      clear hK K
      simp only [Act.put, List.setIfInBounds_toArray, List.set_cons_zero, List.set_cons_succ]
      refine wpQuiet_step (fun K hK => ?_)
      rw [if_pos (by rfl)]
      refine ⟨.pointer (some ⟨gs, os + i * 4, none⟩), fun W' hW => ?_, hK _ ?_⟩
      · go_simp
      clear hK K
      simp only [Act.put, List.setIfInBounds_toArray, List.set_cons_zero, List.set_cons_succ]
      refine wpQuiet_step (fun K hK => ?_)
      rw [if_pos (by rfl)]
      refine ⟨vec y, fun W' hW => ?_, hK _ ?_⟩
      · have e0 := (hW.cell (p := ⟨gs, os + i * 4, none⟩) hgr).trans d0
        have e1 := (hW.cell (p := ⟨gs, os + i * 4 + 1, none⟩) hgr).trans d1
        have e2 := (hW.cell (p := ⟨gs, os + i * 4 + 2, none⟩) hgr).trans d2
        have e3 := (hW.cell (p := ⟨gs, os + i * 4 + 3, none⟩) hgr).trans d3
        go_simp
      clear hK K
      simp only [Act.put, List.setIfInBounds_toArray, List.set_cons_zero, List.set_cons_succ]
      refine wpQuiet_step (fun K hK => ?_)
      rw [if_pos (by rfl)]
      refine ⟨vec (addm m x y), fun W' hW => ?_, hK _ ?_⟩
      · go_simp
        refine (M1.out _).mono ?_
        rintro e w' ⟨rfl, b⟩
        exact ⟨rfl, hW.trans (b.mono hW.size)⟩
      clear hK K
      simp only [Act.put, List.setIfInBounds_toArray, List.set_cons_zero, List.set_cons_succ]
      refine wpQuiet_nil ?_
      intro W3 hW3
      have zb3 := hW3.size
      obtain ⟨r2, hr2⟩ : ∃ r2, addm m x y = r2 := ⟨_, rfl⟩
      have HR2 := hid hr2
      rw [hr2]
      clear hr2
      have lo := owns_keep do' hW3
      have t0 := (lo.cellAt (i * 4) (by omega)).trans (HROW.out 0 (by omega))
      have t1 := (lo.cellAt (i * 4 + 1) (by omega)).trans (HROW.out 1 (by omega))
      have t2 := (lo.cellAt (i * 4 + 2) (by omega)).trans (HROW.out 2 (by omega))
      have t3 := (lo.cellAt (i * 4 + 3) (by omega)).trans (HROW.out 3 (by omega))
      have u0 := lo.frozenAt (i * 4)
      have u1 := lo.frozenAt (i * 4 + 1)
      have u2 := lo.frozenAt (i * 4 + 2)
      have u3 := lo.frozenAt (i * 4 + 3)
      have zlo : gq < W3.heap.size := (lo.lt _ rfl).2
      have hjc : (i : Int) < (n : Int) := by omega
      gi_wp2
      have O3 := (Below.only hW3 (fun k => k = gq))
      have OE := (((O3.setCell (p := ⟨gq, i * 4, none⟩) (.inl rfl) (.int .u64 (limb r2 0 : Int))).setCell (p := ⟨gq, i * 4 + 1, none⟩) (.inl rfl) (.int .u64 (limb r2 1 : Int))).setCell (p := ⟨gq, i * 4 + 2, none⟩) (.inl rfl) (.int .u64 (limb r2 2 : Int))).setCell (p := ⟨gq, i * 4 + 3, none⟩) (.inl rfl) (.int .u64 (limb r2 3 : Int))
      have KP : ∀ p, _ := fun p : VisS (wq.heap.size + 1 + 1 + 1) (wq.heap.size + 1 + 1) 136 #[ptr' (wq.heap.size + 1)] W ∧ BackS (wq.heap.size + 1) (.slice aL n capL) xs W => (⟨⟨(p.1.grow HG2.out).1.only OE (by omega), (p.1.grow HG2.out).2.only OE (by omega)⟩, (p.2.grow HG2.out).1.only OE (by omega), (p.2.grow HG2.out).2.only OE (fun ad h => by have := HGA.out ad h; omega)⟩ : VisS (wq.heap.size + 1 + 1 + 1) (wq.heap.size + 1 + 1) 136 #[ptr' (wq.heap.size + 1)] _ ∧ BackS (wq.heap.size + 1) (.slice aL n capL) xs _)
      exact ⟨OE.low _ _, ⟨by first | exact KP | exact fun p q => KP ⟨p, q⟩, (HG2.out.keeps _).trans (OE.keeps (fun k h => by omega))⟩, df.only OE (by omega), db.only OE (by omega), dq.only OE (by omega), ⟨_, ((((lo.stored (i * 4) _).1.stored (i * 4 + 1) _).1.stored (i * 4 + 2) _).1.stored (i * 4 + 3) _).1, by rw [List.length_append]; have q := HQR.out; rw [← HIK.out] at q ⊢; exact padd_store q (by omega) hi2 HXD.out HYD.out HR2.out⟩, HB2.out.trans (OE.below (fun k h => by omega) (by omega)), by have := OE.size; omega⟩
    · gi_wp2
      have OE := Only.refl (fun k => k = gq) W2
      have KP : ∀ p, _ := fun p : VisS (wq.heap.size + 1 + 1 + 1) (wq.heap.size + 1 + 1) 136 #[ptr' (wq.heap.size + 1)] W ∧ BackS (wq.heap.size + 1) (.slice aL n capL) xs W => (⟨⟨(p.1.grow HG2.out).1.only OE (by omega), (p.1.grow HG2.out).2.only OE (by omega)⟩, (p.2.grow HG2.out).1.only OE (by omega), (p.2.grow HG2.out).2.only OE (fun ad h => by have := HGA.out ad h; omega)⟩ : VisS (wq.heap.size + 1 + 1 + 1) (wq.heap.size + 1 + 1) 136 #[ptr' (wq.heap.size + 1)] _ ∧ BackS (wq.heap.size + 1) (.slice aL n capL) xs _)
      exact ⟨OE.low _ _, ⟨by first | exact KP | exact fun p q => KP ⟨p, q⟩, (HG2.out.keeps _).trans (OE.keeps (fun k h => by omega))⟩, df, db, dq, ⟨_, do', by rw [List.length_append]; have q := HQR.out; rw [← HIK.out] at q ⊢; exact padd_skip q hi2⟩, HB2.out, by omega⟩
  case done =>
    rintro D W hD ⟨h1, h2, h4, ⟨zs, h6, h7⟩, h8, h9⟩ hK
    have k0 := h4.cell (i := 0) rfl
    have zk := h4.lt
    gi_wp2
    refine ⟨by simp, .inl ⟨_, _, rfl, run_takeDeferred hK, ?_⟩⟩
    have hg := (Grow.refl w5.heap.size _).putObj (.deferred none) hD hK rfl
    refine ⟨.slice ac n cc, by simp only [results, Tryd.results79]; go_simp, ?_⟩
    refine ⟨_, rfl, ?_, Below.behind h8 (Nat.le_refl _) hg (by omega)⟩
    have e1 : zs = nums (paddV m xs ys) := by
      rw [ups_len, HNL.out] at h7
      unfold paddV
      rw [HNL.out, HN2.out, Nat.max_eq_left hle]
      refine (h7.congr (fun t ht => ?_)).done
      by_cases e : t < n2
      · rw [if_pos ⟨ht, e⟩]
      · rw [if_neg (fun h => e h.2), getD_none (xs := ys) (by rw [HN2.out]; omega), addm_zero (getD_lt (by omega) HXS.out t)]
    rw [← e1]
    exact owns_grow (owns_mono h6 (by omega)) hg
  case stop => exact fun _ _ _ _ _ _ h _ => h.elim
set_option maxRecDepth 100000 in
set_option maxHeartbeats 1000000 in
theorem padd_lt (id : Int) (m inv o s n n2 capL capS : Nat) (aL aS : Option Addr) (xs ys : List Nat) (w : World) (hF : Hid (FieldOK m inv)) (hS : NumSl w (.slice aL n capL) xs) (hS2 : NumSl w (.slice aS n2 capS) ys) (hxs : ∀ y ∈ xs, y < m) (hys : ∀ y ∈ ys, y < m) (hn : xs.length = n) (hn2 : ys.length = n2) (hl : n < 1000000) (hm : n2 < n) :
    Calls Tryd.prog 79 #[.pointer none, fld id m inv o s, .slice aS n2 capS, .slice aL n capL] w (RetOwn 29 4 n (nums (paddV m xs ys)) w) := by
  have hm2 := hF.out.2.1
  have hle : n2 ≤ n := by omega
  have hga : n ≠ 0 → ∀ ad, aL = some ad → ad.block < w.heap.size := fun hn0 ad h => by
    have hS' := hS
    obtain ⟨a', c', e, _, hr⟩ := hS'
    simp only [Value.slice.injEq] at e
    obtain ⟨rfl, _, _⟩ := e
    rcases hr with h0 | ⟨g, off, rfl, he⟩
    · rw [h0] at hn; exact absurd hn.symm hn0
    · cases h
      obtain ⟨z, hz⟩ : ∃ z, xs[0]? = some z := ⟨xs[0]'(by omega), List.getElem?_eq_getElem _⟩
      exact World.block_lt_of_cell? w _ (he 0 z hz).2.1
  have hsh : ys = [] ∨ ∃ g off, aS = some ⟨g, off, none⟩ ∧ NumsAt w g off ys := by
    obtain ⟨a', c', e, _, hr⟩ := hS2
    simp only [Value.slice.injEq] at e
    obtain ⟨rfl, _, _⟩ := e
    exact hr
  have zW0 : ((w.alloc (.cells #[.int .i64 id, .int .u64 (limb m 0 : Int), .int .u64 (limb m 1 : Int), .int .u64 (limb m 2 : Int), .int .u64 (limb m 3 : Int), .int .u64 (inv : Int), .int .u64 (limb o 0 : Int), .int .u64 (limb o 1 : Int), .int .u64 (limb o 2 : Int), .int .u64 (limb o 3 : Int), .int .u64 (limb s 0 : Int), .int .u64 (limb s 1 : Int), .int .u64 (limb s 2 : Int), .int .u64 (limb s 3 : Int)] 31)).alloc (.cells #[.slice aS n2 capS] 34)).heap.size = w.heap.size + 1 + 1 := by simp
  have B0 : Below w.heap.size w ((w.alloc (.cells #[.int .i64 id, .int .u64 (limb m 0 : Int), .int .u64 (limb m 1 : Int), .int .u64 (limb m 2 : Int), .int .u64 (limb m 3 : Int), .int .u64 (inv : Int), .int .u64 (limb o 0 : Int), .int .u64 (limb o 1 : Int), .int .u64 (limb o 2 : Int), .int .u64 (limb o 3 : Int), .int .u64 (limb s 0 : Int), .int .u64 (limb s 1 : Int), .int .u64 (limb s 2 : Int), .int .u64 (limb s 3 : Int)] 31)).alloc (.cells #[.slice aS n2 capS] 34)) := by go_grown
  have f00 : Blk ((w.alloc (.cells #[.int .i64 id, .int .u64 (limb m 0 : Int), .int .u64 (limb m 1 : Int), .int .u64 (limb m 2 : Int), .int .u64 (limb m 3 : Int), .int .u64 (inv : Int), .int .u64 (limb o 0 : Int), .int .u64 (limb o 1 : Int), .int .u64 (limb o 2 : Int), .int .u64 (limb o 3 : Int), .int .u64 (limb s 0 : Int), .int .u64 (limb s 1 : Int), .int .u64 (limb s 2 : Int), .int .u64 (limb s 3 : Int)] 31)).alloc (.cells #[.slice aS n2 capS] 34)) w.heap.size 31 [.int .i64 id, .int .u64 (limb m 0 : Int), .int .u64 (limb m 1 : Int), .int .u64 (limb m 2 : Int), .int .u64 (limb m 3 : Int), .int .u64 (inv : Int), .int .u64 (limb o 0 : Int), .int .u64 (limb o 1 : Int), .int .u64 (limb o 2 : Int), .int .u64 (limb o 3 : Int), .int .u64 (limb s 0 : Int), .int .u64 (limb s 1 : Int), .int .u64 (limb s 2 : Int), .int .u64 (limb s 3 : Int)] := Blk.alloc (Blk.new rfl) _
  have b00 : Blk ((w.alloc (.cells #[.int .i64 id, .int .u64 (limb m 0 : Int), .int .u64 (limb m 1 : Int), .int .u64 (limb m 2 : Int), .int .u64 (limb m 3 : Int), .int .u64 (inv : Int), .int .u64 (limb o 0 : Int), .int .u64 (limb o 1 : Int), .int .u64 (limb o 2 : Int), .int .u64 (limb o 3 : Int), .int .u64 (limb s 0 : Int), .int .u64 (limb s 1 : Int), .int .u64 (limb s 2 : Int), .int .u64 (limb s 3 : Int)] 31)).alloc (.cells #[.slice aS n2 capS] 34)) (w.heap.size + 1) 34 [.slice aS n2 capS] := Blk.new (by simp)
  have S00 := hid (hS.below B0)
  have HSH := hid hsh
  have HXS := hid hxs
  have HYS := hid hys
  have HNL := hid hn
  have HN2 := hid hn2
  have c00 := b00.cell (i := 0) rfl
  have zb0 := b00.lt
  clear hS hS2 hsh hxs hys hn hn2
  have HM := hid hm
  have hmi : (n2 : Int) < (n : Int) := by omega
  clear hm
  refine (callsIn_wide (n := 9)).1 ?_
  refine callsIn_of_wp_marks Tryd.func79 rfl trivial ?_ rfl
  simp only [Tryd.ntmps79, List.size_toArray, List.length_cons, List.length_nil, Nat.reduceAdd, Nat.reduceSub, Array.replicate_succ, Array.replicate_zero, List.push_toArray, List.append_toArray, List.nil_append, List.cons_append]
  gi_wp2_with (first | (refine ⟨trivial, ?_⟩; gi_at_call 111; refine (callsIn_wide.2 (clone_any (.slice aL n capL) xs _ S00.out (by rw [HNL.out]; exact hl))).mono ?_; rintro e wq ⟨vc, rfl, hoc, bc⟩; rw [zW0, HNL.out] at hoc; obtain ⟨ac, cc, rfl, _, hacL, hacS⟩ := owns_form hoc; have hHS := hid hacS; have HACL := hid hacL; have Bq := hid (B0.trans (bc.mono B0.size)); have f0 := Blk.keep f00 bc; have b0 := Blk.keep b00 bc; have zq : w.heap.size + 1 < wq.heap.size := b0.lt; have SQ := hid (S00.out.below bc); have HOC := hid hoc; clear c00 zb0 f00 b00 B0 bc zW0 hacS hacL hoc; have b0c := b0.cell (i := 0) rfl) | (refine ⟨trivial, ?_⟩; gi_at_call 113; refine (callsIn_wide.2 (all_any aL n capL _)).mono ?_; rintro e w' ⟨rfl, rfl⟩) | (refine ⟨trivial, ?_⟩; gi_at_call 112; refine (callsIn_wide.2 (visit_any none 136 _ _)).mono ?_; rintro e w' ⟨rfl, rfl⟩))
  have G5 : Grow wq.heap.size wq ((((wq.alloc (.cells #[.slice ac n cc] 34)).alloc (.cells #[.slice aL n capL] 34)).alloc (.cells #[.pointer none] 53)).alloc (.cells #[.func (.func 136) #[] #[ptr' (wq.heap.size + 1)]] 160)) := ((((Grow.refl _ wq).alloc _).alloc _).alloc _).alloc _
  have q5 : Blk ((((wq.alloc (.cells #[.slice ac n cc] 34)).alloc (.cells #[.slice aL n capL] 34)).alloc (.cells #[.pointer none] 53)).alloc (.cells #[.func (.func 136) #[] #[ptr' (wq.heap.size + 1)]] 160)) wq.heap.size 34 [.slice ac n cc] := Blk.alloc (Blk.alloc (Blk.alloc (Blk.new rfl) _) _) _
  have s5 : Blk ((((wq.alloc (.cells #[.slice ac n cc] 34)).alloc (.cells #[.slice aL n capL] 34)).alloc (.cells #[.pointer none] 53)).alloc (.cells #[.func (.func 136) #[] #[ptr' (wq.heap.size + 1)]] 160)) (wq.heap.size + 1) 34 [.slice aL n capL] := Blk.alloc (Blk.alloc (Blk.new (by simp)) _) _
  have t5 : Blk ((((wq.alloc (.cells #[.slice ac n cc] 34)).alloc (.cells #[.slice aL n capL] 34)).alloc (.cells #[.pointer none] 53)).alloc (.cells #[.func (.func 136) #[] #[ptr' (wq.heap.size + 1)]] 160)) (wq.heap.size + 1 + 1) 53 [.pointer none] := Blk.alloc (Blk.new (by simp)) _
  have l5 : Blk ((((wq.alloc (.cells #[.slice ac n cc] 34)).alloc (.cells #[.slice aL n capL] 34)).alloc (.cells #[.pointer none] 53)).alloc (.cells #[.func (.func 136) #[] #[ptr' (wq.heap.size + 1)]] 160)) (wq.heap.size + 1 + 1 + 1) 160 [.func (.func 136) #[] #[ptr' (wq.heap.size + 1)]] := Blk.new (by simp)
  have z5 : ((((wq.alloc (.cells #[.slice ac n cc] 34)).alloc (.cells #[.slice aL n capL] 34)).alloc (.cells #[.pointer none] 53)).alloc (.cells #[.func (.func 136) #[] #[ptr' (wq.heap.size + 1)]] 160)).heap.size = wq.heap.size + 4 := by simp
  generalize ((((wq.alloc (.cells #[.slice ac n cc] 34)).alloc (.cells #[.slice aL n capL] 34)).alloc (.cells #[.pointer none] 53)).alloc (.cells #[.func (.func 136) #[] #[ptr' (wq.heap.size + 1)]] 160)) = w5 at *
  have hP0 : VisS (wq.heap.size + 1 + 1 + 1) (wq.heap.size + 1 + 1) 136 #[ptr' (wq.heap.size + 1)] w5 ∧ BackS (wq.heap.size + 1) (.slice aL n capL) xs w5 := ⟨⟨l5, t5⟩, s5, SQ.out.grow G5⟩
  have B5 : Below w.heap.size w w5 := Below.behind Bq.out (Nat.le_refl _) G5 (by omega)
  have f5 := f0.grow G5
  have b5 := b0.grow G5
  have o5 := owns_grow HOC.out G5
  have hqr : FRow n (fun t => if t < ([] : List (Nat × Nat)).length ∧ t < n2 then addm m (xs.getD t 0) (ys.getD t 0) else xs.getD t 0) (nums xs) := by
    have q := FRow.of xs
    rw [HNL.out] at q
    exact q.congr (fun t _ => by rw [if_neg (fun h => Nat.not_lt_zero _ h.1)])
  have HGA0 := hid hga
  clear hga b0c
  refine wpIn_every (gf := 135) (lb := #[ptr' (wq.heap.size + 1 + 1 + 1), ptr' (wq.heap.size + 1 + 1)]) (encs := pairV) (xs := ups xs)
    (Kp := fun A B => (VisS (wq.heap.size + 1 + 1 + 1) (wq.heap.size + 1 + 1) 136 #[ptr' (wq.heap.size + 1)] A ∧ BackS (wq.heap.size + 1) (.slice aL n capL) xs A → VisS (wq.heap.size + 1 + 1 + 1) (wq.heap.size + 1 + 1) 136 #[ptr' (wq.heap.size + 1)] B ∧ BackS (wq.heap.size + 1) (.slice aL n capL) xs B) ∧ Keeps w5.heap.size A B)
    rfl (enters_of Tryd.func135 (by kernel_rfl) rfl)
    (fun W hg => visit_seq _ _ _ _ (BackS (wq.heap.size + 1) (.slice aL n capL) xs) (ups xs) W w5.heap.size hg.size (enters_of Tryd.func136 (by kernel_rfl) rfl) (hP0.1.grow hg) (hP0.2.grow hg) (fun B A A' h k => h.grow k) (fun W' hq => all_seq _ _ xs W' hq (by rw [HNL.out]; omega)))
    (fun h k => ⟨fun p => k.1 (h.1 p), h.2.trans k.2⟩) (fun A B hg => ⟨fun p => ⟨p.1.grow hg, p.2.grow hg⟩, hg.keeps _⟩) (fun _ => rfl)
    (fun pre W => Blk W w.heap.size 31 [.int .i64 id, .int .u64 (limb m 0 : Int), .int .u64 (limb m 1 : Int), .int .u64 (limb m 2 : Int), .int .u64 (limb m 3 : Int), .int .u64 (inv : Int), .int .u64 (limb o 0 : Int), .int .u64 (limb o 1 : Int), .int .u64 (limb o 2 : Int), .int .u64 (limb o 3 : Int), .int .u64 (limb s 0 : Int), .int .u64 (limb s 1 : Int), .int .u64 (limb s 2 : Int), .int .u64 (limb s 3 : Int)] ∧ Blk W (w.heap.size + 1) 34 [.slice aS n2 capS] ∧ Blk W wq.heap.size 34 [.slice ac n cc] ∧ (∃ zs, W.ownsRow (w.heap.size + 1 + 1) 29 4 (.slice ac n cc) n zs ∧ FRow n (fun t => if t < pre.length ∧ t < n2 then addm m (xs.getD t 0) (ys.getD t 0) else xs.getD t 0) zs) ∧ Below w.heap.size w W ∧ w5.heap.size ≤ W.heap.size)
    (fun _ _ _ => False)
    (fun pre A B h g => by
      obtain ⟨h1, h2, h4, ⟨ys, h6, h7⟩, h8, h9⟩ := h
      exact ⟨h1.grow g, h2.grow g, h4.grow g, ⟨ys, owns_grow h6 g, h7⟩, Below.behind h8 (Nat.le_refl _) g (by omega), Nat.le_trans h9 g.size⟩)
    (fun _ _ _ _ h _ => h) ⟨f5, b5, q5, ⟨_, o5, hqr⟩, B5, Nat.le_refl _⟩ ?round ?done ?stop
  case round =>
    rintro lm l pre ⟨i, y0⟩ W ⟨h1, h2, h4, ⟨zs, h6, h7⟩, h8, h9⟩ hpre hl9
    obtain ⟨hget, hpt⟩ := pre_take hpre
    obtain ⟨hy, hik⟩ := ups_at hget
    have hin : i < n := by have := (List.getElem?_eq_some_iff.1 hy).1; have := HNL.out; omega
    have HIK := hid hik
    have HQR := hid h7
    have HB8 := hid h8
    have HP0 := hid hP0
    have HGA := hid (HGA0.out (by omega))
    obtain ⟨gq, rfl⟩ := hHS.out (by omega)
    have zgq0 : w.heap.size + 1 + 1 ≤ gq ∧ gq < wq.heap.size := by obtain ⟨g9, e9, h91, h92⟩ := HACL.out _ rfl; cases e9; exact ⟨h91, h92⟩
    obtain ⟨zgq, zgw⟩ := zgq0
    clear hik f0 b0 G5 q5 s5 t5 l5 B5 f5 b5 o5 hqr h7 h8 hy hget hpt hpre hP0
    simp only [pairV]
    gi_wp2
    refine ⟨(Only.refl (fun _ => True) W).low _ _, fun W2 hg => ?_⟩
    have G2 : Grow w5.heap.size W W2 := hg
    have df := h1.grow G2
    have db := h2.grow G2
    have dq := h4.grow G2
    have do' := owns_grow h6 G2
    have zz2 : w5.heap.size ≤ W2.heap.size := Nat.le_trans h9 G2.size
    have HB2 := hid (Below.behind HB8.out (Nat.le_refl _) G2 (by omega))
    have HG2 := hid G2
    clear h1 h2 h4 h6 hg G2
    have zb : w.heap.size ≤ W2.heap.size := HB2.out.size
    have f0 := df.cell (i := 0) rfl
    have f1 := df.cell (i := 1) rfl
    have f2 := df.cell (i := 2) rfl
    have f3 := df.cell (i := 3) rfl
    have f4 := df.cell (i := 4) rfl
    have f5 := df.cell (i := 5) rfl
    have f6 := df.cell (i := 6) rfl
    have f7 := df.cell (i := 7) rfl
    have f8 := df.cell (i := 8) rfl
    have f9 := df.cell (i := 9) rfl
    have f10 := df.cell (i := 10) rfl
    have f11 := df.cell (i := 11) rfl
    have f12 := df.cell (i := 12) rfl
    have f13 := df.cell (i := 13) rfl
    have b0 := db.cell (i := 0) rfl
    have q0 := dq.cell (i := 0) rfl
    have zf := df.lt
    have zbx := db.lt
    have zq2 := dq.lt
    by_cases hi2 : i < n2
    · obtain ⟨y, hy⟩ : ∃ y, ys[i]? = some y := ⟨ys[i]'(by rw [HN2.out]; exact hi2), List.getElem?_eq_getElem _⟩
      obtain ⟨gs, os, rfl, hat⟩ : ∃ g off, aS = some ⟨g, off, none⟩ ∧ NumsAt w g off ys := by
        rcases HSH.out with h | h
        · rw [h] at hy; cases hy
        · exact h
      have hym := HYS.out y (List.mem_of_getElem? hy)
      have HYD := hid (show ys.getD i 0 = y from getD_some hy)
      obtain ⟨_, e0, e1, e2, e3⟩ := hat i y hy
      have hgs : gs < w.heap.size := World.block_lt_of_cell? w _ e0
      have hgr := Nat.lt_of_lt_of_le hgs zb
      have d0 := (HB2.out.cell (p := ⟨gs, os + i * 4, none⟩) hgs).trans e0
      have d1 := (HB2.out.cell (p := ⟨gs, os + i * 4 + 1, none⟩) hgs).trans e1
      have d2 := (HB2.out.cell (p := ⟨gs, os + i * 4 + 2, none⟩) hgs).trans e2
      have d3 := (HB2.out.cell (p := ⟨gs, os + i * 4 + 3, none⟩) hgs).trans e3
      obtain ⟨x, hx⟩ : ∃ x, xs.getD i 0 = x := ⟨_, rfl⟩
      have hxm : x < m := by rw [← hx]; exact getD_lt (by omega) HXS.out i
      have HXD := hid hx
      have M1 := hid (madd_any id m inv o s x y hF.out.1 hxm hym)
      have hrow : ∀ j, j < 4 → zs[i * 4 + j]? = some (.int .u64 (limb x j : Int)) := fun j hj => by
        have q := HQR.out.2 i j hin hj
        rw [← HIK.out] at q
        dsimp only at q
        rw [if_neg (fun h => Nat.lt_irrefl _ h.1), HXD.out] at q
        exact q
      have r0 : W2.cell? ⟨gq, i * 4, none⟩ = some (.int .u64 (limb x 0 : Int)) := (do'.cellAt (i * 4) (by omega)).trans (hrow 0 (by omega))
      have r1 : W2.cell? ⟨gq, i * 4 + 1, none⟩ = some (.int .u64 (limb x 1 : Int)) := (do'.cellAt (i * 4 + 1) (by omega)).trans (hrow 1 (by omega))
      have r2 : W2.cell? ⟨gq, i * 4 + 2, none⟩ = some (.int .u64 (limb x 2 : Int)) := (do'.cellAt (i * 4 + 2) (by omega)).trans (hrow 2 (by omega))
      have r3 : W2.cell? ⟨gq, i * 4 + 3, none⟩ = some (.int .u64 (limb x 3 : Int)) := (do'.cellAt (i * 4 + 3) (by omega)).trans (hrow 3 (by omega))
      have zgq2 : gq < W2.heap.size := (do'.lt _ rfl).2
      have HROW := hid hrow
      clear hrow e0 e1 e2 e3 hat hy hx
      gi_wp2
      refine wpIn_round_soft (C := fun W' => Below W2.heap.size W2 W') 12 (by kernel_rfl) (by kernel_rfl) (by kernel_rfl) ((Below.refl _ _).drew) ?_
      simp only [List.take_succ_cons, List.take_zero, List.drop_succ_cons, List.drop_zero]
      refine wpQuiet_step (fun K hK => ?_)
      rw [if_pos (by rfl)]
      refine ⟨.slice (some ⟨gq, 0, none⟩) n cc, fun W' hW => ?_, hK _ ?_⟩
      · have e0 := (hW.cell (p := ⟨wq.heap.size, 0, none⟩) zq2).trans q0
        go_simp
      clear hK K
      simp only [Act.put, List.setIfInBounds_toArray, List.set_cons_zero, List.set_cons_succ]
      refine wpQuiet_step (fun K hK => ?_)
      rw [if_pos (by rfl)]
      refine ⟨.int .i64 (i : Int), fun W' hW => ?_, hK _ ?_⟩
      · go_simp
      clear hK K
      simp only [Act.put, List.setIfInBounds_toArray, List.set_cons_zero, List.set_cons_succ]
      refine wpQuiet_step (fun K hK => ?_)
      rw [if_pos (by rfl)]
      refine ⟨fld id m inv o s, fun W' hW => ?_, hK _ ?_⟩
      · have e0 := (hW.cell (p := ⟨w.heap.size, 0, none⟩) zf).trans f0
        have e1 := (hW.cell (p := ⟨w.heap.size, 1, none⟩) zf).trans f1
        have e2 := (hW.cell (p := ⟨w.heap.size, 2, none⟩) zf).trans f2
        have e3 := (hW.cell (p := ⟨w.heap.size, 3, none⟩) zf).trans f3
        have e4 := (hW.cell (p := ⟨w.heap.size, 4, none⟩) zf).trans f4
        have e5 := (hW.cell (p := ⟨w.heap.size, 5, none⟩) zf).trans f5
        have e6 := (hW.cell (p := ⟨w.heap.size, 6, none⟩) zf).trans f6
        have e7 := (hW.cell (p := ⟨w.heap.size, 7, none⟩) zf).trans f7
        have e8 := (hW.cell (p := ⟨w.heap.size, 8, none⟩) zf).trans f8
        have e9 := (hW.cell (p := ⟨w.heap.size, 9, none⟩) zf).trans f9
        have e10 := (hW.cell (p := ⟨w.heap.size, 10, none⟩) zf).trans f10
        have e11 := (hW.cell (p := ⟨w.heap.size, 11, none⟩) zf).trans f11
        have e12 := (hW.cell (p := ⟨w.heap.size, 12, none⟩) zf).trans f12
        have e13 := (hW.cell (p := ⟨w.heap.size, 13, none⟩) zf).trans f13
        go_simp
      clear hK K
      simp only [Act.put, List.setIfInBounds_toArray, List.set_cons_zero, List.set_cons_succ]
      refine wpQuiet_step (fun K hK => ?_)
      rw [if_pos (by rfl)]
      refine ⟨.slice (some ⟨gq, 0, none⟩) n cc, fun W' hW => ?_, hK _ ?_⟩
      · have e0 := (hW.cell (p := ⟨wq.heap.size, 0, none⟩) zq2).trans q0
        go_simp
      clear hK K
      simp only [Act.put, List.setIfInBounds_toArray, List.set_cons_zero, List.set_cons_succ]
      refine wpQuiet_step (fun K hK => ?_)
      rw [if_pos (by rfl)]
      refine ⟨.int .i64 (i : Int), fun W' hW => ?_, hK _ ?_⟩
      · go_simp
      clear hK K
      simp only [Act.put, List.setIfInBounds_toArray, List.set_cons_zero, List.set_cons_succ]
      refine wpQuiet_step (fun K hK => ?_)
      rw [if_pos (by rfl)]
      refine ⟨.pointer (some ⟨gq, i * 4, none⟩), fun W' hW => ?_, hK _ ?_⟩
      · go_simp
      clear hK K
      simp only [Act.put, List.setIfInBounds_toArray, List.set_cons_zero, List.set_cons_succ]
      refine wpQuiet_step (fun K hK => ?_)
      rw [if_pos (by rfl)]
      refine ⟨vec x, fun W' hW => ?_, hK _ ?_⟩
      · have e0 := (hW.cell (p := ⟨gq, i * 4, none⟩) zgq2).trans r0
        have e1 := (hW.cell (p := ⟨gq, i * 4 + 1, none⟩) zgq2).trans r1
        have e2 := (hW.cell (p := ⟨gq, i * 4 + 2, none⟩) zgq2).trans r2
        have e3 := (hW.cell (p := ⟨gq, i * 4 + 3, none⟩) zgq2).trans r3
        go_simp
      clear hK K
      simp only [Act.put, List.setIfInBounds_toArray, List.set_cons_zero, List.set_cons_succ]
      refine wpQuiet_step (fun K hK => ?_)
      rw [if_pos (by rfl)]
      refine ⟨.slice (some ⟨gs, os, none⟩) n2 capS, fun W' hW => ?_, hK _ ?_⟩
      · have e0 := (hW.cell (p := ⟨w.heap.size + 1, 0, none⟩) zbx).trans b0
        go_simp
      clear hK K
      simp only [Act.put, List.setIfInBounds_toArray, List.set_cons_zero, List.set_cons_succ]
      refine wpQuiet_step (fun K hK => ?_)
      rw [if_pos (by rfl)]
      refine ⟨.int .i64 (i : Int), fun W' hW => ?_, hK _ ?_⟩
      · go_simp
      clear hK K
      simp only [Act.put, List.setIfInBounds_toArray, List.set_cons_zero, List.set_cons_succ]
      refine wpQuiet_step (fun K hK => ?_)
      rw [if_pos (by rfl)]
      refine ⟨.pointer (some ⟨gs, os + i * 4, none⟩), fun W' hW => ?_, hK _ ?_⟩
      · go_simp
      clear hK K
      simp only [Act.put, List.setIfInBounds_toArray, List.set_cons_zero, List.set_cons_succ]
      refine wpQuiet_step (fun K hK => ?_)
      rw [if_pos (by rfl)]
      refine ⟨vec y, fun W' hW => ?_, hK _ ?_⟩
      · have e0 := (hW.cell (p := ⟨gs, os + i * 4, none⟩) hgr).trans d0
        have e1 := (hW.cell (p := ⟨gs, os + i * 4 + 1, none⟩) hgr).trans d1
        have e2 := (hW.cell (p := ⟨gs, os + i * 4 + 2, none⟩) hgr).trans d2
        have e3 := (hW.cell (p := ⟨gs, os + i * 4 + 3, none⟩) hgr).trans d3
        go_simp
      clear hK K
      simp only [Act.put, List.setIfInBounds_toArray, List.set_cons_zero, List.set_cons_succ]
      refine wpQuiet_step (fun K hK => ?_)
      rw [if_pos (by rfl)]
      refine ⟨vec (addm m x y), fun W' hW => ?_, hK _ ?_⟩
      · go_simp
        refine (M1.out _).mono ?_
        rintro e w' ⟨rfl, b⟩
        exact ⟨rfl, hW.trans (b.mono hW.size)⟩
      clear hK K
      simp only [Act.put, List.setIfInBounds_toArray, List.set_cons_zero, List.set_cons_succ]
      refine wpQuiet_nil ?_
      intro W3 hW3
      have zb3 := hW3.size
      obtain ⟨r2, hr2⟩ : ∃ r2, addm m x y = r2 := ⟨_, rfl⟩
      have HR2 := hid hr2
      rw [hr2]
      clear hr2
      have lo := owns_keep do' hW3
      have t0 := (lo.cellAt (i * 4) (by omega)).trans (HROW.out 0 (by omega))
      have t1 := (lo.cellAt (i * 4 + 1) (by omega)).trans (HROW.out 1 (by omega))
      have t2 := (lo.cellAt (i * 4 + 2) (by omega)).trans (HROW.out 2 (by omega))
      have t3 := (lo.cellAt (i * 4 + 3) (by omega)).trans (HROW.out 3 (by omega))
      have u0 := lo.frozenAt (i * 4)
      have u1 := lo.frozenAt (i * 4 + 1)
      have u2 := lo.frozenAt (i * 4 + 2)
      have u3 := lo.frozenAt (i * 4 + 3)
      have zlo : gq < W3.heap.size := (lo.lt _ rfl).2
      have hjc : (i : Int) < (n : Int) := by omega
      gi_wp2
      have O3 := (Below.only hW3 (fun k => k = gq))
      have OE := (((O3.setCell (p := ⟨gq, i * 4, none⟩) (.inl rfl) (.int .u64 (limb r2 0 : Int))).setCell (p := ⟨gq, i * 4 + 1, none⟩) (.inl rfl) (.int .u64 (limb r2 1 : Int))).setCell (p := ⟨gq, i * 4 + 2, none⟩) (.inl rfl) (.int .u64 (limb r2 2 : Int))).setCell (p := ⟨gq, i * 4 + 3, none⟩) (.inl rfl) (.int .u64 (limb r2 3 : Int))
      have KP : ∀ p, _ := fun p : VisS (wq.heap.size + 1 + 1 + 1) (wq.heap.size + 1 + 1) 136 #[ptr' (wq.heap.size + 1)] W ∧ BackS (wq.heap.size + 1) (.slice aL n capL) xs W => (⟨⟨(p.1.grow HG2.out).1.only OE (by omega), (p.1.grow HG2.out).2.only OE (by omega)⟩, (p.2.grow HG2.out).1.only OE (by omega), (p.2.grow HG2.out).2.only OE (fun ad h => by have := HGA.out ad h; omega)⟩ : VisS (wq.heap.size + 1 + 1 + 1) (wq.heap.size + 1 + 1) 136 #[ptr' (wq.heap.size + 1)] _ ∧ BackS (wq.heap.size + 1) (.slice aL n capL) xs _)
      exact ⟨OE.low _ _, ⟨by first | exact KP | exact fun p q => KP ⟨p, q⟩, (HG2.out.keeps _).trans (OE.keeps (fun k h => by omega))⟩, df.only OE (by omega), db.only OE (by omega), dq.only OE (by omega), ⟨_, ((((lo.stored (i * 4) _).1.stored (i * 4 + 1) _).1.stored (i * 4 + 2) _).1.stored (i * 4 + 3) _).1, by rw [List.length_append]; have q := HQR.out; rw [← HIK.out] at q ⊢; exact padd_store q (by omega) hi2 HXD.out HYD.out HR2.out⟩, HB2.out.trans (OE.below (fun k h => by omega) (by omega)), by have := OE.size; omega⟩
    · gi_wp2
      have OE := Only.refl (fun k => k = gq) W2
      have KP : ∀ p, _ := fun p : VisS (wq.heap.size + 1 + 1 + 1) (wq.heap.size + 1 + 1) 136 #[ptr' (wq.heap.size + 1)] W ∧ BackS (wq.heap.size + 1) (.slice aL n capL) xs W => (⟨⟨(p.1.grow HG2.out).1.only OE (by omega), (p.1.grow HG2.out).2.only OE (by omega)⟩, (p.2.grow HG2.out).1.only OE (by omega), (p.2.grow HG2.out).2.only OE (fun ad h => by have := HGA.out ad h; omega)⟩ : VisS (wq.heap.size + 1 + 1 + 1) (wq.heap.size + 1 + 1) 136 #[ptr' (wq.heap.size + 1)] _ ∧ BackS (wq.heap.size + 1) (.slice aL n capL) xs _)
      exact ⟨OE.low _ _, ⟨by first | exact KP | exact fun p q => KP ⟨p, q⟩, (HG2.out.keeps _).trans (OE.keeps (fun k h => by omega))⟩, df, db, dq, ⟨_, do', by rw [List.length_append]; have q := HQR.out; rw [← HIK.out] at q ⊢; exact padd_skip q hi2⟩, HB2.out, by omega⟩
  case done =>
    rintro D W hD ⟨h1, h2, h4, ⟨zs, h6, h7⟩, h8, h9⟩ hK
    have k0 := h4.cell (i := 0) rfl
    have zk := h4.lt
    gi_wp2
    refine ⟨by simp, .inl ⟨_, _, rfl, run_takeDeferred hK, ?_⟩⟩
    have hg := (Grow.refl w5.heap.size _).putObj (.deferred none) hD hK rfl
    refine ⟨.slice ac n cc, by simp only [results, Tryd.results79]; go_simp, ?_⟩
    refine ⟨_, rfl, ?_, Below.behind h8 (Nat.le_refl _) hg (by omega)⟩
    have e1 : zs = nums (paddV m xs ys) := by
      rw [ups_len, HNL.out] at h7
      unfold paddV
      rw [HNL.out, HN2.out, Nat.max_eq_left hle]
      refine (h7.congr (fun t ht => ?_)).done
      by_cases e : t < n2
      · rw [if_pos ⟨ht, e⟩]
      · rw [if_neg (fun h => e h.2), getD_none (xs := ys) (by rw [HN2.out]; omega), addm_zero (getD_lt (by omega) HXS.out t)]
    rw [← e1]
    exact owns_grow (owns_mono h6 (by omega)) hg
  case stop => exact fun _ _ _ _ _ _ h _ => h.elim
theorem padd_any (id : Int) (m inv o s : Nat) (v1 v2 : Value) (xs ys : List Nat) (w : World) (hF : Hid (FieldOK m inv)) (hS1 : NumSl w v1 xs) (hS2 : NumSl w v2 ys) (hxs : ∀ y ∈ xs, y < m) (hys : ∀ y ∈ ys, y < m) (hl1 : xs.length < 1000000) (hl2 : ys.length < 1000000) :
    Calls Tryd.prog 79 #[.pointer none, fld id m inv o s, v1, v2] w (RetOwn 29 4 (max xs.length ys.length) (nums (paddV m xs ys)) w) := by
  have h1 := hS1
  have h2 := hS2
  obtain ⟨a1, c1, rfl, _, _⟩ := h1
  obtain ⟨a2, c2, rfl, _, _⟩ := h2
  by_cases hm : xs.length < ys.length
  · rw [paddV_comm, Nat.max_eq_right (by omega)]
    exact padd_lt id m inv o s ys.length xs.length c2 c1 a2 a1 ys xs w hF hS2 hS1 hys hxs rfl rfl hl2 hm
  · rw [Nat.max_eq_left (by omega)]
    exact padd_ge id m inv o s xs.length ys.length c1 c2 a1 a2 xs ys w hF hS1 hS2 hxs hys rfl rfl hl1 hm
end Go.Proofs.YtogenbggjodcnaaDoor
