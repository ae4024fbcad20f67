/-
  Ranges over elements, the quotient by a linear polynomial, the inverses of many elements.
-/
import Derived.Test.YtogenbggjodcnaaDoorPolys
import Derived.Lib.SliceRun
import Derived.Shelf.Abstract
import Derived.Shelf.RegionOpen
import Derived.OwnWalkIn
import Derived.TacticsInMore
import Derived.LoopNIn
import Derived.LoopIn
import Derived.Test.YtogenbggjodcnaaDoorMont
import Derived.Test.YtogenbggjodcnaaDoorLimbs
import Derived.OwnWalk
import Derived.Test.YtogenbggjodcnaaDoorKit
import Derived.Test.YtogenbggjodcnaaDoorPowB
/-
  What power visits; no tape.
-/
namespace Go.Proofs.YtogenbggjodcnaaDoor
open Go.RowKit Go.Shelf

attribute [local go_sem] Oper.semAt_some
theorem visitp_any (t : Option Addr) (g : Nat) (lb : Array Value) (w : World) : Calls Tryd.prog 131 #[.pointer t, .func (.func g) #[] lb] w fun e w' => e = .returned (.func (.func 145) #[] #[ptr' (w.heap.size + 1), ptr' w.heap.size]) ∧ (w.alloc (.cells #[.pointer t] 53)).alloc (.cells #[.func (.func g) #[] lb] 160) = w' := by
  go_enter Tryd.func131, Tryd.ntmps131
  go_wp2
  go_ret
  exact ⟨rfl, rfl⟩
set_option maxRecDepth 100000 in
set_option maxHeartbeats 2000000 in
theorem visitp_seq (bl bt g : Nat) (lb : Array Value) (Q : World → Prop) (xs : List (Nat × Nat)) (W : World) (N : Nat) (hN : N ≤ W.heap.size) (eg : ∀ args w, (callFunc g args).run Tryd.prog w = .ok (.enter g args) w) (hV : VisS bl bt g lb W) (hQ : Q W)
    (hQg : ∀ B A A', Q A → Grow B A A' → Q A') (hseq : ∀ W', Q W' → SeqIn Tryd.prog g lb pairV (fun A B => Q A → Q B) xs W') :
    SeqIn Tryd.prog 145 #[ptr' bl, ptr' bt] pairV (fun A B => (VisS bl bt g lb A ∧ Q A → VisS bl bt g lb B ∧ Q B) ∧ Keeps N A B) xs W := by
  intro L J Jx hL hJ hJx hY h0
  have c0 := hV.1.cell (i := 0) rfl
  have zl := hV.1.lt
  have HV := hid hV
  refine (callsIn_wide (n := 9)).1 ?_
  refine callsIn_of_wp_marks Tryd.func145 rfl trivial ?_ rfl
  simp only [Tryd.ntmps145, List.size_toArray, List.length_cons, List.length_nil, Nat.reduceAdd, Nat.reduceSub, Array.replicate_succ, Array.replicate_zero, List.push_toArray, List.append_toArray, List.nil_append, List.cons_append]
  gi_wp2
  have G0 : Grow W.heap.size W (W.alloc (.cells #[.func (.yield L) #[] #[]] 181)) := (Grow.refl _ W).alloc _
  have hb0 : Blk (W.alloc (.cells #[.func (.yield L) #[] #[]] 181)) W.heap.size 181 [.func (.yield L) #[] #[]] := Blk.new rfl
  have hz0 : (W.alloc (.cells #[.func (.yield L) #[] #[]] 181)).heap.size = W.heap.size + 1 := by simp
  generalize W.alloc (.cells #[.func (.yield L) #[] #[]] 181) = W0 at *
  refine wpIn_every (gf := g) (lb := lb) rfl eg (fun W' hg => hseq W' (hQg _ _ _ (hQg _ _ _ hQ G0) hg)) (fun h k x => k (h x)) (fun A B hg q => hQg _ _ _ q hg) (fun _ => rfl)
    (fun pre W' => J pre W' ∧ (VisS bl bt g lb W' ∧ Q W') ∧ Blk W' W.heap.size 181 [.func (.yield L) #[] #[]])
    (fun c pre W' => c = .ret ∧ Jx pre W')
    (fun pre A B h k => ⟨hJ pre A B h.1 (k.mono (by omega)), ⟨h.2.1.1.grow k, hQg _ _ _ h.2.1.2 k⟩, h.2.2.grow k⟩)
    (fun c pre A B h k => ⟨h.1, hJx pre A B h.2 (k.mono (by omega))⟩)
    ⟨hJ [] W W0 h0 G0, ⟨hV.grow G0, hQg _ _ _ hQ G0⟩, hb0⟩ ?round ?done ?stop
  case round =>
    rintro m l pre ⟨i, x⟩ W' ⟨hj, ⟨hv, hq⟩, hb⟩ hpre hl
    have HJ := hid hj
    have HVV := hid hv
    have HQ := hid hq
    have HB := hid hb
    have HPRE := hid hpre
    have HL := hid hl
    have HYY := hid hY
    have HJJ := hid hJ
    clear hj hv hq hb hpre hY hJ hJx hseq hQ c0 hV hb0
    simp only [pairV]
    gi_wp2
    refine ⟨((Only.refl (fun _ => True) W').alloc _).low _ _, fun W2 hg => ?_⟩
    have G2 : Grow W0.heap.size W' W2 := ((Grow.refl _ W').alloc _).trans hg
    have hbx : Blk W2 W'.heap.size 29 (limbs x) := (Blk.new rfl).grow hg
    have k0 := (HVV.out.grow G2).2.cell (i := 0) rfl
    have k1 := (HB.out.grow G2).cell (i := 0) rfl
    have x0 := hbx.cell (i := 0) rfl
    have x1 := hbx.cell (i := 1) rfl
    have x2 := hbx.cell (i := 2) rfl
    have x3 := hbx.cell (i := 3) rfl
    have QV := hid (show VisS bl bt g lb W2 ∧ Q W2 from ⟨HVV.out.grow G2, hQg _ _ _ HQ.out G2⟩)
    have HB2 := hid (HB.out.grow G2)
    have J2 := hid (HJJ.out pre _ _ HJ.out (G2.mono (by omega)))
    obtain ⟨fn, tmps, assign, body, hy, hR⟩ := HYY.out pre (i, x) W2 J2.out HPRE.out (m - 1)
    simp only [pairV] at hy
    clear hg G2 hbx
    gi_wp2_with (refine ⟨trivial, (fun h => by cases h), ?_⟩; refine (CallsIn.inRound l (callsIn_wide.2 (note_nil _ _ _ _))).mono ?_; rintro e w5 ⟨rfl, rfl⟩)
    refine ⟨fun h => (by cases h), RoundIn.mono (F := Fence.wide.inRound l) hR ?_⟩
    rintro e W3 (⟨rfl, hJ3, hk3, ha3⟩ | ⟨rfl, hJ3, ha3⟩)
    · have HJ3 := hid hJ3
      have HK3 := hid (hk3.1 QV.out)
      have HB3 := hid (HB2.out.keeps hk3.2 hN)
      have HA3 := hid ha3
      clear hJ3 hk3 ha3 hy hR
      gi_wp2
      exact ⟨HA3.out.low (by omega) (by omega), fun _ => HK3.out.2, HJ3.out, HK3.out, HB3.out⟩
    · have HJ3 := hid hJ3
      have HA3 := hid ha3
      clear hJ3 ha3 hy hR
      gi_wp2
      exact ⟨HA3.out.low (by omega) (by omega), rfl, HJ3.out⟩
  case done =>
    rintro D W' hD ⟨hj, _, _⟩ hK
    have HJ := hid hj
    have HJJ := hid hJ
    clear hj hJ hJx hY hseq
    gi_wp2
    refine ⟨by simp, .inl ⟨_, _, rfl, run_takeDeferred hK, ?_⟩⟩
    have hg := (Grow.refl W0.heap.size W').putObj (.deferred none) hD hK rfl
    exact ⟨_, results_none rfl _ _ _, ⟨_, rfl⟩, .inl (HJJ.out _ _ _ HJ.out (hg.mono (by omega)))⟩
  case stop =>
    rintro D c pre W' hD hpre ⟨rfl, hx⟩ hK
    have HX := hid hx
    have HJX := hid hJx
    have HPRE := hid hpre
    clear hx hJ hJx hY hseq hpre
    gi_wp2
    refine ⟨by simp, .inl ⟨_, _, rfl, run_takeDeferred hK, ?_⟩⟩
    have hg := (Grow.refl W0.heap.size W').putObj (.deferred none) hD hK rfl
    exact ⟨_, results_none rfl _ _ _, ⟨_, rfl⟩, .inr ⟨_, HPRE.out, HJX.out _ _ _ HX.out (hg.mono (by omega))⟩⟩
end Go.Proofs.YtogenbggjodcnaaDoor
/-
  Quotient and Eval; no tape.
-/
namespace Go.Proofs.YtogenbggjodcnaaDoor
open Go.RowKit Go.Shelf

attribute [local go_sem] Oper.semAt_some

theorem info_el : (Tryd.prog.info? 29).map (fun i => (i.zero, i.size, i.bytes)) = some (some (.agg #[.int .u64 0, .int .u64 0, .int .u64 0, .int .u64 0]), 4, 32) := by kernel_rfl
theorem limbs_zero : limbs 0 = [.int .u64 0, .int .u64 0, .int .u64 0, .int .u64 0] := by
  have e : ∀ i, limb 0 i = 0 := fun i => by rw [limb_eq]; simp
  show [Value.int .u64 (limb 0 0 : Int), .int .u64 (limb 0 1 : Int), .int .u64 (limb 0 2 : Int), .int .u64 (limb 0 3 : Int)] = _
  rw [e, e, e, e]; rfl
/-- The quotient and the remainder. -/
def RetQuo (m x : Nat) (xs : List Nat) (w : World) : Ending → World → Prop := fun e w' => ∃ q, e = .returned (.tuple #[q, vec (horP m x (downs xs))]) ∧ w'.ownsRow w.heap.size 29 4 q (xs.length - 1) (nums (quo m x xs)) ∧ Below w.heap.size w w'
set_option maxRecDepth 100000 in
set_option maxHeartbeats 1000000 in
theorem quotient_pos (id : Int) (m inv o s x c cap : Nat) (a : Option Addr) (xs : List Nat) (w : World) (hF : Hid (FieldOK m inv)) (hx : Hid (x < m)) (hS : NumSl w (.slice a (c + 1) cap) xs) (hxs : ∀ y ∈ xs, y < m) (hn : xs.length = c + 1) (hl : c + 1 < 1000000) :
    Calls Tryd.prog 97 #[.pointer none, fld id m inv o s, .slice a (c + 1) cap, vec x] w (RetQuo m x xs w) := by
  have hm2 := hF.out.2.1
  have hga : ∀ ad, a = some ad → ad.block < w.heap.size := fun ad h => by
    have hS' := hS
    obtain ⟨a', c', e, _, hr⟩ := hS'
    simp only [Value.slice.injEq] at e
    obtain ⟨rfl, _, _⟩ := e
    rcases hr with h0 | ⟨g, off, rfl, he⟩
    · rw [h0] at hn; cases hn
    · cases h
      obtain ⟨z, hz⟩ : ∃ z, xs[0]? = some z := ⟨xs[0]'(by omega), List.getElem?_eq_getElem _⟩
      exact World.block_lt_of_cell? w _ (he 0 z hz).2.1
  obtain ⟨i0, hi, hz0, hz1, hz2⟩ := info_parts info_el
  obtain ⟨wq, hmk, hoq, hgq⟩ := run_make_full (P := Tryd.prog) (((w.alloc (.cells #[.int .i64 id, .int .u64 (limb m 0 : Int), .int .u64 (limb m 1 : Int), .int .u64 (limb m 2 : Int), .int .u64 (limb m 3 : Int), .int .u64 (inv : Int), .int .u64 (limb o 0 : Int), .int .u64 (limb o 1 : Int), .int .u64 (limb o 2 : Int), .int .u64 (limb o 3 : Int), .int .u64 (limb s 0 : Int), .int .u64 (limb s 1 : Int), .int .u64 (limb s 2 : Int), .int .u64 (limb s 3 : Int)] 31)).alloc (.cells #[.int .u64 (limb x 0 : Int), .int .u64 (limb x 1 : Int), .int .u64 (limb x 2 : Int), .int .u64 (limb x 3 : Int)] 29)).alloc (.cells #[.int .u64 0, .int .u64 0, .int .u64 0, .int .u64 0] 29)) (w.heap.size + 1 + 1 + 1) 34 29 i0 _ 4 Tryd.underlying34 hi hz0 hz1 .i64 .i64 c (by rw [hz2]; omega) (by unfold maxLen; omega) (by simp)
  have zW0 : (((w.alloc (.cells #[.int .i64 id, .int .u64 (limb m 0 : Int), .int .u64 (limb m 1 : Int), .int .u64 (limb m 2 : Int), .int .u64 (limb m 3 : Int), .int .u64 (inv : Int), .int .u64 (limb o 0 : Int), .int .u64 (limb o 1 : Int), .int .u64 (limb o 2 : Int), .int .u64 (limb o 3 : Int), .int .u64 (limb s 0 : Int), .int .u64 (limb s 1 : Int), .int .u64 (limb s 2 : Int), .int .u64 (limb s 3 : Int)] 31)).alloc (.cells #[.int .u64 (limb x 0 : Int), .int .u64 (limb x 1 : Int), .int .u64 (limb x 2 : Int), .int .u64 (limb x 3 : Int)] 29)).alloc (.cells #[.int .u64 0, .int .u64 0, .int .u64 0, .int .u64 0] 29)).heap.size = w.heap.size + 1 + 1 + 1 := by simp
  have B0 : Below w.heap.size w (((w.alloc (.cells #[.int .i64 id, .int .u64 (limb m 0 : Int), .int .u64 (limb m 1 : Int), .int .u64 (limb m 2 : Int), .int .u64 (limb m 3 : Int), .int .u64 (inv : Int), .int .u64 (limb o 0 : Int), .int .u64 (limb o 1 : Int), .int .u64 (limb o 2 : Int), .int .u64 (limb o 3 : Int), .int .u64 (limb s 0 : Int), .int .u64 (limb s 1 : Int), .int .u64 (limb s 2 : Int), .int .u64 (limb s 3 : Int)] 31)).alloc (.cells #[.int .u64 (limb x 0 : Int), .int .u64 (limb x 1 : Int), .int .u64 (limb x 2 : Int), .int .u64 (limb x 3 : Int)] 29)).alloc (.cells #[.int .u64 0, .int .u64 0, .int .u64 0, .int .u64 0] 29)) := by go_grown
  have Bq := Below.grown B0 hgq (by rw [zW0]; omega) (fun j hj => by cases hj)
  have f0 : Blk wq w.heap.size 31 [.int .i64 id, .int .u64 (limb m 0 : Int), .int .u64 (limb m 1 : Int), .int .u64 (limb m 2 : Int), .int .u64 (limb m 3 : Int), .int .u64 (inv : Int), .int .u64 (limb o 0 : Int), .int .u64 (limb o 1 : Int), .int .u64 (limb o 2 : Int), .int .u64 (limb o 3 : Int), .int .u64 (limb s 0 : Int), .int .u64 (limb s 1 : Int), .int .u64 (limb s 2 : Int), .int .u64 (limb s 3 : Int)] := Blk.grown (Blk.alloc (Blk.alloc (Blk.new rfl) _) _) hgq (by simp)
  have x0 : Blk wq (w.heap.size + 1) 29 [.int .u64 (limb x 0 : Int), .int .u64 (limb x 1 : Int), .int .u64 (limb x 2 : Int), .int .u64 (limb x 3 : Int)] := Blk.grown (Blk.alloc (Blk.new (by simp)) _) hgq (by simp)
  have r0 : Blk wq (w.heap.size + 1 + 1) 29 [.int .u64 0, .int .u64 0, .int .u64 0, .int .u64 0] := Blk.grown (Blk.new (by simp)) hgq (by simp)
  have hoq' : wq.ownsRow (w.heap.size + 1 + 1 + 1) 29 4 (.slice (some ⟨w.heap.size + 1 + 1 + 1, 0, none⟩) c c) c (madeCells (Value.agg #[.int .u64 0, .int .u64 0, .int .u64 0, .int .u64 0]).cells (c * 4)).toList := by rw [zW0] at hoq; exact hoq
  rw [zW0] at hmk
  have zq : w.heap.size + 1 + 1 + 1 < wq.heap.size := (hoq'.lt _ rfl).2
  have HMK := hmk
  have SQ := hid (hS.below Bq)
  clear hmk hi hz0 hz1 hz2 hoq hgq B0 zW0
  refine (callsIn_wide (n := 9)).1 ?_
  refine callsIn_of_wp_marks Tryd.func97 rfl trivial ?_ rfl
  simp only [Tryd.ntmps97, List.size_toArray, List.length_cons, List.length_nil, Nat.reduceAdd, Nat.reduceSub, Array.replicate_succ, Array.replicate_zero, List.push_toArray, List.append_toArray, List.nil_append, List.cons_append]
  gi_wp2_with (first | (refine ⟨trivial, ?_⟩; gi_at_call 126; refine (callsIn_wide.2 (back_any a (c + 1) cap _)).mono ?_; rintro e w' ⟨rfl, rfl⟩) | (refine ⟨trivial, ?_⟩; gi_at_call 112; refine (callsIn_wide.2 (visit_any none 143 _ _)).mono ?_; rintro e w' ⟨rfl, rfl⟩))
  have G5 : Grow wq.heap.size wq (((((wq.alloc (.cells #[.slice (some ⟨w.heap.size + 1 + 1 + 1, 0, none⟩) c c] 34)).alloc (.cells #[.int .u64 0, .int .u64 0, .int .u64 0, .int .u64 0] 29)).alloc (.cells #[.slice a (c + 1) cap] 34)).alloc (.cells #[.pointer none] 53)).alloc (.cells #[.func (.func 143) #[] #[ptr' (wq.heap.size + 1 + 1)]] 160)) := (((((Grow.refl _ wq).alloc _).alloc _).alloc _).alloc _).alloc _
  have q5 : Blk (((((wq.alloc (.cells #[.slice (some ⟨w.heap.size + 1 + 1 + 1, 0, none⟩) c c] 34)).alloc (.cells #[.int .u64 0, .int .u64 0, .int .u64 0, .int .u64 0] 29)).alloc (.cells #[.slice a (c + 1) cap] 34)).alloc (.cells #[.pointer none] 53)).alloc (.cells #[.func (.func 143) #[] #[ptr' (wq.heap.size + 1 + 1)]] 160)) wq.heap.size 34 [.slice (some ⟨w.heap.size + 1 + 1 + 1, 0, none⟩) c c] := Blk.alloc (Blk.alloc (Blk.alloc (Blk.alloc (Blk.new rfl) _) _) _) _
  have a5 : Blk (((((wq.alloc (.cells #[.slice (some ⟨w.heap.size + 1 + 1 + 1, 0, none⟩) c c] 34)).alloc (.cells #[.int .u64 0, .int .u64 0, .int .u64 0, .int .u64 0] 29)).alloc (.cells #[.slice a (c + 1) cap] 34)).alloc (.cells #[.pointer none] 53)).alloc (.cells #[.func (.func 143) #[] #[ptr' (wq.heap.size + 1 + 1)]] 160)) (wq.heap.size + 1) 29 [.int .u64 0, .int .u64 0, .int .u64 0, .int .u64 0] := Blk.alloc (Blk.alloc (Blk.alloc (Blk.new (by simp)) _) _) _
  have s5 : Blk (((((wq.alloc (.cells #[.slice (some ⟨w.heap.size + 1 + 1 + 1, 0, none⟩) c c] 34)).alloc (.cells #[.int .u64 0, .int .u64 0, .int .u64 0, .int .u64 0] 29)).alloc (.cells #[.slice a (c + 1) cap] 34)).alloc (.cells #[.pointer none] 53)).alloc (.cells #[.func (.func 143) #[] #[ptr' (wq.heap.size + 1 + 1)]] 160)) (wq.heap.size + 1 + 1) 34 [.slice a (c + 1) cap] := Blk.alloc (Blk.alloc (Blk.new (by simp)) _) _
  have t5 : Blk (((((wq.alloc (.cells #[.slice (some ⟨w.heap.size + 1 + 1 + 1, 0, none⟩) c c] 34)).alloc (.cells #[.int .u64 0, .int .u64 0, .int .u64 0, .int .u64 0] 29)).alloc (.cells #[.slice a (c + 1) cap] 34)).alloc (.cells #[.pointer none] 53)).alloc (.cells #[.func (.func 143) #[] #[ptr' (wq.heap.size + 1 + 1)]] 160)) (wq.heap.size + 1 + 1 + 1) 53 [.pointer none] := Blk.alloc (Blk.new (by simp)) _
  have l5 : Blk (((((wq.alloc (.cells #[.slice (some ⟨w.heap.size + 1 + 1 + 1, 0, none⟩) c c] 34)).alloc (.cells #[.int .u64 0, .int .u64 0, .int .u64 0, .int .u64 0] 29)).alloc (.cells #[.slice a (c + 1) cap] 34)).alloc (.cells #[.pointer none] 53)).alloc (.cells #[.func (.func 143) #[] #[ptr' (wq.heap.size + 1 + 1)]] 160)) (wq.heap.size + 1 + 1 + 1 + 1) 160 [.func (.func 143) #[] #[ptr' (wq.heap.size + 1 + 1)]] := Blk.new (by simp)
  have z5 : (((((wq.alloc (.cells #[.slice (some ⟨w.heap.size + 1 + 1 + 1, 0, none⟩) c c] 34)).alloc (.cells #[.int .u64 0, .int .u64 0, .int .u64 0, .int .u64 0] 29)).alloc (.cells #[.slice a (c + 1) cap] 34)).alloc (.cells #[.pointer none] 53)).alloc (.cells #[.func (.func 143) #[] #[ptr' (wq.heap.size + 1 + 1)]] 160)).heap.size = wq.heap.size + 5 := by simp
  generalize (((((wq.alloc (.cells #[.slice (some ⟨w.heap.size + 1 + 1 + 1, 0, none⟩) c c] 34)).alloc (.cells #[.int .u64 0, .int .u64 0, .int .u64 0, .int .u64 0] 29)).alloc (.cells #[.slice a (c + 1) cap] 34)).alloc (.cells #[.pointer none] 53)).alloc (.cells #[.func (.func 143) #[] #[ptr' (wq.heap.size + 1 + 1)]] 160)) = w5 at *
  have hP0 : VisS (wq.heap.size + 1 + 1 + 1 + 1) (wq.heap.size + 1 + 1 + 1) 143 #[ptr' (wq.heap.size + 1 + 1)] w5 ∧ BackS (wq.heap.size + 1 + 1) (.slice a (c + 1) cap) xs w5 := ⟨⟨l5, t5⟩, s5, SQ.out.grow G5⟩
  have B5 : Below w.heap.size w w5 := Below.behind Bq (Nat.le_refl _) G5 (by omega)
  have a5' : Blk w5 (wq.heap.size + 1) 29 (limbs (horP m x [])) := by rw [horP_nil, limbs_zero]; exact a5
  have f5 := f0.grow G5
  have x5 := x0.grow G5
  have r5 := r0.grow G5
  have o5 := owns_grow hoq' G5
  have HXS := hid hxs
  have HNL := hid hn
  have hqr := QRow.zero m x c (downs xs) _ (by rw [Array.length_toList]; exact size_madeCells _ _) (fun j i hj hi => made_zeros c j i hj hi)
  refine wpIn_every (gf := 135) (lb := #[ptr' (wq.heap.size + 1 + 1 + 1 + 1), ptr' (wq.heap.size + 1 + 1 + 1)]) (encs := pairV) (xs := downs xs)
    (Kp := fun A B => (VisS (wq.heap.size + 1 + 1 + 1 + 1) (wq.heap.size + 1 + 1 + 1) 143 #[ptr' (wq.heap.size + 1 + 1)] A ∧ BackS (wq.heap.size + 1 + 1) (.slice a (c + 1) cap) xs A → VisS (wq.heap.size + 1 + 1 + 1 + 1) (wq.heap.size + 1 + 1 + 1) 143 #[ptr' (wq.heap.size + 1 + 1)] B ∧ BackS (wq.heap.size + 1 + 1) (.slice a (c + 1) cap) xs B) ∧ Keeps w5.heap.size A B)
    rfl (enters_of Tryd.func135 (by kernel_rfl) rfl)
    (fun W hg => visit_seq _ _ _ _ (BackS (wq.heap.size + 1 + 1) (.slice a (c + 1) cap) xs) (downs xs) W w5.heap.size hg.size (enters_of Tryd.func143 (by kernel_rfl) rfl) (hP0.1.grow hg) (hP0.2.grow hg) (fun B A A' h k => h.grow k) (fun W' hq => back_seq _ _ xs W' hq (by rw [hn]; omega)))
    (fun h k => ⟨fun p => k.1 (h.1 p), h.2.trans k.2⟩) (fun A B hg => ⟨fun p => ⟨p.1.grow hg, p.2.grow hg⟩, hg.keeps _⟩) (fun _ => rfl)
    (fun pre W => Blk W w.heap.size 31 [.int .i64 id, .int .u64 (limb m 0 : Int), .int .u64 (limb m 1 : Int), .int .u64 (limb m 2 : Int), .int .u64 (limb m 3 : Int), .int .u64 (inv : Int), .int .u64 (limb o 0 : Int), .int .u64 (limb o 1 : Int), .int .u64 (limb o 2 : Int), .int .u64 (limb o 3 : Int), .int .u64 (limb s 0 : Int), .int .u64 (limb s 1 : Int), .int .u64 (limb s 2 : Int), .int .u64 (limb s 3 : Int)] ∧ Blk W (w.heap.size + 1) 29 [.int .u64 (limb x 0 : Int), .int .u64 (limb x 1 : Int), .int .u64 (limb x 2 : Int), .int .u64 (limb x 3 : Int)] ∧ Blk W (w.heap.size + 1 + 1) 29 [.int .u64 0, .int .u64 0, .int .u64 0, .int .u64 0] ∧ Blk W wq.heap.size 34 [.slice (some ⟨w.heap.size + 1 + 1 + 1, 0, none⟩) c c] ∧ Blk W (wq.heap.size + 1) 29 (limbs (horP m x pre)) ∧ (∃ ys, W.ownsRow (w.heap.size + 1 + 1 + 1) 29 4 (.slice (some ⟨w.heap.size + 1 + 1 + 1, 0, none⟩) c c) c ys ∧ QRow m x c (downs xs) pre.length ys) ∧ Below w.heap.size w W ∧ w5.heap.size ≤ W.heap.size)
    (fun _ _ _ => False)
    (fun pre A B h g => by
      obtain ⟨h1, h2, h3, h4, h5, ⟨ys, h6, h7⟩, h8, h9⟩ := h
      exact ⟨h1.grow g, h2.grow g, h3.grow g, h4.grow g, h5.grow g, ⟨ys, owns_grow h6 g, h7⟩, Below.behind h8 (Nat.le_refl _) g (by omega), Nat.le_trans h9 g.size⟩)
    (fun _ _ _ _ h _ => h) ⟨f5, x5, r5, q5, a5', ⟨_, o5, hqr⟩, B5, Nat.le_refl _⟩ ?round ?done ?stop
  case round =>
    rintro lm l pre ⟨i, y⟩ W ⟨h1, h2, h3, h4, h5, ⟨ys, h6, h7⟩, h8, h9⟩ hpre hl
    obtain ⟨hget, hpt⟩ := pre_take hpre
    obtain ⟨hy, hik⟩ := downs_at hget
    have hym := hxs y (List.mem_of_getElem? hy)
    rw [hn] at hik
    have HQR := hid h7
    have HB8 := hid h8
    have HPT := hid hpt
    have HGET := hid hget
    have HP0 := hid hP0
    have HGA := hid hga
    clear hga f0 x0 r0 hoq' HMK G5 q5 a5 s5 t5 l5 B5 a5' f5 x5 r5 o5 hqr h7 h8 hy hget hpt hpre hP0 hxs hn Bq hS
    simp only [pairV]
    gi_wp2
    refine ⟨((Only.refl (fun _ => True) W).alloc _).low _ _, fun W2 hg => ?_⟩
    have G2 : Grow w5.heap.size W W2 := ((Grow.refl _ W).alloc _).trans hg
    have dy : Blk W2 W.heap.size 29 (limbs y) := (Blk.new rfl).grow hg
    have df := h1.grow G2
    have dx := h2.grow G2
    have dz := h3.grow G2
    have dq := h4.grow G2
    have da := h5.grow G2
    have do' := owns_grow h6 G2
    have HO2 := hid (((Only.refl (fun k => k = wq.heap.size + 1 ∨ k = w.heap.size + 1 + 1 + 1 ∨ W2.heap.size ≤ k) W2)))
    have zz2 : w5.heap.size ≤ W2.heap.size := Nat.le_trans h9 G2.size
    have zy : W.heap.size < W2.heap.size := dy.lt
    have HB2 := hid (Below.behind HB8.out (Nat.le_refl _) G2 (by omega))
    have HG2 := hid G2
    have mlt := horP_lt (m := m) x (by omega) pre
    obtain ⟨r, hr⟩ : ∃ r, horP m x pre = r := ⟨_, rfl⟩
    have HRR := hid hr
    rw [hr] at da mlt
    have M1 := hid (mmul_any id m inv o s r x hF.out (by have := hF.out.1; omega) (by have := hF.out.1; have := hx.out; omega) (Nat.mul_lt_mul_of_lt_of_lt (by have := hF.out.1; omega) hx.out))
    have M2 := hid (madd_any id m inv o s (mont m r x) y hF.out.1 (mont_lt _ _ (by omega)) hym)
    clear h1 h2 h3 h4 h5 h6 hg G2 hr
    have f0 := df.cell (i := 0) rfl
    have f1 := df.cell (i := 1) rfl
    have f2 := df.cell (i := 2) rfl
    have f3 := df.cell (i := 3) rfl
    have f4 := df.cell (i := 4) rfl
    have f5 := df.cell (i := 5) rfl
    have f6 := df.cell (i := 6) rfl
    have f7 := df.cell (i := 7) rfl
    have f8 := df.cell (i := 8) rfl
    have f9 := df.cell (i := 9) rfl
    have f10 := df.cell (i := 10) rfl
    have f11 := df.cell (i := 11) rfl
    have f12 := df.cell (i := 12) rfl
    have f13 := df.cell (i := 13) rfl
    have x0 := dx.cell (i := 0) rfl
    have x1 := dx.cell (i := 1) rfl
    have x2 := dx.cell (i := 2) rfl
    have x3 := dx.cell (i := 3) rfl
    have a0 := da.cell (i := 0) rfl
    have a1 := da.cell (i := 1) rfl
    have a2 := da.cell (i := 2) rfl
    have a3 := da.cell (i := 3) rfl
    have y0 := dy.cell (i := 0) rfl
    have y1 := dy.cell (i := 1) rfl
    have y2 := dy.cell (i := 2) rfl
    have y3 := dy.cell (i := 3) rfl
    have q0 := dq.cell (i := 0) rfl
    have zf := df.lt
    have zx := dx.lt
    have za := da.lt
    have zq2 := dq.lt
    by_cases hi0 : i = 0
    · subst hi0
      gi_wp2
      refine wpIn_round_soft (C := fun W' => Below W2.heap.size W2 W') 7 (by kernel_rfl) (by kernel_rfl) (by kernel_rfl) ((Below.refl _ _).drew) ?_
      simp only [List.take_succ_cons, List.take_zero, List.drop_succ_cons, List.drop_zero]
      refine wpQuiet_step (fun K hK => ?_)
      rw [if_pos (by rfl)]
      refine ⟨fld id m inv o s, fun W' hW => ?_, hK _ ?_⟩
      · have e0 := (hW.cell (p := ⟨w.heap.size, 0, none⟩) zf).trans f0
        have e1 := (hW.cell (p := ⟨w.heap.size, 1, none⟩) zf).trans f1
        have e2 := (hW.cell (p := ⟨w.heap.size, 2, none⟩) zf).trans f2
        have e3 := (hW.cell (p := ⟨w.heap.size, 3, none⟩) zf).trans f3
        have e4 := (hW.cell (p := ⟨w.heap.size, 4, none⟩) zf).trans f4
        have e5 := (hW.cell (p := ⟨w.heap.size, 5, none⟩) zf).trans f5
        have e6 := (hW.cell (p := ⟨w.heap.size, 6, none⟩) zf).trans f6
        have e7 := (hW.cell (p := ⟨w.heap.size, 7, none⟩) zf).trans f7
        have e8 := (hW.cell (p := ⟨w.heap.size, 8, none⟩) zf).trans f8
        have e9 := (hW.cell (p := ⟨w.heap.size, 9, none⟩) zf).trans f9
        have e10 := (hW.cell (p := ⟨w.heap.size, 10, none⟩) zf).trans f10
        have e11 := (hW.cell (p := ⟨w.heap.size, 11, none⟩) zf).trans f11
        have e12 := (hW.cell (p := ⟨w.heap.size, 12, none⟩) zf).trans f12
        have e13 := (hW.cell (p := ⟨w.heap.size, 13, none⟩) zf).trans f13
        go_simp
      clear hK K
      simp only [Act.put, List.setIfInBounds_toArray, List.set_cons_zero, List.set_cons_succ]
      refine wpQuiet_step (fun K hK => ?_)
      rw [if_pos (by rfl)]
      refine ⟨fld id m inv o s, fun W' hW => ?_, hK _ ?_⟩
      · have e0 := (hW.cell (p := ⟨w.heap.size, 0, none⟩) zf).trans f0
        have e1 := (hW.cell (p := ⟨w.heap.size, 1, none⟩) zf).trans f1
        have e2 := (hW.cell (p := ⟨w.heap.size, 2, none⟩) zf).trans f2
        have e3 := (hW.cell (p := ⟨w.heap.size, 3, none⟩) zf).trans f3
        have e4 := (hW.cell (p := ⟨w.heap.size, 4, none⟩) zf).trans f4
        have e5 := (hW.cell (p := ⟨w.heap.size, 5, none⟩) zf).trans f5
        have e6 := (hW.cell (p := ⟨w.heap.size, 6, none⟩) zf).trans f6
        have e7 := (hW.cell (p := ⟨w.heap.size, 7, none⟩) zf).trans f7
        have e8 := (hW.cell (p := ⟨w.heap.size, 8, none⟩) zf).trans f8
        have e9 := (hW.cell (p := ⟨w.heap.size, 9, none⟩) zf).trans f9
        have e10 := (hW.cell (p := ⟨w.heap.size, 10, none⟩) zf).trans f10
        have e11 := (hW.cell (p := ⟨w.heap.size, 11, none⟩) zf).trans f11
        have e12 := (hW.cell (p := ⟨w.heap.size, 12, none⟩) zf).trans f12
        have e13 := (hW.cell (p := ⟨w.heap.size, 13, none⟩) zf).trans f13
        go_simp
      clear hK K
      simp only [Act.put, List.setIfInBounds_toArray, List.set_cons_zero, List.set_cons_succ]
      refine wpQuiet_step (fun K hK => ?_)
      rw [if_pos (by rfl)]
      refine ⟨vec r, fun W' hW => ?_, hK _ ?_⟩
      · have e0 := (hW.cell (p := ⟨wq.heap.size + 1, 0, none⟩) za).trans a0
        have e1 := (hW.cell (p := ⟨wq.heap.size + 1, 1, none⟩) za).trans a1
        have e2 := (hW.cell (p := ⟨wq.heap.size + 1, 2, none⟩) za).trans a2
        have e3 := (hW.cell (p := ⟨wq.heap.size + 1, 3, none⟩) za).trans a3
        go_simp
      clear hK K
      simp only [Act.put, List.setIfInBounds_toArray, List.set_cons_zero, List.set_cons_succ]
      refine wpQuiet_step (fun K hK => ?_)
      rw [if_pos (by rfl)]
      refine ⟨vec x, fun W' hW => ?_, hK _ ?_⟩
      · have e0 := (hW.cell (p := ⟨w.heap.size + 1, 0, none⟩) zx).trans x0
        have e1 := (hW.cell (p := ⟨w.heap.size + 1, 1, none⟩) zx).trans x1
        have e2 := (hW.cell (p := ⟨w.heap.size + 1, 2, none⟩) zx).trans x2
        have e3 := (hW.cell (p := ⟨w.heap.size + 1, 3, none⟩) zx).trans x3
        go_simp
      clear hK K
      simp only [Act.put, List.setIfInBounds_toArray, List.set_cons_zero, List.set_cons_succ]
      refine wpQuiet_step (fun K hK => ?_)
      rw [if_pos (by rfl)]
      refine ⟨vec (mont m r x), fun W' hW => ?_, hK _ ?_⟩
      · go_simp
        refine (M1.out _).mono ?_
        rintro e w' ⟨rfl, b⟩
        exact ⟨rfl, hW.trans (b.mono hW.size)⟩
      clear hK K
      simp only [Act.put, List.setIfInBounds_toArray, List.set_cons_zero, List.set_cons_succ]
      refine wpQuiet_step (fun K hK => ?_)
      rw [if_pos (by rfl)]
      refine ⟨vec y, fun W' hW => ?_, hK _ ?_⟩
      · have e0 := (hW.cell (p := ⟨W.heap.size, 0, none⟩) zy).trans y0
        have e1 := (hW.cell (p := ⟨W.heap.size, 1, none⟩) zy).trans y1
        have e2 := (hW.cell (p := ⟨W.heap.size, 2, none⟩) zy).trans y2
        have e3 := (hW.cell (p := ⟨W.heap.size, 3, none⟩) zy).trans y3
        go_simp
      clear hK K
      simp only [Act.put, List.setIfInBounds_toArray, List.set_cons_zero, List.set_cons_succ]
      refine wpQuiet_step (fun K hK => ?_)
      rw [if_pos (by rfl)]
      refine ⟨vec (addm m (mont m r x) y), fun W' hW => ?_, hK _ ?_⟩
      · go_simp
        refine (M2.out _).mono ?_
        rintro e w' ⟨rfl, b⟩
        exact ⟨rfl, hW.trans (b.mono hW.size)⟩
      clear hK K
      simp only [Act.put, List.setIfInBounds_toArray, List.set_cons_zero, List.set_cons_succ]
      refine wpQuiet_nil ?_
      intro W3 hW3
      have la := da.below hW3 za
      have lq := dq.below hW3 zq2
      have zb := hW3.size
      have b0 := la.cell (i := 0) rfl
      have bf0 := la.frozen 0
      have b1 := la.cell (i := 1) rfl
      have bf1 := la.frozen 1
      have b2 := la.cell (i := 2) rfl
      have bf2 := la.frozen 2
      have b3 := la.cell (i := 3) rfl
      have bf3 := la.frozen 3
      have k0 := lq.cell (i := 0) rfl
      have zla := la.lt
      obtain ⟨r2, hr2⟩ : ∃ r2, addm m (mont m r x) y = r2 := ⟨_, rfl⟩
      have HR2 := hid hr2
      rw [hr2]
      have O3 := (Below.only hW3 (fun k => k = wq.heap.size + 1))
      have OE := (((O3.setCell (p := ⟨wq.heap.size + 1, 0, none⟩) (.inl rfl) (.int .u64 (limb r2 0 : Int))).setCell (p := ⟨wq.heap.size + 1, 1, none⟩) (.inl rfl) (.int .u64 (limb r2 1 : Int))).setCell (p := ⟨wq.heap.size + 1, 2, none⟩) (.inl rfl) (.int .u64 (limb r2 2 : Int))).setCell (p := ⟨wq.heap.size + 1, 3, none⟩) (.inl rfl) (.int .u64 (limb r2 3 : Int))
      have A4 := la.set4 (.int .u64 (limb r2 0 : Int)) (.int .u64 (limb r2 1 : Int)) (.int .u64 (limb r2 2 : Int)) (.int .u64 (limb r2 3 : Int))
      have hpr : r2 = horP m x (pre ++ [(0, y)]) := by rw [horP_snoc, HRR.out, HR2.out]
      have HPR := hid hpr
      clear hpr hr2 O3
      gi_wp2
      have KP : ∀ p, _ := fun p : VisS (wq.heap.size + 1 + 1 + 1 + 1) (wq.heap.size + 1 + 1 + 1) 143 #[ptr' (wq.heap.size + 1 + 1)] W ∧ BackS (wq.heap.size + 1 + 1) (.slice a (c + 1) cap) xs W => (⟨⟨(p.1.grow HG2.out).1.only OE (by omega), (p.1.grow HG2.out).2.only OE (by omega)⟩, (p.2.grow HG2.out).1.only OE (by omega), (p.2.grow HG2.out).2.only OE (fun ad h => by have := HGA.out ad h; omega)⟩ : VisS (wq.heap.size + 1 + 1 + 1 + 1) (wq.heap.size + 1 + 1 + 1) 143 #[ptr' (wq.heap.size + 1 + 1)] _ ∧ BackS (wq.heap.size + 1 + 1) (.slice a (c + 1) cap) xs _)
      exact ⟨OE.low _ _, ⟨KP, (HG2.out.keeps _).trans (OE.keeps (fun k h => by omega))⟩, df.only OE (by omega), dx.only OE (by omega), dz.only OE (by omega), dq.only OE (by omega), by rw [← HPR.out]; exact A4, ⟨ys, owns_only do' OE (fun k h => by cases h; show ¬ (w.heap.size + 1 + 1 + 1 = wq.heap.size + 1); omega), by rw [List.length_append]; exact HQR.out.skip (by omega)⟩, HB2.out.trans (OE.below (fun k h => by omega) (by omega)), Nat.le_trans zz2 OE.size⟩
    · obtain ⟨j, rfl⟩ : ∃ j, i = j + 1 := ⟨i - 1, by omega⟩
      gi_wp2
      refine wpIn_round_soft (C := fun W' => Below W2.heap.size W2 W') 7 (by kernel_rfl) (by kernel_rfl) (by kernel_rfl) ((Below.refl _ _).drew) ?_
      simp only [List.take_succ_cons, List.take_zero, List.drop_succ_cons, List.drop_zero]
      refine wpQuiet_step (fun K hK => ?_)
      rw [if_pos (by rfl)]
      refine ⟨fld id m inv o s, fun W' hW => ?_, hK _ ?_⟩
      · have e0 := (hW.cell (p := ⟨w.heap.size, 0, none⟩) zf).trans f0
        have e1 := (hW.cell (p := ⟨w.heap.size, 1, none⟩) zf).trans f1
        have e2 := (hW.cell (p := ⟨w.heap.size, 2, none⟩) zf).trans f2
        have e3 := (hW.cell (p := ⟨w.heap.size, 3, none⟩) zf).trans f3
        have e4 := (hW.cell (p := ⟨w.heap.size, 4, none⟩) zf).trans f4
        have e5 := (hW.cell (p := ⟨w.heap.size, 5, none⟩) zf).trans f5
        have e6 := (hW.cell (p := ⟨w.heap.size, 6, none⟩) zf).trans f6
        have e7 := (hW.cell (p := ⟨w.heap.size, 7, none⟩) zf).trans f7
        have e8 := (hW.cell (p := ⟨w.heap.size, 8, none⟩) zf).trans f8
        have e9 := (hW.cell (p := ⟨w.heap.size, 9, none⟩) zf).trans f9
        have e10 := (hW.cell (p := ⟨w.heap.size, 10, none⟩) zf).trans f10
        have e11 := (hW.cell (p := ⟨w.heap.size, 11, none⟩) zf).trans f11
        have e12 := (hW.cell (p := ⟨w.heap.size, 12, none⟩) zf).trans f12
        have e13 := (hW.cell (p := ⟨w.heap.size, 13, none⟩) zf).trans f13
        go_simp
      clear hK K
      simp only [Act.put, List.setIfInBounds_toArray, List.set_cons_zero, List.set_cons_succ]
      refine wpQuiet_step (fun K hK => ?_)
      rw [if_pos (by rfl)]
      refine ⟨fld id m inv o s, fun W' hW => ?_, hK _ ?_⟩
      · have e0 := (hW.cell (p := ⟨w.heap.size, 0, none⟩) zf).trans f0
        have e1 := (hW.cell (p := ⟨w.heap.size, 1, none⟩) zf).trans f1
        have e2 := (hW.cell (p := ⟨w.heap.size, 2, none⟩) zf).trans f2
        have e3 := (hW.cell (p := ⟨w.heap.size, 3, none⟩) zf).trans f3
        have e4 := (hW.cell (p := ⟨w.heap.size, 4, none⟩) zf).trans f4
        have e5 := (hW.cell (p := ⟨w.heap.size, 5, none⟩) zf).trans f5
        have e6 := (hW.cell (p := ⟨w.heap.size, 6, none⟩) zf).trans f6
        have e7 := (hW.cell (p := ⟨w.heap.size, 7, none⟩) zf).trans f7
        have e8 := (hW.cell (p := ⟨w.heap.size, 8, none⟩) zf).trans f8
        have e9 := (hW.cell (p := ⟨w.heap.size, 9, none⟩) zf).trans f9
        have e10 := (hW.cell (p := ⟨w.heap.size, 10, none⟩) zf).trans f10
        have e11 := (hW.cell (p := ⟨w.heap.size, 11, none⟩) zf).trans f11
        have e12 := (hW.cell (p := ⟨w.heap.size, 12, none⟩) zf).trans f12
        have e13 := (hW.cell (p := ⟨w.heap.size, 13, none⟩) zf).trans f13
        go_simp
      clear hK K
      simp only [Act.put, List.setIfInBounds_toArray, List.set_cons_zero, List.set_cons_succ]
      refine wpQuiet_step (fun K hK => ?_)
      rw [if_pos (by rfl)]
      refine ⟨vec r, fun W' hW => ?_, hK _ ?_⟩
      · have e0 := (hW.cell (p := ⟨wq.heap.size + 1, 0, none⟩) za).trans a0
        have e1 := (hW.cell (p := ⟨wq.heap.size + 1, 1, none⟩) za).trans a1
        have e2 := (hW.cell (p := ⟨wq.heap.size + 1, 2, none⟩) za).trans a2
        have e3 := (hW.cell (p := ⟨wq.heap.size + 1, 3, none⟩) za).trans a3
        go_simp
      clear hK K
      simp only [Act.put, List.setIfInBounds_toArray, List.set_cons_zero, List.set_cons_succ]
      refine wpQuiet_step (fun K hK => ?_)
      rw [if_pos (by rfl)]
      refine ⟨vec x, fun W' hW => ?_, hK _ ?_⟩
      · have e0 := (hW.cell (p := ⟨w.heap.size + 1, 0, none⟩) zx).trans x0
        have e1 := (hW.cell (p := ⟨w.heap.size + 1, 1, none⟩) zx).trans x1
        have e2 := (hW.cell (p := ⟨w.heap.size + 1, 2, none⟩) zx).trans x2
        have e3 := (hW.cell (p := ⟨w.heap.size + 1, 3, none⟩) zx).trans x3
        go_simp
      clear hK K
      simp only [Act.put, List.setIfInBounds_toArray, List.set_cons_zero, List.set_cons_succ]
      refine wpQuiet_step (fun K hK => ?_)
      rw [if_pos (by rfl)]
      refine ⟨vec (mont m r x), fun W' hW => ?_, hK _ ?_⟩
      · go_simp
        refine (M1.out _).mono ?_
        rintro e w' ⟨rfl, b⟩
        exact ⟨rfl, hW.trans (b.mono hW.size)⟩
      clear hK K
      simp only [Act.put, List.setIfInBounds_toArray, List.set_cons_zero, List.set_cons_succ]
      refine wpQuiet_step (fun K hK => ?_)
      rw [if_pos (by rfl)]
      refine ⟨vec y, fun W' hW => ?_, hK _ ?_⟩
      · have e0 := (hW.cell (p := ⟨W.heap.size, 0, none⟩) zy).trans y0
        have e1 := (hW.cell (p := ⟨W.heap.size, 1, none⟩) zy).trans y1
        have e2 := (hW.cell (p := ⟨W.heap.size, 2, none⟩) zy).trans y2
        have e3 := (hW.cell (p := ⟨W.heap.size, 3, none⟩) zy).trans y3
        go_simp
      clear hK K
      simp only [Act.put, List.setIfInBounds_toArray, List.set_cons_zero, List.set_cons_succ]
      refine wpQuiet_step (fun K hK => ?_)
      rw [if_pos (by rfl)]
      refine ⟨vec (addm m (mont m r x) y), fun W' hW => ?_, hK _ ?_⟩
      · go_simp
        refine (M2.out _).mono ?_
        rintro e w' ⟨rfl, b⟩
        exact ⟨rfl, hW.trans (b.mono hW.size)⟩
      clear hK K
      simp only [Act.put, List.setIfInBounds_toArray, List.set_cons_zero, List.set_cons_succ]
      refine wpQuiet_nil ?_
      intro W3 hW3
      have la := da.below hW3 za
      have lq := dq.below hW3 zq2
      have zb := hW3.size
      have b0 := la.cell (i := 0) rfl
      have bf0 := la.frozen 0
      have b1 := la.cell (i := 1) rfl
      have bf1 := la.frozen 1
      have b2 := la.cell (i := 2) rfl
      have bf2 := la.frozen 2
      have b3 := la.cell (i := 3) rfl
      have bf3 := la.frozen 3
      have k0 := lq.cell (i := 0) rfl
      have zla := la.lt
      obtain ⟨r2, hr2⟩ : ∃ r2, addm m (mont m r x) y = r2 := ⟨_, rfl⟩
      have HR2 := hid hr2
      rw [hr2]
      have O3 := (Below.only hW3 (fun k => k = wq.heap.size + 1))
      have OE := (((O3.setCell (p := ⟨wq.heap.size + 1, 0, none⟩) (.inl rfl) (.int .u64 (limb r2 0 : Int))).setCell (p := ⟨wq.heap.size + 1, 1, none⟩) (.inl rfl) (.int .u64 (limb r2 1 : Int))).setCell (p := ⟨wq.heap.size + 1, 2, none⟩) (.inl rfl) (.int .u64 (limb r2 2 : Int))).setCell (p := ⟨wq.heap.size + 1, 3, none⟩) (.inl rfl) (.int .u64 (limb r2 3 : Int))
      have A4 := la.set4 (.int .u64 (limb r2 0 : Int)) (.int .u64 (limb r2 1 : Int)) (.int .u64 (limb r2 2 : Int)) (.int .u64 (limb r2 3 : Int))
      have hpr : r2 = horP m x (pre ++ [(j + 1, y)]) := by rw [horP_snoc, HRR.out, HR2.out]
      have HPR := hid hpr
      clear hpr hr2 O3
      have lo := owns_keep do' hW3
      have t0 := (lo.cellAt (j * 4) (by omega)).trans (HQR.out.2 j 0 (by omega) (by omega))
      have t1 := (lo.cellAt (j * 4 + 1) (by omega)).trans (HQR.out.2 j 1 (by omega) (by omega))
      have t2 := (lo.cellAt (j * 4 + 2) (by omega)).trans (HQR.out.2 j 2 (by omega) (by omega))
      have t3 := (lo.cellAt (j * 4 + 3) (by omega)).trans (HQR.out.2 j 3 (by omega) (by omega))
      have u0 := lo.frozenAt (j * 4)
      have u1 := lo.frozenAt (j * 4 + 1)
      have u2 := lo.frozenAt (j * 4 + 2)
      have u3 := lo.frozenAt (j * 4 + 3)
      have zlo : w.heap.size + 1 + 1 + 1 < W3.heap.size := (lo.lt _ rfl).2
      have hjc : (j : Int) < (c : Int) := by omega
      have hjc2 : j < c := by omega
      gi_wp2
      have own1 := owns_only do' OE (fun k h => by cases h; show ¬ (w.heap.size + 1 + 1 + 1 = wq.heap.size + 1); omega)
      have OF := ((((OE.mono (fun k h => Or.inl (b := k = w.heap.size + 1 + 1 + 1) h)).setCell (p := ⟨w.heap.size + 1 + 1 + 1, j * 4, none⟩) (.inl (.inr rfl)) (.int .u64 (limb r2 0 : Int))).setCell (p := ⟨w.heap.size + 1 + 1 + 1, j * 4 + 1, none⟩) (.inl (.inr rfl)) (.int .u64 (limb r2 1 : Int))).setCell (p := ⟨w.heap.size + 1 + 1 + 1, j * 4 + 2, none⟩) (.inl (.inr rfl)) (.int .u64 (limb r2 2 : Int))).setCell (p := ⟨w.heap.size + 1 + 1 + 1, j * 4 + 3, none⟩) (.inl (.inr rfl)) (.int .u64 (limb r2 3 : Int))
      have A5 := (((A4.other ⟨w.heap.size + 1 + 1 + 1, j * 4, none⟩ (.int .u64 (limb r2 0 : Int)) (by dsimp only; omega)).other ⟨w.heap.size + 1 + 1 + 1, j * 4 + 1, none⟩ (.int .u64 (limb r2 1 : Int)) (by dsimp only; omega)).other ⟨w.heap.size + 1 + 1 + 1, j * 4 + 2, none⟩ (.int .u64 (limb r2 2 : Int)) (by dsimp only; omega)).other ⟨w.heap.size + 1 + 1 + 1, j * 4 + 3, none⟩ (.int .u64 (limb r2 3 : Int)) (by dsimp only; omega)
      have KP : ∀ p, _ := fun p : VisS (wq.heap.size + 1 + 1 + 1 + 1) (wq.heap.size + 1 + 1 + 1) 143 #[ptr' (wq.heap.size + 1 + 1)] W ∧ BackS (wq.heap.size + 1 + 1) (.slice a (c + 1) cap) xs W => (⟨⟨(p.1.grow HG2.out).1.only OF (by omega), (p.1.grow HG2.out).2.only OF (by omega)⟩, (p.2.grow HG2.out).1.only OF (by omega), (p.2.grow HG2.out).2.only OF (fun ad h => by have := HGA.out ad h; omega)⟩ : VisS (wq.heap.size + 1 + 1 + 1 + 1) (wq.heap.size + 1 + 1 + 1) 143 #[ptr' (wq.heap.size + 1 + 1)] _ ∧ BackS (wq.heap.size + 1 + 1) (.slice a (c + 1) cap) xs _)
      exact ⟨OF.low _ _, ⟨KP, (HG2.out.keeps _).trans (OF.keeps (fun k h => by omega))⟩, df.only OF (by omega), dx.only OF (by omega), dz.only OF (by omega), dq.only OF (by omega), by rw [← HPR.out]; exact A5, ⟨_, ((((own1.stored (j * 4) _).1.stored (j * 4 + 1) _).1.stored (j * 4 + 2) _).1.stored (j * 4 + 3) _).1, by rw [List.length_append]; exact HQR.out.store (by omega) r2 (by rw [take_next HGET.out, ← HPT.out]; exact HPR.out.symm)⟩, HB2.out.trans (OF.below (fun k h => by omega) (by omega)), Nat.le_trans zz2 OF.size⟩
  case done =>
    rintro D W hD ⟨h1, h2, h3, h4, h5, ⟨ys, h6, h7⟩, h8, h9⟩ hK
    have k0 := h4.cell (i := 0) rfl
    have b0 := h5.cell (i := 0) rfl
    have b1 := h5.cell (i := 1) rfl
    have b2 := h5.cell (i := 2) rfl
    have b3 := h5.cell (i := 3) rfl
    have rr0 := h3.cell (i := 0) rfl
    have rrf0 := h3.frozen 0
    have rr1 := h3.cell (i := 1) rfl
    have rrf1 := h3.frozen 1
    have rr2 := h3.cell (i := 2) rfl
    have rrf2 := h3.frozen 2
    have rr3 := h3.cell (i := 3) rfl
    have rrf3 := h3.frozen 3
    have zr := h3.lt
    have zk := h4.lt
    have zb := h5.lt
    gi_wp2
    refine wpIn_wide.2 ?_
    go_region
    gi_wp2
    obtain ⟨r2, hr2⟩ : ∃ r2, horP m x (downs xs) = r2 := ⟨_, rfl⟩
    rw [hr2]
    have HR2 := hid hr2
    have OE := (((((Only.refl (fun k => k = w.heap.size + 1 + 1) W).setCell (p := ⟨w.heap.size + 1 + 1, 0, none⟩) (.inl rfl) (.int .u64 (limb r2 0 : Int))).setCell (p := ⟨w.heap.size + 1 + 1, 1, none⟩) (.inl rfl) (.int .u64 (limb r2 1 : Int))).setCell (p := ⟨w.heap.size + 1 + 1, 2, none⟩) (.inl rfl) (.int .u64 (limb r2 2 : Int))).setCell (p := ⟨w.heap.size + 1 + 1, 3, none⟩) (.inl rfl) (.int .u64 (limb r2 3 : Int))).drew
    have R4 := Blk.drew (h3.set4 (.int .u64 (limb r2 0 : Int)) (.int .u64 (limb r2 1 : Int)) (.int .u64 (limb r2 2 : Int)) (.int .u64 (limb r2 3 : Int)))
    have OW := owns_only h6 OE (fun k h => by cases h; show ¬ (w.heap.size + 1 + 1 + 1 = w.heap.size + 1 + 1); omega)
    have BW := h8.trans (OE.below (n := w.heap.size) (fun k h => by omega) (by have := h8.size; omega))
    have hK2 := OE.block D _ hK (.inr rfl)
    skip
    refine ⟨by simp, .inl ⟨_, _, rfl, run_takeDeferred hK2, ?_⟩⟩
    have hg := (Grow.refl w5.heap.size _).putObj (.deferred none) hD hK2 rfl
    have R5 := R4.grow hg
    have p0 := R5.cell (i := 0) rfl
    have p1 := R5.cell (i := 1) rfl
    have p2 := R5.cell (i := 2) rfl
    have p3 := R5.cell (i := 3) rfl
    refine ⟨.tuple #[.slice (some ⟨w.heap.size + 1 + 1 + 1, 0, none⟩) c c, vec r2], by simp only [results, Tryd.results97]; go_simp, ?_⟩
    refine ⟨_, by rw [HR2.out], ?_, Below.behind BW (Nat.le_refl _) hg (by omega)⟩
    have e1 : ys = nums (quo m x xs) := by rw [downs_len] at h7; exact h7.done (by omega)
    rw [← e1, show xs.length - 1 = c by omega]
    exact owns_grow (owns_mono OW (by omega)) hg
  case stop => exact fun _ _ _ _ _ _ h _ => h.elim
end Go.Proofs.YtogenbggjodcnaaDoor
/-
  The inverses of many elements.
-/
namespace Go.Proofs.YtogenbggjodcnaaDoor
open Go.RowKit Go.Shelf

attribute [local go_sem] Oper.semAt_some

theorem inv_store {m n i c : Nat} {xs : List Nat} {zs : List Value} (h : FRow n (fun t => if t < i + 1 then frm m (pfx m (xs.take t)) else frm m (invm m (xs.getD t 0))) zs) (hc : i < n) (hp : frm m (invm m (xs.getD i 0)) = c) :
    FRow n (fun t => if t < i then frm m (pfx m (xs.take t)) else frm m (invm m (xs.getD t 0))) ((((zs.set (i * 4) (.int .u64 (limb c 0 : Int))).set (i * 4 + 1) (.int .u64 (limb c 1 : Int))).set (i * 4 + 2) (.int .u64 (limb c 2 : Int))).set (i * 4 + 3) (.int .u64 (limb c 3 : Int))) := by
  refine h.store hc c (fun t _ => ?_)
  by_cases e : t = i
  · rw [if_pos e, if_neg (by omega), e, hp]
  · rw [if_neg e]
    by_cases l : t < i
    · rw [if_pos l, if_pos (by omega)]
    · rw [if_neg l, if_neg (by omega)]
theorem inv_done {m n : Nat} {xs : List Nat} {zs : List Value} (h : FRow n (fun t => frm m (invm m (xs.getD t 0))) zs) (hn : xs.length = n) : zs = nums ((xs.map (invm m)).map (frm m)) := by
  rw [h.done, ← hn]
  refine congrArg nums (List.ext_getElem? fun k => ?_)
  rw [List.getElem?_map, List.map_map, List.getElem?_map]
  by_cases hk : k < xs.length
  · rw [List.getElem?_range hk, List.getElem?_eq_getElem hk]
    show some (frm m (invm m (xs.getD k 0))) = some (frm m (invm m xs[k]))
    rw [getD_some (List.getElem?_eq_getElem hk)]
  · rw [List.getElem?_eq_none (by simp; omega), List.getElem?_eq_none (by omega)]; rfl
theorem pfx_store {m n k p : Nat} {xs : List Nat} {zs : List Value} (h : FRow n (fun t => if t < k then frm m (pfx m (xs.take t)) else 0) zs) (hc : k < n) (hp : frm m (pfx m (xs.take k)) = p) :
    FRow n (fun t => if t < k + 1 then frm m (pfx m (xs.take t)) else 0) ((((zs.set (k * 4) (.int .u64 (limb p 0 : Int))).set (k * 4 + 1) (.int .u64 (limb p 1 : Int))).set (k * 4 + 2) (.int .u64 (limb p 2 : Int))).set (k * 4 + 3) (.int .u64 (limb p 3 : Int))) := by
  refine h.store hc p (fun t _ => ?_)
  by_cases e : t = k
  · rw [if_pos e, if_pos (by omega), e, hp]
  · rw [if_neg e]
    by_cases l : t < k
    · rw [if_pos l, if_pos (by omega)]
    · rw [if_neg l, if_neg (by omega)]
set_option maxRecDepth 100000 in
set_option maxHeartbeats 2000000 in
theorem batch_pos (id : Int) (m inv s n cap : Nat) (a : Option Addr) (xs : List Nat) (w : World) (hF : Hid (FieldOK m inv)) (hFer : Hid (Fer m)) (hS : NumSl w (.slice a n cap) (xs.map (frm m))) (hxs : Hid (∀ y ∈ xs, y < m)) (hn : xs.length = n) (h0 : 0 < n) (hl : n < 1000000) :
    Calls Tryd.prog 108 #[.pointer none, fld id m inv (frm m 1) s, .slice a n cap] w (RetOwn 29 4 n (nums ((xs.map (invm m)).map (frm m))) w) := by
  have hm2 := hF.out.2.1
  have hm1 := hF.out.1
  have HF4 := hid hF.out.2.2.2.1
  have hfl : (xs.map (frm m)).length = n := by rw [List.length_map, hn]
  have hga : ∀ ad, a = some ad → ad.block < w.heap.size := fun ad h => by
    obtain ⟨z, hz⟩ : ∃ z, (xs.map (frm m))[0]? = some z := ⟨(xs.map (frm m))[0]'(by omega), List.getElem?_eq_getElem _⟩
    obtain ⟨g, off, h9, hg, _⟩ := hS.at4 hz
    rw [h9] at h; cases h; exact hg
  have hne : ((n : Int) == 0) = false := by simp; omega
  obtain ⟨oo, hoo⟩ : ∃ z, frm m 1 = z := ⟨_, rfl⟩
  have HOO := hid hoo
  rw [hoo]
  clear hoo
  obtain ⟨i0, hi, hz0, hz1, hz2⟩ := info_parts info_el
  obtain ⟨wq, hmk, hoq, hgq⟩ := run_make_full (P := Tryd.prog) ((w.alloc (.cells #[.int .i64 id, .int .u64 (limb m 0 : Int), .int .u64 (limb m 1 : Int), .int .u64 (limb m 2 : Int), .int .u64 (limb m 3 : Int), .int .u64 (inv : Int), .int .u64 (limb oo 0 : Int), .int .u64 (limb oo 1 : Int), .int .u64 (limb oo 2 : Int), .int .u64 (limb oo 3 : Int), .int .u64 (limb s 0 : Int), .int .u64 (limb s 1 : Int), .int .u64 (limb s 2 : Int), .int .u64 (limb s 3 : Int)] 31))) (w.heap.size + 1) 34 29 i0 _ 4 Tryd.underlying34 hi hz0 hz1 .i64 .i64 n (by rw [hz2]; omega) (by unfold maxLen; omega) (by simp)
  have zW0 : ((w.alloc (.cells #[.int .i64 id, .int .u64 (limb m 0 : Int), .int .u64 (limb m 1 : Int), .int .u64 (limb m 2 : Int), .int .u64 (limb m 3 : Int), .int .u64 (inv : Int), .int .u64 (limb oo 0 : Int), .int .u64 (limb oo 1 : Int), .int .u64 (limb oo 2 : Int), .int .u64 (limb oo 3 : Int), .int .u64 (limb s 0 : Int), .int .u64 (limb s 1 : Int), .int .u64 (limb s 2 : Int), .int .u64 (limb s 3 : Int)] 31))).heap.size = w.heap.size + 1 := by simp
  have B0 : Below w.heap.size w ((w.alloc (.cells #[.int .i64 id, .int .u64 (limb m 0 : Int), .int .u64 (limb m 1 : Int), .int .u64 (limb m 2 : Int), .int .u64 (limb m 3 : Int), .int .u64 (inv : Int), .int .u64 (limb oo 0 : Int), .int .u64 (limb oo 1 : Int), .int .u64 (limb oo 2 : Int), .int .u64 (limb oo 3 : Int), .int .u64 (limb s 0 : Int), .int .u64 (limb s 1 : Int), .int .u64 (limb s 2 : Int), .int .u64 (limb s 3 : Int)] 31))) := by go_grown
  have Bq := Below.grown B0 hgq (by rw [zW0]; omega) (fun j hj => by cases hj)
  have f0 : Blk wq w.heap.size 31 [.int .i64 id, .int .u64 (limb m 0 : Int), .int .u64 (limb m 1 : Int), .int .u64 (limb m 2 : Int), .int .u64 (limb m 3 : Int), .int .u64 (inv : Int), .int .u64 (limb oo 0 : Int), .int .u64 (limb oo 1 : Int), .int .u64 (limb oo 2 : Int), .int .u64 (limb oo 3 : Int), .int .u64 (limb s 0 : Int), .int .u64 (limb s 1 : Int), .int .u64 (limb s 2 : Int), .int .u64 (limb s 3 : Int)] := Blk.grown (Blk.new rfl) hgq (by simp)
  have hoq' : wq.ownsRow (w.heap.size + 1) 29 4 (.slice (some ⟨w.heap.size + 1, 0, none⟩) n n) n (madeCells (Value.agg #[.int .u64 0, .int .u64 0, .int .u64 0, .int .u64 0]).cells (n * 4)).toList := by rw [zW0] at hoq; exact hoq
  rw [zW0] at hmk
  have zq : w.heap.size + 1 < wq.heap.size := (hoq'.lt _ rfl).2
  have HMK := hmk
  have SQ := hid (hS.below Bq)
  have qf0 := f0.cell (i := 6) rfl
  have qf1 := f0.cell (i := 7) rfl
  have qf2 := f0.cell (i := 8) rfl
  have qf3 := f0.cell (i := 9) rfl
  have zf0 := f0.lt
  clear hmk hi hz0 hz1 hz2 hoq hgq B0 zW0
  refine (callsIn_wide (n := 9)).1 ?_
  refine callsIn_of_wp_marks Tryd.func108 rfl trivial ?_ rfl
  simp only [Tryd.ntmps108, List.size_toArray, List.length_cons, List.length_nil, Nat.reduceAdd, Nat.reduceSub, Array.replicate_succ, Array.replicate_zero, List.push_toArray, List.append_toArray, List.nil_append, List.cons_append]
  gi_wp2_with (first | (refine ⟨trivial, ?_⟩; gi_at_call 113; refine (callsIn_wide.2 (all_any a n cap _)).mono ?_; rintro e w' ⟨rfl, rfl⟩) | (refine ⟨trivial, ?_⟩; gi_at_call 131; refine (callsIn_wide.2 (visitp_any none 136 _ _)).mono ?_; rintro e w' ⟨rfl, rfl⟩))
  clear qf0 qf1 qf2 qf3 zf0
  have G5 : Grow wq.heap.size wq (((((wq.alloc (.cells #[.slice (some ⟨w.heap.size + 1, 0, none⟩) n n] 34)).alloc (.cells #[.int .u64 (limb oo 0 : Int), .int .u64 (limb oo 1 : Int), .int .u64 (limb oo 2 : Int), .int .u64 (limb oo 3 : Int)] 29)).alloc (.cells #[.slice a n cap] 34)).alloc (.cells #[.pointer none] 53)).alloc (.cells #[.func (.func 136) #[] #[ptr' (wq.heap.size + 1 + 1)]] 160)) := (((((Grow.refl _ wq).alloc _).alloc _).alloc _).alloc _).alloc _
  have q5 : Blk (((((wq.alloc (.cells #[.slice (some ⟨w.heap.size + 1, 0, none⟩) n n] 34)).alloc (.cells #[.int .u64 (limb oo 0 : Int), .int .u64 (limb oo 1 : Int), .int .u64 (limb oo 2 : Int), .int .u64 (limb oo 3 : Int)] 29)).alloc (.cells #[.slice a n cap] 34)).alloc (.cells #[.pointer none] 53)).alloc (.cells #[.func (.func 136) #[] #[ptr' (wq.heap.size + 1 + 1)]] 160)) wq.heap.size 34 [.slice (some ⟨w.heap.size + 1, 0, none⟩) n n] := Blk.alloc (Blk.alloc (Blk.alloc (Blk.alloc (Blk.new rfl) _) _) _) _
  have p5 : Blk (((((wq.alloc (.cells #[.slice (some ⟨w.heap.size + 1, 0, none⟩) n n] 34)).alloc (.cells #[.int .u64 (limb oo 0 : Int), .int .u64 (limb oo 1 : Int), .int .u64 (limb oo 2 : Int), .int .u64 (limb oo 3 : Int)] 29)).alloc (.cells #[.slice a n cap] 34)).alloc (.cells #[.pointer none] 53)).alloc (.cells #[.func (.func 136) #[] #[ptr' (wq.heap.size + 1 + 1)]] 160)) (wq.heap.size + 1) 29 [.int .u64 (limb oo 0 : Int), .int .u64 (limb oo 1 : Int), .int .u64 (limb oo 2 : Int), .int .u64 (limb oo 3 : Int)] := Blk.alloc (Blk.alloc (Blk.alloc (Blk.new (by simp)) _) _) _
  have s5 : Blk (((((wq.alloc (.cells #[.slice (some ⟨w.heap.size + 1, 0, none⟩) n n] 34)).alloc (.cells #[.int .u64 (limb oo 0 : Int), .int .u64 (limb oo 1 : Int), .int .u64 (limb oo 2 : Int), .int .u64 (limb oo 3 : Int)] 29)).alloc (.cells #[.slice a n cap] 34)).alloc (.cells #[.pointer none] 53)).alloc (.cells #[.func (.func 136) #[] #[ptr' (wq.heap.size + 1 + 1)]] 160)) (wq.heap.size + 1 + 1) 34 [.slice a n cap] := Blk.alloc (Blk.alloc (Blk.new (by simp)) _) _
  have t5 : Blk (((((wq.alloc (.cells #[.slice (some ⟨w.heap.size + 1, 0, none⟩) n n] 34)).alloc (.cells #[.int .u64 (limb oo 0 : Int), .int .u64 (limb oo 1 : Int), .int .u64 (limb oo 2 : Int), .int .u64 (limb oo 3 : Int)] 29)).alloc (.cells #[.slice a n cap] 34)).alloc (.cells #[.pointer none] 53)).alloc (.cells #[.func (.func 136) #[] #[ptr' (wq.heap.size + 1 + 1)]] 160)) (wq.heap.size + 1 + 1 + 1) 53 [.pointer none] := Blk.alloc (Blk.new (by simp)) _
  have l5 : Blk (((((wq.alloc (.cells #[.slice (some ⟨w.heap.size + 1, 0, none⟩) n n] 34)).alloc (.cells #[.int .u64 (limb oo 0 : Int), .int .u64 (limb oo 1 : Int), .int .u64 (limb oo 2 : Int), .int .u64 (limb oo 3 : Int)] 29)).alloc (.cells #[.slice a n cap] 34)).alloc (.cells #[.pointer none] 53)).alloc (.cells #[.func (.func 136) #[] #[ptr' (wq.heap.size + 1 + 1)]] 160)) (wq.heap.size + 1 + 1 + 1 + 1) 160 [.func (.func 136) #[] #[ptr' (wq.heap.size + 1 + 1)]] := Blk.new (by simp)
  have z5 : (((((wq.alloc (.cells #[.slice (some ⟨w.heap.size + 1, 0, none⟩) n n] 34)).alloc (.cells #[.int .u64 (limb oo 0 : Int), .int .u64 (limb oo 1 : Int), .int .u64 (limb oo 2 : Int), .int .u64 (limb oo 3 : Int)] 29)).alloc (.cells #[.slice a n cap] 34)).alloc (.cells #[.pointer none] 53)).alloc (.cells #[.func (.func 136) #[] #[ptr' (wq.heap.size + 1 + 1)]] 160)).heap.size = wq.heap.size + 5 := by simp
  generalize (((((wq.alloc (.cells #[.slice (some ⟨w.heap.size + 1, 0, none⟩) n n] 34)).alloc (.cells #[.int .u64 (limb oo 0 : Int), .int .u64 (limb oo 1 : Int), .int .u64 (limb oo 2 : Int), .int .u64 (limb oo 3 : Int)] 29)).alloc (.cells #[.slice a n cap] 34)).alloc (.cells #[.pointer none] 53)).alloc (.cells #[.func (.func 136) #[] #[ptr' (wq.heap.size + 1 + 1)]] 160)) = w5 at *
  have S5 := SQ.out.grow G5
  have hP0 : VisS (wq.heap.size + 1 + 1 + 1 + 1) (wq.heap.size + 1 + 1 + 1) 136 #[ptr' (wq.heap.size + 1 + 1)] w5 ∧ BackS (wq.heap.size + 1 + 1) (.slice a n cap) (xs.map (frm m)) w5 := ⟨⟨l5, t5⟩, s5, S5⟩
  have B5 : Below w.heap.size w w5 := Below.behind Bq (Nat.le_refl _) G5 (by omega)
  have f5 := f0.grow G5
  have o5 := owns_grow hoq' G5
  have HNL := hid hn
  have p5' : Blk w5 (wq.heap.size + 1) 29 (limbs (frm m (pfx m (xs.take ([] : List (Nat × Nat)).length)))) := by
    show Blk w5 (wq.heap.size + 1) 29 (limbs (frm m (pfx m (xs.take 0)))); rw [List.take_zero, pfx_nil, HOO.out]; exact p5
  have hqr := (FRow.zero n _ (by rw [Array.length_toList]; exact size_madeCells _ _) (fun j i hj hi => made_zeros n j i hj hi)).congr (g := fun t => if t < ([] : List (Nat × Nat)).length then frm m (pfx m (xs.take t)) else 0) (fun t _ => by simp)
  refine wpIn_every (gf := 145) (lb := #[ptr' (wq.heap.size + 1 + 1 + 1 + 1), ptr' (wq.heap.size + 1 + 1 + 1)]) (encs := pairV) (xs := ups (xs.map (frm m)))
    (Kp := fun A B => (VisS (wq.heap.size + 1 + 1 + 1 + 1) (wq.heap.size + 1 + 1 + 1) 136 #[ptr' (wq.heap.size + 1 + 1)] A ∧ BackS (wq.heap.size + 1 + 1) (.slice a n cap) (xs.map (frm m)) A → VisS (wq.heap.size + 1 + 1 + 1 + 1) (wq.heap.size + 1 + 1 + 1) 136 #[ptr' (wq.heap.size + 1 + 1)] B ∧ BackS (wq.heap.size + 1 + 1) (.slice a n cap) (xs.map (frm m)) B) ∧ Keeps w5.heap.size A B)
    rfl (enters_of Tryd.func145 (by kernel_rfl) rfl)
    (fun W hg => visitp_seq _ _ _ _ (BackS (wq.heap.size + 1 + 1) (.slice a n cap) (xs.map (frm m))) (ups (xs.map (frm m))) W w5.heap.size hg.size (enters_of Tryd.func136 (by kernel_rfl) rfl) (hP0.1.grow hg) (hP0.2.grow hg) (fun B A A' h k => h.grow k) (fun W' hq => all_seq _ _ _ W' hq (by rw [hfl]; omega)))
    (fun h k => ⟨fun p => k.1 (h.1 p), h.2.trans k.2⟩) (fun A B hg => ⟨fun p => ⟨p.1.grow hg, p.2.grow hg⟩, hg.keeps _⟩) (fun _ => rfl)
    (fun pre W => Blk W w.heap.size 31 [.int .i64 id, .int .u64 (limb m 0 : Int), .int .u64 (limb m 1 : Int), .int .u64 (limb m 2 : Int), .int .u64 (limb m 3 : Int), .int .u64 (inv : Int), .int .u64 (limb oo 0 : Int), .int .u64 (limb oo 1 : Int), .int .u64 (limb oo 2 : Int), .int .u64 (limb oo 3 : Int), .int .u64 (limb s 0 : Int), .int .u64 (limb s 1 : Int), .int .u64 (limb s 2 : Int), .int .u64 (limb s 3 : Int)] ∧ Blk W wq.heap.size 34 [.slice (some ⟨w.heap.size + 1, 0, none⟩) n n] ∧ Blk W (wq.heap.size + 1) 29 (limbs (frm m (pfx m (xs.take pre.length)))) ∧ (∃ ys, W.ownsRow (w.heap.size + 1) 29 4 (.slice (some ⟨w.heap.size + 1, 0, none⟩) n n) n ys ∧ FRow n (fun t => if t < pre.length then frm m (pfx m (xs.take t)) else 0) ys) ∧ Below w.heap.size w W ∧ w5.heap.size ≤ W.heap.size ∧ NumSl W (.slice a n cap) (xs.map (frm m)))
    (fun _ _ _ => False)
    (fun pre A B h g => by
      obtain ⟨h1, h2, h4, ⟨ys, h6, h7⟩, h8, h9, h10⟩ := h
      exact ⟨h1.grow g, h2.grow g, h4.grow g, ⟨ys, owns_grow h6 g, h7⟩, Below.behind h8 (Nat.le_refl _) g (by omega), Nat.le_trans h9 g.size, h10.grow g⟩)
    (fun _ _ _ _ h _ => h) ⟨f5, q5, p5', ⟨_, o5, hqr⟩, B5, Nat.le_refl _, S5⟩ ?round ?done ?stop
  case stop => exact fun _ _ _ _ _ _ h _ => h.elim
  case round =>
    rintro lm l pre ⟨i, y⟩ W ⟨h1, h2, h4, ⟨ys, h6, h7⟩, h8, h9, h10⟩ hpre hl9
    obtain ⟨hget, hpt⟩ := pre_take hpre
    obtain ⟨hy, hik⟩ := ups_at hget
    obtain ⟨vx, hvx, rfl⟩ : ∃ vx, xs[i]? = some vx ∧ frm m vx = y := by rw [hik]; rw [List.getElem?_map] at hy; exact Option.map_eq_some_iff.1 hy
    have hvm : vx < m := hxs.out vx (List.mem_of_getElem? hvx)
    have hin : i < n := by have := (List.getElem?_eq_some_iff.1 hvx).1; omega
    have hyl : frm m vx < m := frm_lt vx (by omega)
    have hpl : frm m (pfx m (xs.take i)) < m := frm_lt _ (by omega)
    have hol : oo < m := by rw [← HOO.out]; exact frm_lt _ (by omega)
    have HTK := hid (take_next hvx)
    obtain ⟨p, hp⟩ : ∃ p, frm m (pfx m (xs.take i)) = p := ⟨_, rfl⟩
    rw [hik] at hp
    rw [← hik] at h7 h4
    rw [← hik] at hp
    rw [hp] at h4 hpl
    have HP := hid hp
    have HIK := hid hik
    obtain ⟨y, hyy⟩ : ∃ y, frm m vx = y := ⟨_, rfl⟩
    have HYY := hid hyy
    rw [hyy] at hyl ⊢
    have M1 := hid (fun W : World => misz_any y (by omega) W)
    have M2 := hid (fun W : World => mtake_any (zmk y) oo y (zmk_lt _) W)
    have hcl : pick (zmk y) oo y < m := pick_lt _ hol hyl
    have HCC : Hid (pick (zmk y) oo y = frm m (nz vx)) := hid (by
      rw [pick_zmk, ← HYY.out, ← HOO.out]; unfold nz
      by_cases h : vx = 0
      · rw [if_pos ((frm_eq_zero HF4.out hvm).2 h), if_pos h]
      · rw [if_neg (fun e => h ((frm_eq_zero HF4.out hvm).1 e)), if_neg h])
    obtain ⟨c, hc⟩ : ∃ c, pick (zmk y) oo y = c := ⟨_, rfl⟩
    rw [hc] at M2 hcl HCC
    have M3 := hid (mmul_any id m inv oo s p c hF.out (by omega) (by omega) (Nat.mul_lt_mul_of_lt_of_lt (by omega) hcl))
    have HRR : Hid (mont m p c = frm m (pfx m (xs.take (i + 1)))) := hid (by rw [HCC.out, ← HP.out, frm_mulm HF4.out, HTK.out, pfx_snoc])
    obtain ⟨r, hr⟩ : ∃ r, mont m p c = r := ⟨_, rfl⟩
    rw [hr] at M3 HRR
    have HQR := hid h7
    have HB8 := hid h8
    have HP0 := hid hP0
    have HGA := hid hga
    have HS10 := hid h10
    clear hik hga f0 hoq' HMK G5 q5 p5 s5 t5 l5 B5 f5 p5' o5 hqr h7 h8 hy hget hpt hpre hP0 hn Bq hS hvx hp hyy hc hr S5 h10 hfl
    simp only [pairV]
    gi_wp2
    refine ⟨((Only.refl (fun _ => True) W).alloc _).low _ _, fun W2 hg => ?_⟩
    have G2 : Grow w5.heap.size W W2 := ((Grow.refl _ W).alloc _).trans hg
    have dy : Blk W2 W.heap.size 29 (limbs y) := (Blk.new rfl).grow hg
    have df := h1.grow G2
    have dq := h2.grow G2
    have dp := h4.grow G2
    have do' := owns_grow h6 G2
    have zz2 : w5.heap.size ≤ W2.heap.size := Nat.le_trans h9 G2.size
    have zy : W.heap.size < W2.heap.size := dy.lt
    have HB2 := hid (Below.behind HB8.out (Nat.le_refl _) G2 (by omega))
    have HG2 := hid G2
    clear h1 h2 h4 h6 hg G2
    have zp := dp.lt
    have zq2 := dq.lt
    have zo : w.heap.size + 1 < W2.heap.size := (do'.lt _ rfl).2
    have hjc : (i : Int) < (n : Int) := by omega
    have hj0 : (0 : Int) ≤ (i : Int) := by omega
    have p0 := dp.cell (i := 0) rfl
    have p1 := dp.cell (i := 1) rfl
    have p2 := dp.cell (i := 2) rfl
    have p3 := dp.cell (i := 3) rfl
    have q0 := dq.cell (i := 0) rfl
    have t0 := (do'.cellAt (i * 4) (by omega)).trans (HQR.out.2 i 0 (by omega) (by omega))
    have t1 := (do'.cellAt (i * 4 + 1) (by omega)).trans (HQR.out.2 i 1 (by omega) (by omega))
    have t2 := (do'.cellAt (i * 4 + 2) (by omega)).trans (HQR.out.2 i 2 (by omega) (by omega))
    have t3 := (do'.cellAt (i * 4 + 3) (by omega)).trans (HQR.out.2 i 3 (by omega) (by omega))
    have u0 := do'.frozenAt (i * 4)
    have u1 := do'.frozenAt (i * 4 + 1)
    have u2 := do'.frozenAt (i * 4 + 2)
    have u3 := do'.frozenAt (i * 4 + 3)
    gi_wp2
    obtain ⟨W3, hw3⟩ : ∃ v, ((((W2.setCell ⟨w.heap.size + 1, i * 4, none⟩ (.int .u64 (limb p 0 : Int))).setCell ⟨w.heap.size + 1, i * 4 + 1, none⟩ (.int .u64 (limb p 1 : Int))).setCell ⟨w.heap.size + 1, i * 4 + 2, none⟩ (.int .u64 (limb p 2 : Int))).setCell ⟨w.heap.size + 1, i * 4 + 3, none⟩ (.int .u64 (limb p 3 : Int))) = v := ⟨_, rfl⟩
    have OA : Only (fun k => k = w.heap.size + 1) W2 W3 := by rw [← hw3]; exact (((((Only.refl (fun k => k = w.heap.size + 1) W2).setCell (p := ⟨w.heap.size + 1, i * 4, none⟩) (.inl rfl) _).setCell (p := ⟨w.heap.size + 1, i * 4 + 1, none⟩) (.inl rfl) _).setCell (p := ⟨w.heap.size + 1, i * 4 + 2, none⟩) (.inl rfl) _).setCell (p := ⟨w.heap.size + 1, i * 4 + 3, none⟩) (.inl rfl) _)
    have OW : ∃ ys, W3.ownsRow (w.heap.size + 1) 29 4 (.slice (some ⟨w.heap.size + 1, 0, none⟩) n n) n ys ∧ FRow n (fun t => if t < i + 1 then frm m (pfx m (xs.take t)) else 0) ys := by rw [← hw3]; exact ⟨_, ((((do'.stored (i * 4) _).1.stored (i * 4 + 1) _).1.stored (i * 4 + 2) _).1.stored (i * 4 + 3) _).1, pfx_store HQR.out (by omega) HP.out⟩
    rw [hw3]
    clear hw3
    have HOW := hid OW
    clear OW t0 t1 t2 t3 u0 u1 u2 u3 p0 p1 p2 p3 q0
    have ef := df.only OA (by omega)
    have eq := dq.only OA (by omega)
    have ep := dp.only OA (by omega)
    have ey := dy.only OA (by omega)
    have zs3 := OA.size
    have HOA := hid OA
    clear OA df dq dp dy do'
    have f0 := ef.cell (i := 0) rfl
    have f1 := ef.cell (i := 1) rfl
    have f2 := ef.cell (i := 2) rfl
    have f3 := ef.cell (i := 3) rfl
    have f4 := ef.cell (i := 4) rfl
    have f5 := ef.cell (i := 5) rfl
    have f6 := ef.cell (i := 6) rfl
    have f7 := ef.cell (i := 7) rfl
    have f8 := ef.cell (i := 8) rfl
    have f9 := ef.cell (i := 9) rfl
    have f10 := ef.cell (i := 10) rfl
    have f11 := ef.cell (i := 11) rfl
    have f12 := ef.cell (i := 12) rfl
    have f13 := ef.cell (i := 13) rfl
    have p0 := ep.cell (i := 0) rfl
    have p1 := ep.cell (i := 1) rfl
    have p2 := ep.cell (i := 2) rfl
    have p3 := ep.cell (i := 3) rfl
    have y0 := ey.cell (i := 0) rfl
    have y1 := ey.cell (i := 1) rfl
    have y2 := ey.cell (i := 2) rfl
    have y3 := ey.cell (i := 3) rfl
    have zf3 := ef.lt
    have zp3 := ep.lt
    have zy3 := ey.lt
    refine wpIn_round_soft (C := fun W' => Below W3.heap.size W3 W') 9 (by kernel_rfl) (by kernel_rfl) (by kernel_rfl) ((Below.refl _ _).drew) ?_
    simp only [List.take_succ_cons, List.take_zero, List.drop_succ_cons, List.drop_zero]
    refine wpQuiet_step (fun K hK => ?_)
    rw [if_pos (by rfl)]
    refine ⟨fld id m inv oo s, fun W' hW => ?_, hK _ ?_⟩
    · have e_0 := (hW.cell (p := ⟨w.heap.size, 0, none⟩) zf3).trans f0
      have e_1 := (hW.cell (p := ⟨w.heap.size, 1, none⟩) zf3).trans f1
      have e_2 := (hW.cell (p := ⟨w.heap.size, 2, none⟩) zf3).trans f2
      have e_3 := (hW.cell (p := ⟨w.heap.size, 3, none⟩) zf3).trans f3
      have e_4 := (hW.cell (p := ⟨w.heap.size, 4, none⟩) zf3).trans f4
      have e_5 := (hW.cell (p := ⟨w.heap.size, 5, none⟩) zf3).trans f5
      have e_6 := (hW.cell (p := ⟨w.heap.size, 6, none⟩) zf3).trans f6
      have e_7 := (hW.cell (p := ⟨w.heap.size, 7, none⟩) zf3).trans f7
      have e_8 := (hW.cell (p := ⟨w.heap.size, 8, none⟩) zf3).trans f8
      have e_9 := (hW.cell (p := ⟨w.heap.size, 9, none⟩) zf3).trans f9
      have e_10 := (hW.cell (p := ⟨w.heap.size, 10, none⟩) zf3).trans f10
      have e_11 := (hW.cell (p := ⟨w.heap.size, 11, none⟩) zf3).trans f11
      have e_12 := (hW.cell (p := ⟨w.heap.size, 12, none⟩) zf3).trans f12
      have e_13 := (hW.cell (p := ⟨w.heap.size, 13, none⟩) zf3).trans f13
      go_simp
    clear hK K
    simp only [Act.put, List.setIfInBounds_toArray, List.set_cons_zero, List.set_cons_succ]
    refine wpQuiet_step (fun K hK => ?_)
    rw [if_pos (by rfl)]
    refine ⟨vec p, fun W' hW => ?_, hK _ ?_⟩
    · have e_0 := (hW.cell (p := ⟨wq.heap.size + 1, 0, none⟩) zp3).trans p0
      have e_1 := (hW.cell (p := ⟨wq.heap.size + 1, 1, none⟩) zp3).trans p1
      have e_2 := (hW.cell (p := ⟨wq.heap.size + 1, 2, none⟩) zp3).trans p2
      have e_3 := (hW.cell (p := ⟨wq.heap.size + 1, 3, none⟩) zp3).trans p3
      go_simp
    clear hK K
    simp only [Act.put, List.setIfInBounds_toArray, List.set_cons_zero, List.set_cons_succ]
    refine wpQuiet_step (fun K hK => ?_)
    rw [if_pos (by rfl)]
    refine ⟨vec y, fun W' hW => ?_, hK _ ?_⟩
    · have e_0 := (hW.cell (p := ⟨W.heap.size, 0, none⟩) zy3).trans y0
      have e_1 := (hW.cell (p := ⟨W.heap.size, 1, none⟩) zy3).trans y1
      have e_2 := (hW.cell (p := ⟨W.heap.size, 2, none⟩) zy3).trans y2
      have e_3 := (hW.cell (p := ⟨W.heap.size, 3, none⟩) zy3).trans y3
      go_simp
    clear hK K
    simp only [Act.put, List.setIfInBounds_toArray, List.set_cons_zero, List.set_cons_succ]
    refine wpQuiet_step (fun K hK => ?_)
    rw [if_pos (by rfl)]
    refine ⟨.int .u64 (zmk y : Int), fun W' hW => ?_, hK _ ?_⟩
    · go_simp
      refine (M1.out _).mono ?_
      rintro e w' ⟨rfl, b⟩
      exact ⟨rfl, hW.trans (b.mono hW.size)⟩
    clear hK K
    simp only [Act.put, List.setIfInBounds_toArray, List.set_cons_zero, List.set_cons_succ]
    refine wpQuiet_step (fun K hK => ?_)
    rw [if_pos (by rfl)]
    refine ⟨.pointer (some ⟨w.heap.size, 6, none⟩), fun W' hW => ?_, hK _ ?_⟩
    · go_simp
    clear hK K
    simp only [Act.put, List.setIfInBounds_toArray, List.set_cons_zero, List.set_cons_succ]
    refine wpQuiet_step (fun K hK => ?_)
    rw [if_pos (by rfl)]
    refine ⟨vec oo, fun W' hW => ?_, hK _ ?_⟩
    · have e_0 := (hW.cell (p := ⟨w.heap.size, 6, none⟩) zf3).trans f6
      have e_1 := (hW.cell (p := ⟨w.heap.size, 7, none⟩) zf3).trans f7
      have e_2 := (hW.cell (p := ⟨w.heap.size, 8, none⟩) zf3).trans f8
      have e_3 := (hW.cell (p := ⟨w.heap.size, 9, none⟩) zf3).trans f9
      go_simp
    clear hK K
    simp only [Act.put, List.setIfInBounds_toArray, List.set_cons_zero, List.set_cons_succ]
    refine wpQuiet_step (fun K hK => ?_)
    rw [if_pos (by rfl)]
    refine ⟨vec y, fun W' hW => ?_, hK _ ?_⟩
    · have e_0 := (hW.cell (p := ⟨W.heap.size, 0, none⟩) zy3).trans y0
      have e_1 := (hW.cell (p := ⟨W.heap.size, 1, none⟩) zy3).trans y1
      have e_2 := (hW.cell (p := ⟨W.heap.size, 2, none⟩) zy3).trans y2
      have e_3 := (hW.cell (p := ⟨W.heap.size, 3, none⟩) zy3).trans y3
      go_simp
    clear hK K
    simp only [Act.put, List.setIfInBounds_toArray, List.set_cons_zero, List.set_cons_succ]
    refine wpQuiet_step (fun K hK => ?_)
    rw [if_pos (by rfl)]
    refine ⟨vec c, fun W' hW => ?_, hK _ ?_⟩
    · go_simp
      refine (M2.out _).mono ?_
      rintro e w' ⟨rfl, b⟩
      exact ⟨rfl, hW.trans (b.mono hW.size)⟩
    clear hK K
    simp only [Act.put, List.setIfInBounds_toArray, List.set_cons_zero, List.set_cons_succ]
    refine wpQuiet_step (fun K hK => ?_)
    rw [if_pos (by rfl)]
    refine ⟨vec r, fun W' hW => ?_, hK _ ?_⟩
    · go_simp
      refine (M3.out _).mono ?_
      rintro e w' ⟨rfl, b⟩
      exact ⟨rfl, hW.trans (b.mono hW.size)⟩
    clear hK K
    simp only [Act.put, List.setIfInBounds_toArray, List.set_cons_zero, List.set_cons_succ]
    refine wpQuiet_nil ?_
    intro W4 hW4
    have gp := ep.keep hW4
    have zg := gp.lt
    have zs4 := hW4.size
    have k0 := gp.cell (i := 0) rfl
    have kf0 := gp.frozen 0
    have k1 := gp.cell (i := 1) rfl
    have kf1 := gp.frozen 1
    have k2 := gp.cell (i := 2) rfl
    have kf2 := gp.frozen 2
    have k3 := gp.cell (i := 3) rfl
    have kf3 := gp.frozen 3
    clear f0 f1 f2 f3 f4 f5 f6 f7 f8 f9 f10 f11 f12 f13 p0 p1 p2 p3 y0 y1 y2 y3
    gi_wp2
    have OE : Only (fun k => k = w.heap.size + 1 ∨ k = wq.heap.size + 1) W2 ((((W4.setCell ⟨wq.heap.size + 1, 0, none⟩ (.int .u64 (limb r 0 : Int))).setCell ⟨wq.heap.size + 1, 1, none⟩ (.int .u64 (limb r 1 : Int))).setCell ⟨wq.heap.size + 1, 2, none⟩ (.int .u64 (limb r 2 : Int))).setCell ⟨wq.heap.size + 1, 3, none⟩ (.int .u64 (limb r 3 : Int))) := (((((HOA.out.mono (G := fun k => k = w.heap.size + 1 ∨ k = wq.heap.size + 1) (fun k h => Or.inl h)).call hW4).setCell (p := ⟨wq.heap.size + 1, 0, none⟩) (.inl (.inr rfl)) _).setCell (p := ⟨wq.heap.size + 1, 1, none⟩) (.inl (.inr rfl)) _).setCell (p := ⟨wq.heap.size + 1, 2, none⟩) (.inl (.inr rfl)) _).setCell (p := ⟨wq.heap.size + 1, 3, none⟩) (.inl (.inr rfl)) _
    have ON : Only (fun k => k = wq.heap.size + 1) W3 ((((W4.setCell ⟨wq.heap.size + 1, 0, none⟩ (.int .u64 (limb r 0 : Int))).setCell ⟨wq.heap.size + 1, 1, none⟩ (.int .u64 (limb r 1 : Int))).setCell ⟨wq.heap.size + 1, 2, none⟩ (.int .u64 (limb r 2 : Int))).setCell ⟨wq.heap.size + 1, 3, none⟩ (.int .u64 (limb r 3 : Int))) := (only_set4 W4 (wq.heap.size + 1) _ _ _ _).mono (fun k h => h) |> fun q => (Below.only hW4 (fun k => k = wq.heap.size + 1)).trans q
    have KP : ∀ p, _ := fun p : VisS (wq.heap.size + 1 + 1 + 1 + 1) (wq.heap.size + 1 + 1 + 1) 136 #[ptr' (wq.heap.size + 1 + 1)] W ∧ BackS (wq.heap.size + 1 + 1) (.slice a n cap) (xs.map (frm m)) W => (⟨⟨(p.1.grow HG2.out).1.only OE (by omega), (p.1.grow HG2.out).2.only OE (by omega)⟩, (p.2.grow HG2.out).1.only OE (by omega), (p.2.grow HG2.out).2.only OE (fun ad h => by have := HGA.out ad h; omega)⟩ : VisS (wq.heap.size + 1 + 1 + 1 + 1) (wq.heap.size + 1 + 1 + 1) 136 #[ptr' (wq.heap.size + 1 + 1)] _ ∧ BackS (wq.heap.size + 1 + 1) (.slice a n cap) (xs.map (frm m)) _)
    obtain ⟨ys2, hy6, hy7⟩ := HOW.out
    exact ⟨OE.low _ _, ⟨KP, (HG2.out.keeps _).trans (OE.keeps (fun k h => by omega))⟩, ef.only ON (by omega), eq.only ON (by omega), by rw [List.length_append]; show Blk _ _ _ (limbs (frm m (pfx m (xs.take (pre.length + 1))))); rw [← HIK.out, ← HRR.out]; exact gp.set4 (.int .u64 (limb r 0 : Int)) (.int .u64 (limb r 1 : Int)) (.int .u64 (limb r 2 : Int)) (.int .u64 (limb r 3 : Int)), ⟨ys2, owns_only hy6 ON (fun k h => by cases h; show ¬ (w.heap.size + 1 = wq.heap.size + 1); omega), by rw [List.length_append]; show FRow n (fun t => if t < pre.length + 1 then _ else 0) ys2; rw [← HIK.out]; exact hy7⟩, HB2.out.trans (OE.below (fun k h => by omega) (by omega)), by have := OE.size; omega, (HS10.out.grow HG2.out).only OE (fun ad h => by have := HGA.out ad h; omega)⟩
  case done =>
    rintro D W hD ⟨h1, h2, h4, ⟨ys, h6, h7⟩, h8, h9, h10⟩ hK
    rw [ups_len, hfl, List.take_of_length_le (by omega)] at h4
    rw [ups_len, hfl] at h7
    have hpn : pfx m xs < m := pfx_lt (by omega) xs
    have MI := hid (fun W : World => inverse_any id m inv s (pfx m xs) hF.out hpn W)
    have hj1 : mulm m (pfx m xs) (invm m (pfx m xs)) = 1 := inv_left hFer.out (by omega) (unit_pfx hFer.out (by omega) xs hxs.out) hpn
    have HJ1 := hid (And.intro (invm_lt (pfx m xs) (show 0 < m by omega)) hj1)
    rw [HOO.out] at MI
    obtain ⟨jn, hjn⟩ : ∃ j, frm m (invm m (pfx m xs)) = j := ⟨_, rfl⟩
    have HJN := hid hjn
    rw [hjn] at MI
    obtain ⟨pn, hpn2⟩ : ∃ j, frm m (pfx m xs) = j := ⟨_, rfl⟩
    rw [hpn2] at MI h4
    have zf := h1.lt
    have zp := h4.lt
    have HQ7 := hid h7
    have HX10 := hid h10
    have HB8 := hid h8
    have HNL2 := hid hn
    clear hjn hpn2 hj1 h7 h10 h8 f0 hoq' HMK G5 q5 p5 s5 t5 l5 B5 f5 p5' o5 hqr hP0 Bq hS S5 SQ hpn
    have f0 := h1.cell (i := 0) rfl
    have f1 := h1.cell (i := 1) rfl
    have f2 := h1.cell (i := 2) rfl
    have f3 := h1.cell (i := 3) rfl
    have f4 := h1.cell (i := 4) rfl
    have f5 := h1.cell (i := 5) rfl
    have f6 := h1.cell (i := 6) rfl
    have f7 := h1.cell (i := 7) rfl
    have f8 := h1.cell (i := 8) rfl
    have f9 := h1.cell (i := 9) rfl
    have f10 := h1.cell (i := 10) rfl
    have f11 := h1.cell (i := 11) rfl
    have f12 := h1.cell (i := 12) rfl
    have f13 := h1.cell (i := 13) rfl
    have p0 := h4.cell (i := 0) rfl
    have p1 := h4.cell (i := 1) rfl
    have p2 := h4.cell (i := 2) rfl
    have p3 := h4.cell (i := 3) rfl
    gi_wp2_with (first | (refine ⟨trivial, ?_⟩; gi_at_call 134; refine (callsIn_wide.2 (MI.out _)).mono ?_; rintro e w1 ⟨rfl, b1⟩; have HB1 := hid b1; clear b1) | (refine ⟨trivial, ?_⟩; gi_at_call 126; refine (callsIn_wide.2 (back_any a n cap _)).mono ?_; rintro e w' ⟨rfl, rfl⟩) | (refine ⟨trivial, ?_⟩; gi_at_call 131; refine (callsIn_wide.2 (visitp_any none 143 _ _)).mono ?_; rintro e w' ⟨rfl, rfl⟩))
    clear f0 f1 f2 f3 f4 f5 f6 f7 f8 f9 f10 f11 f12 f13 p0 p1 p2 p3
    have zw1 := HB1.out.size
    have G6 : Grow W.heap.size W ((((w1.alloc (.cells #[.int .u64 (limb jn 0 : Int), .int .u64 (limb jn 1 : Int), .int .u64 (limb jn 2 : Int), .int .u64 (limb jn 3 : Int)] 29)).alloc (.cells #[.slice a n cap] 34)).alloc (.cells #[.pointer none] 53)).alloc (.cells #[.func (.func 143) #[] #[ptr' (w1.heap.size + 1)]] 160)) := ((((Below.grow HB1.out W.heap.size).alloc _).alloc _).alloc _).alloc _
    have j6 : Blk ((((w1.alloc (.cells #[.int .u64 (limb jn 0 : Int), .int .u64 (limb jn 1 : Int), .int .u64 (limb jn 2 : Int), .int .u64 (limb jn 3 : Int)] 29)).alloc (.cells #[.slice a n cap] 34)).alloc (.cells #[.pointer none] 53)).alloc (.cells #[.func (.func 143) #[] #[ptr' (w1.heap.size + 1)]] 160)) (w1.heap.size) 29 [.int .u64 (limb jn 0 : Int), .int .u64 (limb jn 1 : Int), .int .u64 (limb jn 2 : Int), .int .u64 (limb jn 3 : Int)] := Blk.alloc (Blk.alloc (Blk.alloc (Blk.new rfl) _) _) _
    have s6 : Blk ((((w1.alloc (.cells #[.int .u64 (limb jn 0 : Int), .int .u64 (limb jn 1 : Int), .int .u64 (limb jn 2 : Int), .int .u64 (limb jn 3 : Int)] 29)).alloc (.cells #[.slice a n cap] 34)).alloc (.cells #[.pointer none] 53)).alloc (.cells #[.func (.func 143) #[] #[ptr' (w1.heap.size + 1)]] 160)) (w1.heap.size + 1) 34 [.slice a n cap] := Blk.alloc (Blk.alloc (Blk.new (by simp)) _) _
    have t6 : Blk ((((w1.alloc (.cells #[.int .u64 (limb jn 0 : Int), .int .u64 (limb jn 1 : Int), .int .u64 (limb jn 2 : Int), .int .u64 (limb jn 3 : Int)] 29)).alloc (.cells #[.slice a n cap] 34)).alloc (.cells #[.pointer none] 53)).alloc (.cells #[.func (.func 143) #[] #[ptr' (w1.heap.size + 1)]] 160)) (w1.heap.size + 1 + 1) 53 [.pointer none] := Blk.alloc (Blk.new (by simp)) _
    have l6 : Blk ((((w1.alloc (.cells #[.int .u64 (limb jn 0 : Int), .int .u64 (limb jn 1 : Int), .int .u64 (limb jn 2 : Int), .int .u64 (limb jn 3 : Int)] 29)).alloc (.cells #[.slice a n cap] 34)).alloc (.cells #[.pointer none] 53)).alloc (.cells #[.func (.func 143) #[] #[ptr' (w1.heap.size + 1)]] 160)) (w1.heap.size + 1 + 1 + 1) 160 [.func (.func 143) #[] #[ptr' (w1.heap.size + 1)]] := Blk.new (by simp)
    have z6 : ((((w1.alloc (.cells #[.int .u64 (limb jn 0 : Int), .int .u64 (limb jn 1 : Int), .int .u64 (limb jn 2 : Int), .int .u64 (limb jn 3 : Int)] 29)).alloc (.cells #[.slice a n cap] 34)).alloc (.cells #[.pointer none] 53)).alloc (.cells #[.func (.func 143) #[] #[ptr' (w1.heap.size + 1)]] 160)).heap.size = w1.heap.size + 4 := by simp
    generalize ((((w1.alloc (.cells #[.int .u64 (limb jn 0 : Int), .int .u64 (limb jn 1 : Int), .int .u64 (limb jn 2 : Int), .int .u64 (limb jn 3 : Int)] 29)).alloc (.cells #[.slice a n cap] 34)).alloc (.cells #[.pointer none] 53)).alloc (.cells #[.func (.func 143) #[] #[ptr' (w1.heap.size + 1)]] 160)) = w6 at *
    have S6 := HX10.out.grow G6
    have hP6 : VisS (w1.heap.size + 1 + 1 + 1) (w1.heap.size + 1 + 1) 143 #[ptr' (w1.heap.size + 1)] w6 ∧ BackS (w1.heap.size + 1) (.slice a n cap) (xs.map (frm m)) w6 := ⟨⟨l6, t6⟩, s6, S6⟩
    have B6 : Below w.heap.size w w6 := Below.behind HB8.out (Nat.le_refl _) G6 (by omega)
    have f6 := h1.grow G6
    have q6 := h2.grow G6
    have o6 := owns_grow h6 G6
    have zDW : D < W.heap.size := by
      rcases Nat.lt_or_ge D W.heap.size with h | h
      · exact h
      · rw [Array.getElem?_eq_none h] at hK; cases hK
    have k6 : w6.heap[D]? = some (.deferred (some [])) := G6.block D _ hK (.inl zDW)
    have j6' : Blk w6 (w1.heap.size) 29 (limbs (frm m (invm m (pfx m xs)))) := by rw [HJN.out]; exact j6
    have z6' : w1.heap.size + 4 ≤ w6.heap.size := by omega
    clear z6
    clear h1 h2 h4 h6 hK G6 j6 HB1 HX10 HB8 zf zp
    refine wpIn_every (gf := 145) (lb := #[ptr' (w1.heap.size + 1 + 1 + 1), ptr' (w1.heap.size + 1 + 1)]) (encs := pairV) (xs := downs (xs.map (frm m)))
      (Kp := fun A B => (VisS (w1.heap.size + 1 + 1 + 1) (w1.heap.size + 1 + 1) 143 #[ptr' (w1.heap.size + 1)] A ∧ BackS (w1.heap.size + 1) (.slice a n cap) (xs.map (frm m)) A → VisS (w1.heap.size + 1 + 1 + 1) (w1.heap.size + 1 + 1) 143 #[ptr' (w1.heap.size + 1)] B ∧ BackS (w1.heap.size + 1) (.slice a n cap) (xs.map (frm m)) B) ∧ Keeps w6.heap.size A B)
      rfl (enters_of Tryd.func145 (by kernel_rfl) rfl)
      (fun W hg => visitp_seq _ _ _ _ (BackS (w1.heap.size + 1) (.slice a n cap) (xs.map (frm m))) (downs (xs.map (frm m))) W w6.heap.size hg.size (enters_of Tryd.func143 (by kernel_rfl) rfl) (hP6.1.grow hg) (hP6.2.grow hg) (fun B A A' h k => h.grow k) (fun W' hq => back_seq _ _ _ W' hq (by rw [hfl]; omega)))
      (fun h k => ⟨fun p => k.1 (h.1 p), h.2.trans k.2⟩) (fun A B hg => ⟨fun p => ⟨p.1.grow hg, p.2.grow hg⟩, hg.keeps _⟩) (fun _ => rfl)
      (fun pre W => Blk W w.heap.size 31 [.int .i64 id, .int .u64 (limb m 0 : Int), .int .u64 (limb m 1 : Int), .int .u64 (limb m 2 : Int), .int .u64 (limb m 3 : Int), .int .u64 (inv : Int), .int .u64 (limb oo 0 : Int), .int .u64 (limb oo 1 : Int), .int .u64 (limb oo 2 : Int), .int .u64 (limb oo 3 : Int), .int .u64 (limb s 0 : Int), .int .u64 (limb s 1 : Int), .int .u64 (limb s 2 : Int), .int .u64 (limb s 3 : Int)] ∧ Blk W wq.heap.size 34 [.slice (some ⟨w.heap.size + 1, 0, none⟩) n n] ∧ (∃ j, (j < m ∧ mulm m (pfx m (xs.take (n - pre.length))) j = 1) ∧ Blk W w1.heap.size 29 (limbs (frm m j))) ∧ (∃ ys, W.ownsRow (w.heap.size + 1) 29 4 (.slice (some ⟨w.heap.size + 1, 0, none⟩) n n) n ys ∧ FRow n (fun t => if t < n - pre.length then frm m (pfx m (xs.take t)) else frm m (invm m (xs.getD t 0))) ys) ∧ Below w.heap.size w W ∧ w6.heap.size ≤ W.heap.size ∧ NumSl W (.slice a n cap) (xs.map (frm m)) ∧ W.heap[D]? = some (.deferred (some [])))
      (fun _ _ _ => False)
      (fun pre A B h g => by
        obtain ⟨h1, h2, ⟨j, hj, h4⟩, ⟨ys, h6, h7⟩, h8, h9, h10, h11⟩ := h
        exact ⟨h1.grow g, h2.grow g, ⟨j, hj, h4.grow g⟩, ⟨ys, owns_grow h6 g, h7⟩, Below.behind h8 (Nat.le_refl _) g (by omega), Nat.le_trans h9 g.size, h10.grow g, g.block D _ h11 (.inl (by omega))⟩)
      (fun _ _ _ _ h _ => h) ⟨f6, q6, ⟨_, by rw [List.length_nil, Nat.sub_zero, List.take_of_length_le (by omega)]; exact HJ1.out, j6'⟩, ⟨_, o6, HQ7.out.congr (fun t ht => by rw [List.length_nil, Nat.sub_zero, if_pos ht, if_pos ht])⟩, B6, Nat.le_refl _, S6, k6⟩ ?round ?done ?stop
    case stop => exact fun _ _ _ _ _ _ h _ => h.elim
    case round =>
      rintro lm l pre ⟨i, y⟩ V ⟨h1, h2, ⟨j, ⟨hjl, hj⟩, h4⟩, ⟨ys, h6, h7⟩, h8, h9, h10, h11⟩ hpre hl9
      obtain ⟨hget, hpt⟩ := pre_take hpre
      obtain ⟨hy, hik⟩ := downs_at hget
      rw [hfl] at hik
      obtain ⟨vx, hvx, rfl⟩ : ∃ vx, xs[i]? = some vx ∧ frm m vx = y := by rw [List.getElem?_map] at hy; exact Option.map_eq_some_iff.1 hy
      have hvm : vx < m := hxs.out vx (List.mem_of_getElem? hvx)
      have hin : i < n := by omega
      have e1 : n - pre.length = i + 1 := by omega
      have e2 : n - (pre ++ [(i, frm m vx)]).length = i := by rw [List.length_append]; show n - (pre.length + 1) = i; omega
      rw [e1] at hj h7
      have HE2 := hid e2
      have hyl : frm m vx < m := frm_lt vx (by omega)
      have hql : frm m (pfx m (xs.take i)) < m := frm_lt _ (by omega)
      have hol : oo < m := by rw [← HOO.out]; exact frm_lt _ (by omega)
      have hjf : frm m j < m := frm_lt _ (by omega)
      rw [take_next hvx, pfx_snoc] at hj
      obtain ⟨b1, b2⟩ := back_step hFer.out (by omega) (pfx_lt (p := m) (by omega) (xs.take i)) hvm hj
      have HJ1 := hid b1
      have HGD : Hid (xs.getD i 0 = vx) := hid (getD_some hvx)
      obtain ⟨y, hyy⟩ : ∃ y, frm m vx = y := ⟨_, rfl⟩
      have HYY := hid hyy
      obtain ⟨p, hp⟩ : ∃ p, frm m (pfx m (xs.take i)) = p := ⟨_, rfl⟩
      have HP := hid hp
      obtain ⟨jv, hjv⟩ : ∃ p, frm m j = p := ⟨_, rfl⟩
      have HJV := hid hjv
      rw [hyy] at hyl ⊢ HE2
      rw [hp] at hql
      rw [hjv] at hjf h4
      have M1 := hid (fun W : World => misz_any y (by omega) W)
      have M2 := hid (mmul_any id m inv oo s p jv hF.out (by omega) (by omega) (Nat.mul_lt_mul_of_lt_of_lt (by omega) hjf))
      have M3 := hid (fun W : World => mtake_any (zmk y) 0 (mont m p jv) (zmk_lt _) W)
      rw [← vec_zero] at M3
      have M4 := hid (fun W : World => mtake_any (zmk y) oo y (zmk_lt _) W)
      have hcl : pick (zmk y) oo y < m := pick_lt _ hol hyl
      have HCC : Hid (pick (zmk y) oo y = frm m (nz vx)) := hid (by
        rw [pick_zmk, ← HYY.out, ← HOO.out]; unfold nz
        by_cases h : vx = 0
        · rw [if_pos ((frm_eq_zero HF4.out hvm).2 h), if_pos h]
        · rw [if_neg (fun e => h ((frm_eq_zero HF4.out hvm).1 e)), if_neg h])
      have HC1 : Hid (pick (zmk y) 0 (mont m p jv) = frm m (invm m vx)) := hid (by
        rw [pick_zmk, ← HYY.out, ← HP.out, ← HJV.out, frm_mulm HF4.out, ← b2]
        by_cases h : vx = 0
        · rw [if_pos ((frm_eq_zero HF4.out hvm).2 h), if_pos h, frm_zero]
        · rw [if_neg (fun e => h ((frm_eq_zero HF4.out hvm).1 e)), if_neg h])
      obtain ⟨c, hc⟩ : ∃ c, pick (zmk y) oo y = c := ⟨_, rfl⟩
      rw [hc] at M4 hcl HCC
      obtain ⟨c1, hc1⟩ : ∃ c, pick (zmk y) 0 (mont m p jv) = c := ⟨_, rfl⟩
      rw [hc1] at M3 HC1
      obtain ⟨q, hq⟩ : ∃ c, mont m p jv = c := ⟨_, rfl⟩
      rw [hq] at M2 M3
      have M5 := hid (mmul_any id m inv oo s jv c hF.out (by omega) (by omega) (Nat.mul_lt_mul_of_lt_of_lt (by omega) hcl))
      have HRR : Hid (mont m jv c = frm m (mulm m j (nz vx))) := hid (by rw [HCC.out, ← HJV.out, frm_mulm HF4.out])
      obtain ⟨r, hr⟩ : ∃ r, mont m jv c = r := ⟨_, rfl⟩
      rw [hr] at M5 HRR
      have HQR := hid h7
      have HB8 := hid h8
      have HP6 := hid hP6
      have HGA := hid hga
      have HS10 := hid h10
      have HD11 := hid h11
      clear hik hga h7 h8 hy hget hpt hpre hP6 hn hvx hp hyy hc hr h10 hfl hc1 hq hjv b1 b2 hj e1 e2 HQ7 f6 q6 s6 t6 l6 S6 B6 o6 k6 j6' h11 MI HNL HNL2
      simp only [pairV]
      gi_wp2
      refine ⟨((Only.refl (fun _ => True) V).alloc _).low _ _, fun W2 hg => ?_⟩
      have G2 : Grow w6.heap.size V W2 := ((Grow.refl _ V).alloc _).trans hg
      have dy : Blk W2 V.heap.size 29 (limbs y) := (Blk.new rfl).grow hg
      have df := h1.grow G2
      have dq := h2.grow G2
      have dj := h4.grow G2
      have do' := owns_grow h6 G2
      have zz2 : w6.heap.size ≤ W2.heap.size := Nat.le_trans h9 G2.size
      have zy : V.heap.size < W2.heap.size := dy.lt
      have HB2 := hid (Below.behind HB8.out (Nat.le_refl _) G2 (by omega))
      have HD2 := hid (G2.block D _ HD11.out (.inl (by omega)))
      have HG2 := hid G2
      clear h1 h2 h4 h6 hg G2
      have zj := dj.lt
      have zq2 := dq.lt
      have zf2 := df.lt
      have y0 := dy.cell (i := 0) rfl
      have y1 := dy.cell (i := 1) rfl
      have y2 := dy.cell (i := 2) rfl
      have y3 := dy.cell (i := 3) rfl
      gi_wp2_with (refine ⟨trivial, (fun h => by cases h), ?_⟩; refine (CallsIn.inRound l (callsIn_wide.2 (M1.out _))).mono ?_; rintro e W3 ⟨rfl, b9⟩; have ey := dy.keep b9; have ef := df.keep b9; have eq := dq.keep b9; have ej := dj.keep b9; have eo := owns_keep do' b9; have HBA := hid b9; clear b9)
      clear y0 y1 y2 y3 dy df dq dj do'
      have zs3 := HBA.out.size
      have zy3 := ey.lt
      have zf3 := ef.lt
      have zq3 := eq.lt
      have zj3 := ej.lt
      have zo3 : w.heap.size + 1 < W3.heap.size := (eo.lt _ rfl).2
      have f0 := ef.cell (i := 0) rfl
      have f1 := ef.cell (i := 1) rfl
      have f2 := ef.cell (i := 2) rfl
      have f3 := ef.cell (i := 3) rfl
      have f4 := ef.cell (i := 4) rfl
      have f5 := ef.cell (i := 5) rfl
      have f6 := ef.cell (i := 6) rfl
      have f7 := ef.cell (i := 7) rfl
      have f8 := ef.cell (i := 8) rfl
      have f9 := ef.cell (i := 9) rfl
      have f10 := ef.cell (i := 10) rfl
      have f11 := ef.cell (i := 11) rfl
      have f12 := ef.cell (i := 12) rfl
      have f13 := ef.cell (i := 13) rfl
      have y0 := ey.cell (i := 0) rfl
      have y1 := ey.cell (i := 1) rfl
      have y2 := ey.cell (i := 2) rfl
      have y3 := ey.cell (i := 3) rfl
      have q0 := eq.cell (i := 0) rfl
      have j0 := ej.cell (i := 0) rfl
      have j1 := ej.cell (i := 1) rfl
      have j2 := ej.cell (i := 2) rfl
      have j3 := ej.cell (i := 3) rfl
      have t0 := (eo.cellAt (i * 4) (by omega)).trans (HQR.out.2 i 0 (by omega) (by omega))
      have t1 := (eo.cellAt (i * 4 + 1) (by omega)).trans (HQR.out.2 i 1 (by omega) (by omega))
      have t2 := (eo.cellAt (i * 4 + 2) (by omega)).trans (HQR.out.2 i 2 (by omega) (by omega))
      have t3 := (eo.cellAt (i * 4 + 3) (by omega)).trans (HQR.out.2 i 3 (by omega) (by omega))
      dsimp only at t0 t1 t2 t3
      rw [if_pos (show i < i + 1 by omega), HP.out] at t0 t1 t2 t3
      have hjc : (i : Int) < (n : Int) := by omega
      have hj0 : (0 : Int) ≤ (i : Int) := by omega
      refine wpIn_round_soft (C := fun W' => Below W3.heap.size W3 W') 13 (by kernel_rfl) (by kernel_rfl) (by kernel_rfl) ((Below.refl _ _).drew) ?_
      simp only [List.take_succ_cons, List.take_zero, List.drop_succ_cons, List.drop_zero]
      refine wpQuiet_step (fun K hK => ?_)
      rw [if_pos (by rfl)]
      refine ⟨.slice (some ⟨w.heap.size + 1, 0, none⟩) n n, fun W' hW => ?_, hK _ ?_⟩
      · have e_0 := (hW.cell (p := ⟨wq.heap.size, 0, none⟩) zq3).trans q0
        go_simp
      clear hK K
      simp only [Act.put, List.setIfInBounds_toArray, List.set_cons_zero, List.set_cons_succ]
      refine wpQuiet_step (fun K hK => ?_)
      rw [if_pos (by rfl)]
      refine ⟨.int .i64 (i : Int), fun W' hW => ?_, hK _ ?_⟩
      · go_simp
      clear hK K
      simp only [Act.put, List.setIfInBounds_toArray, List.set_cons_zero, List.set_cons_succ]
      refine wpQuiet_step (fun K hK => ?_)
      rw [if_pos (by rfl)]
      refine ⟨.int .u64 (zmk y : Int), fun W' hW => ?_, hK _ ?_⟩
      · go_simp
      clear hK K
      simp only [Act.put, List.setIfInBounds_toArray, List.set_cons_zero, List.set_cons_succ]
      refine wpQuiet_step (fun K hK => ?_)
      rw [if_pos (by rfl)]
      refine ⟨.agg #[.int .u64 0, .int .u64 0, .int .u64 0, .int .u64 0], fun W' hW => ?_, hK _ ?_⟩
      · go_simp
      clear hK K
      simp only [Act.put, List.setIfInBounds_toArray, List.set_cons_zero, List.set_cons_succ]
      refine wpQuiet_step (fun K hK => ?_)
      rw [if_pos (by rfl)]
      refine ⟨fld id m inv oo s, fun W' hW => ?_, hK _ ?_⟩
      · have e_0 := (hW.cell (p := ⟨w.heap.size, 0, none⟩) zf3).trans f0
        have e_1 := (hW.cell (p := ⟨w.heap.size, 1, none⟩) zf3).trans f1
        have e_2 := (hW.cell (p := ⟨w.heap.size, 2, none⟩) zf3).trans f2
        have e_3 := (hW.cell (p := ⟨w.heap.size, 3, none⟩) zf3).trans f3
        have e_4 := (hW.cell (p := ⟨w.heap.size, 4, none⟩) zf3).trans f4
        have e_5 := (hW.cell (p := ⟨w.heap.size, 5, none⟩) zf3).trans f5
        have e_6 := (hW.cell (p := ⟨w.heap.size, 6, none⟩) zf3).trans f6
        have e_7 := (hW.cell (p := ⟨w.heap.size, 7, none⟩) zf3).trans f7
        have e_8 := (hW.cell (p := ⟨w.heap.size, 8, none⟩) zf3).trans f8
        have e_9 := (hW.cell (p := ⟨w.heap.size, 9, none⟩) zf3).trans f9
        have e_10 := (hW.cell (p := ⟨w.heap.size, 10, none⟩) zf3).trans f10
        have e_11 := (hW.cell (p := ⟨w.heap.size, 11, none⟩) zf3).trans f11
        have e_12 := (hW.cell (p := ⟨w.heap.size, 12, none⟩) zf3).trans f12
        have e_13 := (hW.cell (p := ⟨w.heap.size, 13, none⟩) zf3).trans f13
        go_simp
      clear hK K
      simp only [Act.put, List.setIfInBounds_toArray, List.set_cons_zero, List.set_cons_succ]
      refine wpQuiet_step (fun K hK => ?_)
      rw [if_pos (by rfl)]
      refine ⟨.slice (some ⟨w.heap.size + 1, 0, none⟩) n n, fun W' hW => ?_, hK _ ?_⟩
      · have e_0 := (hW.cell (p := ⟨wq.heap.size, 0, none⟩) zq3).trans q0
        go_simp
      clear hK K
      simp only [Act.put, List.setIfInBounds_toArray, List.set_cons_zero, List.set_cons_succ]
      refine wpQuiet_step (fun K hK => ?_)
      rw [if_pos (by rfl)]
      refine ⟨.int .i64 (i : Int), fun W' hW => ?_, hK _ ?_⟩
      · go_simp
      clear hK K
      simp only [Act.put, List.setIfInBounds_toArray, List.set_cons_zero, List.set_cons_succ]
      refine wpQuiet_step (fun K hK => ?_)
      rw [if_pos (by rfl)]
      refine ⟨.pointer (some ⟨w.heap.size + 1, i * 4, none⟩), fun W' hW => ?_, hK _ ?_⟩
      · go_simp
      clear hK K
      simp only [Act.put, List.setIfInBounds_toArray, List.set_cons_zero, List.set_cons_succ]
      refine wpQuiet_step (fun K hK => ?_)
      rw [if_pos (by rfl)]
      refine ⟨vec p, fun W' hW => ?_, hK _ ?_⟩
      · have e_0 := (hW.cell (p := ⟨w.heap.size + 1, i * 4, none⟩) zo3).trans t0
        have e_1 := (hW.cell (p := ⟨w.heap.size + 1, i * 4 + 1, none⟩) zo3).trans t1
        have e_2 := (hW.cell (p := ⟨w.heap.size + 1, i * 4 + 2, none⟩) zo3).trans t2
        have e_3 := (hW.cell (p := ⟨w.heap.size + 1, i * 4 + 3, none⟩) zo3).trans t3
        go_simp
      clear hK K
      simp only [Act.put, List.setIfInBounds_toArray, List.set_cons_zero, List.set_cons_succ]
      refine wpQuiet_step (fun K hK => ?_)
      rw [if_pos (by rfl)]
      refine ⟨vec jv, fun W' hW => ?_, hK _ ?_⟩
      · have e_0 := (hW.cell (p := ⟨w1.heap.size, 0, none⟩) zj3).trans j0
        have e_1 := (hW.cell (p := ⟨w1.heap.size, 1, none⟩) zj3).trans j1
        have e_2 := (hW.cell (p := ⟨w1.heap.size, 2, none⟩) zj3).trans j2
        have e_3 := (hW.cell (p := ⟨w1.heap.size, 3, none⟩) zj3).trans j3
        go_simp
      clear hK K
      simp only [Act.put, List.setIfInBounds_toArray, List.set_cons_zero, List.set_cons_succ]
      refine wpQuiet_step (fun K hK => ?_)
      rw [if_pos (by rfl)]
      refine ⟨vec q, fun W' hW => ?_, hK _ ?_⟩
      · go_simp
        refine (M2.out _).mono ?_
        rintro e w' ⟨rfl, b⟩
        exact ⟨rfl, hW.trans (b.mono hW.size)⟩
      clear hK K
      simp only [Act.put, List.setIfInBounds_toArray, List.set_cons_zero, List.set_cons_succ]
      refine wpQuiet_step (fun K hK => ?_)
      rw [if_pos (by rfl)]
      refine ⟨vec c1, fun W' hW => ?_, hK _ ?_⟩
      · go_simp
        refine (M3.out _).mono ?_
        rintro e w' ⟨rfl, b⟩
        exact ⟨rfl, hW.trans (b.mono hW.size)⟩
      clear hK K
      simp only [Act.put, List.setIfInBounds_toArray, List.set_cons_zero, List.set_cons_succ]
      refine wpQuiet_step (fun K hK => ?_)
      rw [if_pos (by rfl)]
      refine ⟨.pointer (some ⟨w.heap.size + 1, i * 4, none⟩), fun W' hW => ?_, hK _ ?_⟩
      · go_simp
      clear hK K
      simp only [Act.put, List.setIfInBounds_toArray, List.set_cons_zero, List.set_cons_succ]
      refine wpQuiet_nil ?_
      intro W4 hW4
      have gf := ef.keep hW4
      have gy := ey.keep hW4
      have gq := eq.keep hW4
      have gj := ej.keep hW4
      have go' := owns_keep eo hW4
      have zs4 := hW4.size
      have x0 := (go'.cellAt (i * 4) (by omega)).trans (HQR.out.2 i 0 (by omega) (by omega))
      have x1 := (go'.cellAt (i * 4 + 1) (by omega)).trans (HQR.out.2 i 1 (by omega) (by omega))
      have x2 := (go'.cellAt (i * 4 + 2) (by omega)).trans (HQR.out.2 i 2 (by omega) (by omega))
      have x3 := (go'.cellAt (i * 4 + 3) (by omega)).trans (HQR.out.2 i 3 (by omega) (by omega))
      have u0 := go'.frozenAt (i * 4)
      have u1 := go'.frozenAt (i * 4 + 1)
      have u2 := go'.frozenAt (i * 4 + 2)
      have u3 := go'.frozenAt (i * 4 + 3)
      clear f0 f1 f2 f3 f4 f5 f6 f7 f8 f9 f10 f11 f12 f13 y0 y1 y2 y3 q0 j0 j1 j2 j3 t0 t1 t2 t3
      have HB4 := hid (HBA.out.trans (hW4.mono HBA.out.size))
      clear hW4 ef ey eq ej eo
      gi_wp2
      obtain ⟨W5, hw5⟩ : ∃ v, ((((W4.setCell ⟨w.heap.size + 1, i * 4, none⟩ (.int .u64 (limb c1 0 : Int))).setCell ⟨w.heap.size + 1, i * 4 + 1, none⟩ (.int .u64 (limb c1 1 : Int))).setCell ⟨w.heap.size + 1, i * 4 + 2, none⟩ (.int .u64 (limb c1 2 : Int))).setCell ⟨w.heap.size + 1, i * 4 + 3, none⟩ (.int .u64 (limb c1 3 : Int))) = v := ⟨_, rfl⟩
      have OA : Only (fun k => k = w.heap.size + 1) W4 W5 := by rw [← hw5]; exact (((((Only.refl (fun k => k = w.heap.size + 1) W4).setCell (p := ⟨w.heap.size + 1, i * 4, none⟩) (.inl rfl) _).setCell (p := ⟨w.heap.size + 1, i * 4 + 1, none⟩) (.inl rfl) _).setCell (p := ⟨w.heap.size + 1, i * 4 + 2, none⟩) (.inl rfl) _).setCell (p := ⟨w.heap.size + 1, i * 4 + 3, none⟩) (.inl rfl) _)
      have OW : ∃ ys, W5.ownsRow (w.heap.size + 1) 29 4 (.slice (some ⟨w.heap.size + 1, 0, none⟩) n n) n ys ∧ FRow n (fun t => if t < i then frm m (pfx m (xs.take t)) else frm m (invm m (xs.getD t 0))) ys := by rw [← hw5]; exact ⟨_, ((((go'.stored (i * 4) _).1.stored (i * 4 + 1) _).1.stored (i * 4 + 2) _).1.stored (i * 4 + 3) _).1, inv_store HQR.out (by omega) (by rw [HGD.out, HC1.out])⟩
      rw [hw5]
      clear hw5
      have HOW := hid OW
      clear OW x0 x1 x2 x3 u0 u1 u2 u3
      have kf := gf.only OA (by omega)
      have kq := gq.only OA (by omega)
      have kj := gj.only OA (by omega)
      have ky := gy.only OA (by omega)
      have zs5 := OA.size
      have HOA := hid ((Below.only HB4.out (fun k => k = w.heap.size + 1)).trans OA)
      clear OA gf gq gj gy go'
      have zf5 := kf.lt
      have zj5 := kj.lt
      have zy5 := ky.lt
      have f0 := kf.cell (i := 0) rfl
      have f1 := kf.cell (i := 1) rfl
      have f2 := kf.cell (i := 2) rfl
      have f3 := kf.cell (i := 3) rfl
      have f4 := kf.cell (i := 4) rfl
      have f5 := kf.cell (i := 5) rfl
      have f6 := kf.cell (i := 6) rfl
      have f7 := kf.cell (i := 7) rfl
      have f8 := kf.cell (i := 8) rfl
      have f9 := kf.cell (i := 9) rfl
      have f10 := kf.cell (i := 10) rfl
      have f11 := kf.cell (i := 11) rfl
      have f12 := kf.cell (i := 12) rfl
      have f13 := kf.cell (i := 13) rfl
      have j0 := kj.cell (i := 0) rfl
      have j1 := kj.cell (i := 1) rfl
      have j2 := kj.cell (i := 2) rfl
      have j3 := kj.cell (i := 3) rfl
      have y0 := ky.cell (i := 0) rfl
      have y1 := ky.cell (i := 1) rfl
      have y2 := ky.cell (i := 2) rfl
      have y3 := ky.cell (i := 3) rfl
      refine wpIn_round_soft (C := fun W' => Below W5.heap.size W5 W') 8 (by kernel_rfl) (by kernel_rfl) (by kernel_rfl) ((Below.refl _ _).drew) ?_
      simp only [List.take_succ_cons, List.take_zero, List.drop_succ_cons, List.drop_zero]
      refine wpQuiet_step (fun K hK => ?_)
      rw [if_pos (by rfl)]
      refine ⟨fld id m inv oo s, fun W' hW => ?_, hK _ ?_⟩
      · have e_0 := (hW.cell (p := ⟨w.heap.size, 0, none⟩) zf5).trans f0
        have e_1 := (hW.cell (p := ⟨w.heap.size, 1, none⟩) zf5).trans f1
        have e_2 := (hW.cell (p := ⟨w.heap.size, 2, none⟩) zf5).trans f2
        have e_3 := (hW.cell (p := ⟨w.heap.size, 3, none⟩) zf5).trans f3
        have e_4 := (hW.cell (p := ⟨w.heap.size, 4, none⟩) zf5).trans f4
        have e_5 := (hW.cell (p := ⟨w.heap.size, 5, none⟩) zf5).trans f5
        have e_6 := (hW.cell (p := ⟨w.heap.size, 6, none⟩) zf5).trans f6
        have e_7 := (hW.cell (p := ⟨w.heap.size, 7, none⟩) zf5).trans f7
        have e_8 := (hW.cell (p := ⟨w.heap.size, 8, none⟩) zf5).trans f8
        have e_9 := (hW.cell (p := ⟨w.heap.size, 9, none⟩) zf5).trans f9
        have e_10 := (hW.cell (p := ⟨w.heap.size, 10, none⟩) zf5).trans f10
        have e_11 := (hW.cell (p := ⟨w.heap.size, 11, none⟩) zf5).trans f11
        have e_12 := (hW.cell (p := ⟨w.heap.size, 12, none⟩) zf5).trans f12
        have e_13 := (hW.cell (p := ⟨w.heap.size, 13, none⟩) zf5).trans f13
        go_simp
      clear hK K
      simp only [Act.put, List.setIfInBounds_toArray, List.set_cons_zero, List.set_cons_succ]
      refine wpQuiet_step (fun K hK => ?_)
      rw [if_pos (by rfl)]
      refine ⟨vec jv, fun W' hW => ?_, hK _ ?_⟩
      · have e_0 := (hW.cell (p := ⟨w1.heap.size, 0, none⟩) zj5).trans j0
        have e_1 := (hW.cell (p := ⟨w1.heap.size, 1, none⟩) zj5).trans j1
        have e_2 := (hW.cell (p := ⟨w1.heap.size, 2, none⟩) zj5).trans j2
        have e_3 := (hW.cell (p := ⟨w1.heap.size, 3, none⟩) zj5).trans j3
        go_simp
      clear hK K
      simp only [Act.put, List.setIfInBounds_toArray, List.set_cons_zero, List.set_cons_succ]
      refine wpQuiet_step (fun K hK => ?_)
      rw [if_pos (by rfl)]
      refine ⟨.int .u64 (zmk y : Int), fun W' hW => ?_, hK _ ?_⟩
      · go_simp
      clear hK K
      simp only [Act.put, List.setIfInBounds_toArray, List.set_cons_zero, List.set_cons_succ]
      refine wpQuiet_step (fun K hK => ?_)
      rw [if_pos (by rfl)]
      refine ⟨.pointer (some ⟨w.heap.size, 6, none⟩), fun W' hW => ?_, hK _ ?_⟩
      · go_simp
      clear hK K
      simp only [Act.put, List.setIfInBounds_toArray, List.set_cons_zero, List.set_cons_succ]
      refine wpQuiet_step (fun K hK => ?_)
      rw [if_pos (by rfl)]
      refine ⟨vec oo, fun W' hW => ?_, hK _ ?_⟩
      · have e_0 := (hW.cell (p := ⟨w.heap.size, 6, none⟩) zf5).trans f6
        have e_1 := (hW.cell (p := ⟨w.heap.size, 7, none⟩) zf5).trans f7
        have e_2 := (hW.cell (p := ⟨w.heap.size, 8, none⟩) zf5).trans f8
        have e_3 := (hW.cell (p := ⟨w.heap.size, 9, none⟩) zf5).trans f9
        go_simp
      clear hK K
      simp only [Act.put, List.setIfInBounds_toArray, List.set_cons_zero, List.set_cons_succ]
      refine wpQuiet_step (fun K hK => ?_)
      rw [if_pos (by rfl)]
      refine ⟨vec y, fun W' hW => ?_, hK _ ?_⟩
      · have e_0 := (hW.cell (p := ⟨V.heap.size, 0, none⟩) zy5).trans y0
        have e_1 := (hW.cell (p := ⟨V.heap.size, 1, none⟩) zy5).trans y1
        have e_2 := (hW.cell (p := ⟨V.heap.size, 2, none⟩) zy5).trans y2
        have e_3 := (hW.cell (p := ⟨V.heap.size, 3, none⟩) zy5).trans y3
        go_simp
      clear hK K
      simp only [Act.put, List.setIfInBounds_toArray, List.set_cons_zero, List.set_cons_succ]
      refine wpQuiet_step (fun K hK => ?_)
      rw [if_pos (by rfl)]
      refine ⟨vec c, fun W' hW => ?_, hK _ ?_⟩
      · go_simp
        refine (M4.out _).mono ?_
        rintro e w' ⟨rfl, b⟩
        exact ⟨rfl, hW.trans (b.mono hW.size)⟩
      clear hK K
      simp only [Act.put, List.setIfInBounds_toArray, List.set_cons_zero, List.set_cons_succ]
      refine wpQuiet_step (fun K hK => ?_)
      rw [if_pos (by rfl)]
      refine ⟨vec r, fun W' hW => ?_, hK _ ?_⟩
      · go_simp
        refine (M5.out _).mono ?_
        rintro e w' ⟨rfl, b⟩
        exact ⟨rfl, hW.trans (b.mono hW.size)⟩
      clear hK K
      simp only [Act.put, List.setIfInBounds_toArray, List.set_cons_zero, List.set_cons_succ]
      refine wpQuiet_nil ?_
      intro W6 hW6
      have gp := kj.keep hW6
      have zg := gp.lt
      have zs6 := hW6.size
      have k0 := gp.cell (i := 0) rfl
      have kf0 := gp.frozen 0
      have k1 := gp.cell (i := 1) rfl
      have kf1 := gp.frozen 1
      have k2 := gp.cell (i := 2) rfl
      have kf2 := gp.frozen 2
      have k3 := gp.cell (i := 3) rfl
      have kf3 := gp.frozen 3
      clear f0 f1 f2 f3 f4 f5 f6 f7 f8 f9 f10 f11 f12 f13 j0 j1 j2 j3 y0 y1 y2 y3
      gi_wp2
      have OE : Only (fun k => k = w.heap.size + 1 ∨ k = w1.heap.size) W2 ((((W6.setCell ⟨w1.heap.size, 0, none⟩ (.int .u64 (limb r 0 : Int))).setCell ⟨w1.heap.size, 1, none⟩ (.int .u64 (limb r 1 : Int))).setCell ⟨w1.heap.size, 2, none⟩ (.int .u64 (limb r 2 : Int))).setCell ⟨w1.heap.size, 3, none⟩ (.int .u64 (limb r 3 : Int))) := (((((HOA.out.mono (G := fun k => k = w.heap.size + 1 ∨ k = w1.heap.size) (fun k h => Or.inl h)).call hW6).setCell (p := ⟨w1.heap.size, 0, none⟩) (.inl (.inr rfl)) _).setCell (p := ⟨w1.heap.size, 1, none⟩) (.inl (.inr rfl)) _).setCell (p := ⟨w1.heap.size, 2, none⟩) (.inl (.inr rfl)) _).setCell (p := ⟨w1.heap.size, 3, none⟩) (.inl (.inr rfl)) _
      have ON : Only (fun k => k = w1.heap.size) W5 ((((W6.setCell ⟨w1.heap.size, 0, none⟩ (.int .u64 (limb r 0 : Int))).setCell ⟨w1.heap.size, 1, none⟩ (.int .u64 (limb r 1 : Int))).setCell ⟨w1.heap.size, 2, none⟩ (.int .u64 (limb r 2 : Int))).setCell ⟨w1.heap.size, 3, none⟩ (.int .u64 (limb r 3 : Int))) := (only_set4 W6 (w1.heap.size) _ _ _ _).mono (fun k h => h) |> fun q => (Below.only hW6 (fun k => k = w1.heap.size)).trans q
      have KP : ∀ p, _ := fun p : VisS (w1.heap.size + 1 + 1 + 1) (w1.heap.size + 1 + 1) 143 #[ptr' (w1.heap.size + 1)] V ∧ BackS (w1.heap.size + 1) (.slice a n cap) (xs.map (frm m)) V => (⟨⟨(p.1.grow HG2.out).1.only OE (by omega), (p.1.grow HG2.out).2.only OE (by omega)⟩, (p.2.grow HG2.out).1.only OE (by omega), (p.2.grow HG2.out).2.only OE (fun ad h => by have := HGA.out ad h; omega)⟩ : VisS (w1.heap.size + 1 + 1 + 1) (w1.heap.size + 1 + 1) 143 #[ptr' (w1.heap.size + 1)] _ ∧ BackS (w1.heap.size + 1) (.slice a n cap) (xs.map (frm m)) _)
      obtain ⟨ys2, hy6, hy7⟩ := HOW.out
      exact ⟨OE.low _ _, ⟨KP, (HG2.out.keeps _).trans (OE.keeps (fun k h => by omega))⟩, kf.only ON (by omega), kq.only ON (by omega), ⟨mulm m j (nz vx), ⟨mulm_lt _ _ (by omega), by rw [HE2.out]; exact HJ1.out⟩, by rw [← HRR.out]; exact gp.set4 (.int .u64 (limb r 0 : Int)) (.int .u64 (limb r 1 : Int)) (.int .u64 (limb r 2 : Int)) (.int .u64 (limb r 3 : Int))⟩, ⟨ys2, owns_only hy6 ON (fun k h => by cases h; show ¬ (w.heap.size + 1 = w1.heap.size); omega), by rw [HE2.out]; exact hy7⟩, HB2.out.trans (OE.below (fun k h => by omega) (by omega)), by have := OE.size; omega, (HS10.out.grow HG2.out).only OE (fun ad h => by have := HGA.out ad h; omega), OE.block D _ HD2.out (.inr rfl)⟩
    case done =>
      rintro D2 V hD2 ⟨h1, h2, _, ⟨ys, h6, h7⟩, h8, h9, h10, h11⟩ hK2
      have zk := h2.lt
      have q0 := h2.cell (i := 0) rfl
      rw [downs_len, hfl, Nat.sub_self] at h7
      clear h1 h10 f6 q6 s6 t6 l6 S6 B6 o6 k6 j6' hP6 HQ7
      gi_wp2
      refine ⟨by simp, .inl ⟨_, _, rfl, run_takeDeferred hK2, ?_⟩⟩
      have hg := (Grow.refl w6.heap.size V).putObj (.deferred none) hD2 hK2 rfl
      have h11' := hg.block D _ h11 (.inl (by omega))
      refine ⟨by simp, .inl ⟨_, _, rfl, run_takeDeferred h11', ?_⟩⟩
      have hg2 := (Grow.refl (w.heap.size + 1) _).putObj (.deferred none) (by omega) h11' rfl
      have hgg := (hg.mono (B' := w.heap.size + 1) (by omega)).trans hg2
      refine ⟨.slice (some ⟨w.heap.size + 1, 0, none⟩) n n, by simp only [results, Tryd.results108]; go_simp, ?_⟩
      refine ⟨_, rfl, ?_, Below.behind h8 (Nat.le_refl _) hgg (by omega)⟩
      have e1 : ys = nums ((xs.map (invm m)).map (frm m)) := inv_done (h7.congr (fun t ht => by rw [if_neg (by omega)])) hn
      rw [← e1]
      exact owns_grow (owns_mono h6 (by omega)) hgg
end Go.Proofs.YtogenbggjodcnaaDoor
/-
  The inverses of many elements, none among them.
-/
namespace Go.Proofs.YtogenbggjodcnaaDoor
open Go.RowKit

theorem fer_b (b : Bool) : Fer (fP b) := by cases b; exact fer_P1; exact fer_P2

theorem batch_any (id : Int) (m inv s : Nat) (v : Value) (xs : List Nat) (w : World) (hF : Hid (FieldOK m inv)) (hFer : Hid (Fer m)) (hS : NumSl w v (xs.map (frm m))) (hxs : Hid (∀ y ∈ xs, y < m)) (hl : xs.length < 1000000) :
    Calls Tryd.prog 108 #[.pointer none, fld id m inv (frm m 1) s, v] w (RetOwn 29 4 xs.length (nums ((xs.map (invm m)).map (frm m))) w) := by
  obtain ⟨n, hn⟩ : ∃ n, xs.length = n := ⟨_, rfl⟩
  have hS' := hS
  obtain ⟨a, cap, rfl, h1, h2⟩ := hS'
  rw [List.length_map, hn] at hS ⊢
  by_cases h0 : n = 0
  · subst h0
    have hx : xs = [] := List.length_eq_zero_iff.1 hn
    subst hx
    clear hS h1 h2 hn hl hxs
    go_enter Tryd.func108, Tryd.ntmps108
    go_wp2
    go_ret
    exact ⟨_, rfl, by simpa [nums] using World.ownsRow_nil _ _ _ _, by go_grown⟩
  · exact batch_pos id m inv s n cap a xs w hF hFer hS hxs hn (by omega) (by omega)
end Go.Proofs.YtogenbggjodcnaaDoor
