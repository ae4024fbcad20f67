/-
  What power visits; no tape.
-/
import Derived.Test.YtogenbggjodcnaaDoorPolys
import Derived.Lib.SliceRun
import Derived.Shelf.Abstract
import Derived.Shelf.RegionOpen
import Derived.OwnWalkIn
import Derived.TacticsInMore
import Derived.LoopNIn
import Derived.LoopIn
namespace Go.Proofs.YtogenbggjodcnaaDoor
open Go.RowKit Go.Shelf

attribute [local go_sem] Oper.semAt_some
theorem visitp_any (t : Option Addr) (g : Nat) (lb : Array Value) (w : World) : Calls Tryd.prog 131 #[.pointer t, .func (.func g) #[] lb] w fun e w' => e = .returned (.func (.func 145) #[] #[ptr' (w.heap.size + 1), ptr' w.heap.size]) ∧ (w.alloc (.cells #[.pointer t] 53)).alloc (.cells #[.func (.func g) #[] lb] 160) = w' := by
  go_enter Tryd.func131, Tryd.ntmps131
  go_wp2
  go_ret
  exact ⟨rfl, rfl⟩
set_option maxRecDepth 100000 in
set_option maxHeartbeats 2000000 in
theorem visitp_seq (bl bt g : Nat) (lb : Array Value) (Q : World → Prop) (xs : List (Nat × Nat)) (W : World) (N : Nat) (hN : N ≤ W.heap.size) (eg : ∀ args w, (callFunc g args).run Tryd.prog w = .ok (.enter g args) w) (hV : VisS bl bt g lb W) (hQ : Q W)
    (hQg : ∀ B A A', Q A → Grow B A A' → Q A') (hseq : ∀ W', Q W' → SeqIn Tryd.prog g lb pairV (fun A B => Q A → Q B) xs W') :
    SeqIn Tryd.prog 145 #[ptr' bl, ptr' bt] pairV (fun A B => (VisS bl bt g lb A ∧ Q A → VisS bl bt g lb B ∧ Q B) ∧ Keeps N A B) xs W := by
  intro L J Jx hL hJ hJx hY h0
  have c0 := hV.1.cell (i := 0) rfl
  have zl := hV.1.lt
  have HV := hid hV
  refine (callsIn_wide (n := 9)).1 ?_
  refine callsIn_of_wp_marks Tryd.func145 rfl trivial ?_ rfl
  simp only [Tryd.ntmps145, List.size_toArray, List.length_cons, List.length_nil, Nat.reduceAdd, Nat.reduceSub, Array.replicate_succ, Array.replicate_zero, List.push_toArray, List.append_toArray, List.nil_append, List.cons_append]
  gi_wp2
  have G0 : Grow W.heap.size W (W.alloc (.cells #[.func (.yield L) #[] #[]] 181)) := (Grow.refl _ W).alloc _
  have hb0 : Blk (W.alloc (.cells #[.func (.yield L) #[] #[]] 181)) W.heap.size 181 [.func (.yield L) #[] #[]] := Blk.new rfl
  have hz0 : (W.alloc (.cells #[.func (.yield L) #[] #[]] 181)).heap.size = W.heap.size + 1 := by simp
  generalize W.alloc (.cells #[.func (.yield L) #[] #[]] 181) = W0 at *
  refine wpIn_every (gf := g) (lb := lb) rfl eg (fun W' hg => hseq W' (hQg _ _ _ (hQg _ _ _ hQ G0) hg)) (fun h k x => k (h x)) (fun A B hg q => hQg _ _ _ q hg) (fun _ => rfl)
    (fun pre W' => J pre W' ∧ (VisS bl bt g lb W' ∧ Q W') ∧ Blk W' W.heap.size 181 [.func (.yield L) #[] #[]])
    (fun c pre W' => c = .ret ∧ Jx pre W')
    (fun pre A B h k => ⟨hJ pre A B h.1 (k.mono (by omega)), ⟨h.2.1.1.grow k, hQg _ _ _ h.2.1.2 k⟩, h.2.2.grow k⟩)
    (fun c pre A B h k => ⟨h.1, hJx pre A B h.2 (k.mono (by omega))⟩)
    ⟨hJ [] W W0 h0 G0, ⟨hV.grow G0, hQg _ _ _ hQ G0⟩, hb0⟩ ?round ?done ?stop
  case round =>
    rintro m l pre ⟨i, x⟩ W' ⟨hj, ⟨hv, hq⟩, hb⟩ hpre hl
    have HJ := hid hj
    have HVV := hid hv
    have HQ := hid hq
    have HB := hid hb
    have HPRE := hid hpre
    have HL := hid hl
    have HYY := hid hY
    have HJJ := hid hJ
    clear hj hv hq hb hpre hY hJ hJx hseq hQ c0 hV hb0
    simp only [pairV]
    gi_wp2
    refine ⟨((Only.refl (fun _ => True) W').alloc _).low _ _, fun W2 hg => ?_⟩
    have G2 : Grow W0.heap.size W' W2 := ((Grow.refl _ W').alloc _).trans hg
    have hbx : Blk W2 W'.heap.size 29 (limbs x) := (Blk.new rfl).grow hg
    have k0 := (HVV.out.grow G2).2.cell (i := 0) rfl
    have k1 := (HB.out.grow G2).cell (i := 0) rfl
    have x0 := hbx.cell (i := 0) rfl
    have x1 := hbx.cell (i := 1) rfl
    have x2 := hbx.cell (i := 2) rfl
    have x3 := hbx.cell (i := 3) rfl
    have QV := hid (show VisS bl bt g lb W2 ∧ Q W2 from ⟨HVV.out.grow G2, hQg _ _ _ HQ.out G2⟩)
    have HB2 := hid (HB.out.grow G2)
    have J2 := hid (HJJ.out pre _ _ HJ.out (G2.mono (by omega)))
    obtain ⟨fn, tmps, assign, body, hy, hR⟩ := HYY.out pre (i, x) W2 J2.out HPRE.out (m - 1)
    simp only [pairV] at hy
    clear hg G2 hbx
    gi_wp2_with (refine ⟨trivial, (fun h => by cases h), ?_⟩; refine (CallsIn.inRound l (callsIn_wide.2 (note_nil _ _ _ _))).mono ?_; rintro e w5 ⟨rfl, rfl⟩)
    refine ⟨fun h => (by cases h), RoundIn.mono (F := Fence.wide.inRound l) hR ?_⟩
    rintro e W3 (⟨rfl, hJ3, hk3, ha3⟩ | ⟨rfl, hJ3, ha3⟩)
    · have HJ3 := hid hJ3
      have HK3 := hid (hk3.1 QV.out)
      have HB3 := hid (HB2.out.keeps hk3.2 hN)
      have HA3 := hid ha3
      clear hJ3 hk3 ha3 hy hR
      gi_wp2
      exact ⟨HA3.out.low (by omega) (by omega), fun _ => HK3.out.2, HJ3.out, HK3.out, HB3.out⟩
    · have HJ3 := hid hJ3
      have HA3 := hid ha3
      clear hJ3 ha3 hy hR
      gi_wp2
      exact ⟨HA3.out.low (by omega) (by omega), rfl, HJ3.out⟩
  case done =>
    rintro D W' hD ⟨hj, _, _⟩ hK
    have HJ := hid hj
    have HJJ := hid hJ
    clear hj hJ hJx hY hseq
    gi_wp2
    refine ⟨by simp, .inl ⟨_, _, rfl, run_takeDeferred hK, ?_⟩⟩
    have hg := (Grow.refl W0.heap.size W').putObj (.deferred none) hD hK rfl
    exact ⟨_, results_none rfl _ _ _, ⟨_, rfl⟩, .inl (HJJ.out _ _ _ HJ.out (hg.mono (by omega)))⟩
  case stop =>
    rintro D c pre W' hD hpre ⟨rfl, hx⟩ hK
    have HX := hid hx
    have HJX := hid hJx
    have HPRE := hid hpre
    clear hx hJ hJx hY hseq hpre
    gi_wp2
    refine ⟨by simp, .inl ⟨_, _, rfl, run_takeDeferred hK, ?_⟩⟩
    have hg := (Grow.refl W0.heap.size W').putObj (.deferred none) hD hK rfl
    exact ⟨_, results_none rfl _ _ _, ⟨_, rfl⟩, .inr ⟨_, HPRE.out, HJX.out _ _ _ HX.out (hg.mono (by omega))⟩⟩
end Go.Proofs.YtogenbggjodcnaaDoor
