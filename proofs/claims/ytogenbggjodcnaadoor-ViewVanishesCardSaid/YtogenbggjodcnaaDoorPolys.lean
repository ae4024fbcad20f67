/-
  Ranges over elements, and polynomials as lists of numbers.
-/
import Derived.Test.YtogenbggjodcnaaDoorKit
import Derived.Lib.SliceRun
import Derived.Shelf.Abstract
import Derived.Shelf.RegionOpen
import Derived.OwnWalkIn
import Derived.TacticsInMore
import Derived.LoopNIn
import Derived.LoopIn
import Derived.Test.YtogenbggjodcnaaDoorPlainN
/-
  Ranges over elements with their indices, upward and downward, and visit over them; no tape.
-/
namespace Go.Proofs.YtogenbggjodcnaaDoor
open Go.RowKit Go.Shelf

attribute [local go_sem] Oper.semAt_some

abbrev ptr' (b : Nat) : Value := .pointer (some ⟨b, 0, none⟩)
/-- An index and an element. -/
noncomputable def pairV (e : Nat × Nat) : Array Value := #[.int .i64 (e.1 : Int), vec e.2]
/-- The elements with their indices, the last one first; the first one first. -/
def ups (xs : List Nat) : List (Nat × Nat) := xs.zipIdx.map fun p => (p.2, p.1)
def downs (xs : List Nat) : List (Nat × Nat) := (ups xs).reverse
theorem ups_len (xs : List Nat) : (ups xs).length = xs.length := by simp [ups]
theorem downs_len (xs : List Nat) : (downs xs).length = xs.length := by simp [downs, ups_len]
theorem ups_get {xs : List Nat} {i x : Nat} (h : xs[i]? = some x) : (ups xs)[i]? = some (i, x) := by
  simp [ups, List.getElem?_zipIdx, h]
theorem downs_get {xs : List Nat} {i x : Nat} (h : xs[i]? = some x) : (downs xs)[xs.length - 1 - i]? = some (i, x) := by
  have hi : i < xs.length := (List.getElem?_eq_some_iff.1 h).1
  unfold downs
  rw [List.getElem?_reverse (by rw [ups_len]; omega), ups_len, show xs.length - 1 - (xs.length - 1 - i) = i by omega]
  exact ups_get h
/-- What the iterators read: the box of the slice; the elements. -/
def BackS (bs : Nat) (v : Value) (xs : List Nat) (W : World) : Prop := Blk W bs 34 [v] ∧ NumSl W v xs
theorem BackS.grow {bs B : Nat} {v : Value} {xs : List Nat} {W W' : World} (h : BackS bs v xs W) (g : Grow B W W') : BackS bs v xs W' := ⟨h.1.grow g, h.2.grow g⟩
/-- Note of a nil tape does nothing. -/
theorem note_nil (k a b : Int) (w : World) : Calls Tryd.prog 64 #[.pointer none, .int .i64 k, .int .i64 a, .int .i64 b] w fun e w' => e = .returned (.tuple #[]) ∧ w = w' := by
  go_enter Tryd.func64, Tryd.ntmps64
  go_wp2
  go_end0
  exact ⟨rfl, rfl⟩
theorem back_any (a : Option Addr) (n cap : Nat) (w : World) : Calls Tryd.prog 126 #[.slice a n cap] w fun e w' => e = .returned (.func (.func 143) #[] #[ptr' w.heap.size]) ∧ w.alloc (.cells #[.slice a n cap] 34) = w' := by
  go_enter Tryd.func126, Tryd.ntmps126
  go_wp2
  go_ret
  exact ⟨rfl, rfl⟩
set_option maxRecDepth 100000 in
set_option maxHeartbeats 1000000 in
theorem back_seq (bs : Nat) (v : Value) (xs : List Nat) (W : World) (hS : BackS bs v xs W) (hl : xs.length < 1000000) :
    SeqIn Tryd.prog 143 #[ptr' bs] pairV (fun A B => BackS bs v xs A → BackS bs v xs B) (downs xs) W := by
  intro L J Jx hL hJ hJx hY h0
  have HS := hid hS
  have c0 := hS.1.cell (i := 0) rfl
  have hN := hS.2
  obtain ⟨a, cap, rfl, hc, _⟩ := hN
  obtain ⟨n, hn⟩ : ∃ n, xs.length = n := ⟨_, rfl⟩
  have HN := hid hn
  rw [hn] at c0 hl hc
  have HJ0 := hid h0
  have HJS := hid hJ
  clear h0 hS hn hJx hJ hL
  refine (callsIn_wide (n := 5)).1 ?_
  refine callsIn_of_wp Tryd.func143 rfl trivial ?_ rfl
  simp only [Tryd.ntmps143, List.size_toArray, List.length_cons, List.length_nil, Nat.reduceAdd, Nat.reduceSub, Array.replicate_succ, Array.replicate_zero, List.push_toArray, List.append_toArray, List.nil_append, List.cons_append]
  have hmix : Tryd.prog.follows .mixedOrders = true := by kernel_rfl
  gi_wp2
  gi_loopw [3] (fun i wr => ∃ k : Nat, k ≤ n ∧ i = .int .i64 ((n : Int) - 1 - (k : Int)) ∧ BackS bs (.slice a xs.length cap) xs wr ∧ J ((downs xs).take k) wr) (fun i _ => (intOf i + 1).toNat)
  case atStart => exact ⟨0, Nat.zero_le _, by simp, HS.out, HJ0.out⟩
  case round =>
    obtain ⟨k, hk, rfl, hS, hJs⟩ := hrel
    have HJs := hid hJs
    clear hJs c0
    by_cases hlt : k < n
    · obtain ⟨i, hi⟩ : ∃ i : Nat, (n : Int) - 1 - (k : Int) = (i : Int) := ⟨n - 1 - k, by omega⟩
      have hin : i < n := by omega
      have HI := hid hi
      rw [hi]
      obtain ⟨x, hx⟩ : ∃ x, xs[i]? = some x := ⟨xs[i]'(by rw [HN.out]; exact hin), List.getElem?_eq_getElem _⟩
      have hg : (downs xs)[k]? = some (i, x) := by have := downs_get hx; rw [HN.out] at this; rwa [show n - 1 - i = k by omega] at this
      have hsnoc : (downs xs).take k ++ [(i, x)] = (downs xs).take (k + 1) := (take_next hg).symm
      have hN := hS.2
      obtain ⟨a', cap', e, hc', hr⟩ := hN
      cases e
      obtain ⟨g, off, hga, he⟩ := hr.resolve_left (fun e => by rw [e] at hx; cases hx)
      subst hga
      obtain ⟨_, y0, y1, y2, y3⟩ := he i x hx
      have cb := hS.1.cell (i := 0) rfl
      rw [HN.out] at cb
      have hg9 : g < wr.heap.size := World.block_lt_of_cell? wr _ y0
      obtain ⟨fn, tmps, assign, body, hy, hR⟩ := hY _ (i, x) wr HJs.out (by rw [hsnoc]; exact List.take_prefix _ _) 4
      have HP := hid (fun W' (h : BackS bs (.slice (some ⟨g, off, none⟩) xs.length cap) xs wr → BackS bs (.slice (some ⟨g, off, none⟩) xs.length cap) xs W') => h hS)
      have HSN := hid hsnoc
      have HPX := hid (show (downs xs).take (k + 1) <+: downs xs from List.take_prefix _ _)
      clear hx hg hS he hsnoc hY hr
      simp only [pairV] at hy
      gi_wp2
      refine hR.mono ?_
      rintro e W3 (⟨rfl, hJ3, hk3, _⟩ | ⟨rfl, hJ3, _⟩)
      · have HJ3 := hid hJ3
        have HK3 := hid (HP.out _ hk3)
        clear hJ3 hk3 hy hR cb y0 y1 y2 y3 HP
        gi_wp2
        go_roundw
        case rel => exact ⟨k + 1, by omega, by rw [← HI.out]; go_num, HK3.out, by rw [← HSN.out]; exact HJ3.out⟩
        case measure => simp [intOf] <;> omega
      · have HJ3 := hid hJ3
        clear hJ3 hy hR cb y0 y1 y2 y3 HP
        gi_wp2
        refine bodyPost_ret (by simp only [results, Tryd.results143]; go_simp; try rfl) rfl ?_
        exact ⟨⟨_, rfl⟩, .inr ⟨_, by rw [HSN.out]; exact HPX.out, HJ3.out⟩⟩
    · obtain rfl : k = n := by omega
      have he : (downs xs).take k = downs xs := List.take_of_length_le (by rw [downs_len, HN.out]; exact Nat.le_refl _)
      have HE := hid he
      clear he hY
      gi_wp2
      go_end0
      exact ⟨⟨_, rfl⟩, .inl (by rw [← HE.out]; exact HJs.out)⟩
theorem all_any (a : Option Addr) (n cap : Nat) (w : World) : Calls Tryd.prog 113 #[.slice a n cap] w fun e w' => e = .returned (.func (.func 136) #[] #[ptr' w.heap.size]) ∧ w.alloc (.cells #[.slice a n cap] 34) = w' := by
  go_enter Tryd.func113, Tryd.ntmps113
  go_wp2
  go_ret
  exact ⟨rfl, rfl⟩
set_option maxRecDepth 100000 in
set_option maxHeartbeats 1000000 in
theorem all_seq (bs : Nat) (v : Value) (xs : List Nat) (W : World) (hS : BackS bs v xs W) (hl : xs.length < 1000000) :
    SeqIn Tryd.prog 136 #[ptr' bs] pairV (fun A B => BackS bs v xs A → BackS bs v xs B) (ups xs) W := by
  intro L J Jx hL hJ hJx hY h0
  have HS := hid hS
  have c0 := hS.1.cell (i := 0) rfl
  have hN := hS.2
  obtain ⟨a, cap, rfl, hc, _⟩ := hN
  obtain ⟨n, hn⟩ : ∃ n, xs.length = n := ⟨_, rfl⟩
  have HN := hid hn
  rw [hn] at c0 hl hc
  have HJ0 := hid h0
  have HJS := hid hJ
  clear h0 hS hn hJx hJ hL
  refine (callsIn_wide (n := 5)).1 ?_
  refine callsIn_of_wp Tryd.func136 rfl trivial ?_ rfl
  simp only [Tryd.ntmps136, List.size_toArray, List.length_cons, List.length_nil, Nat.reduceAdd, Nat.reduceSub, Array.replicate_succ, Array.replicate_zero, List.push_toArray, List.append_toArray, List.nil_append, List.cons_append]
  have hmix : Tryd.prog.follows .mixedOrders = true := by kernel_rfl
  gi_wp2
  gi_loopw [7] (fun i wr => ∃ k : Nat, k ≤ n ∧ i = .int .i64 (k : Int) ∧ BackS bs (.slice a xs.length cap) xs wr ∧ J ((ups xs).take k) wr) (fun i _ => n - (intOf i).toNat)
  case atStart => exact ⟨0, Nat.zero_le _, rfl, HS.out, HJ0.out⟩
  case round =>
    obtain ⟨k, hk, rfl, hS, hJs⟩ := hrel
    have HJs := hid hJs
    clear hJs c0
    by_cases hlt : k < n
    · obtain ⟨i, hi⟩ : ∃ i : Nat, k = i := ⟨k, rfl⟩
      have hin : i < n := by omega
      subst hi
      obtain ⟨x, hx⟩ : ∃ x, xs[k]? = some x := ⟨xs[k]'(by rw [HN.out]; exact hin), List.getElem?_eq_getElem _⟩
      have hg : (ups xs)[k]? = some (k, x) := ups_get hx
      have hsnoc : (ups xs).take k ++ [(k, x)] = (ups xs).take (k + 1) := (take_next hg).symm
      have hN := hS.2
      obtain ⟨a', cap', e, hc', hr⟩ := hN
      cases e
      obtain ⟨g, off, hga, he⟩ := hr.resolve_left (fun e => by rw [e] at hx; cases hx)
      subst hga
      obtain ⟨_, y0, y1, y2, y3⟩ := he k x hx
      have cb := hS.1.cell (i := 0) rfl
      rw [HN.out] at cb
      have hg9 : g < wr.heap.size := World.block_lt_of_cell? wr _ y0
      have G1 : Grow W.heap.size wr (wr.alloc (.cells #[.int .u64 (limb x 0 : Int), .int .u64 (limb x 1 : Int), .int .u64 (limb x 2 : Int), .int .u64 (limb x 3 : Int)] 29)) := (Grow.refl _ wr).alloc _
      obtain ⟨fn, tmps, assign, body, hy, hR⟩ := hY _ (k, x) _ (HJS.out _ _ _ HJs.out G1) (by rw [hsnoc]; exact List.take_prefix _ _) 4
      have HP := hid (fun W' (h : BackS bs (.slice (some ⟨g, off, none⟩) xs.length cap) xs (wr.alloc (.cells #[.int .u64 (limb x 0 : Int), .int .u64 (limb x 1 : Int), .int .u64 (limb x 2 : Int), .int .u64 (limb x 3 : Int)] 29)) → BackS bs (.slice (some ⟨g, off, none⟩) xs.length cap) xs W') => h (hS.grow G1))
      have HSN := hid hsnoc
      have HPX := hid (show (ups xs).take (k + 1) <+: ups xs from List.take_prefix _ _)
      clear hx hg hS he hsnoc hY hr
      simp only [pairV] at hy
      gi_wp2
      refine hR.mono ?_
      rintro e W3 (⟨rfl, hJ3, hk3, _⟩ | ⟨rfl, hJ3, _⟩)
      · have HJ3 := hid hJ3
        have HK3 := hid (HP.out _ hk3)
        clear hJ3 hk3 hy hR cb y0 y1 y2 y3 HP
        gi_wp2
        go_roundw
        case rel => exact ⟨k + 1, by omega, by go_num, HK3.out, by rw [← HSN.out]; exact HJ3.out⟩
        case measure => simp [intOf] <;> omega
      · have HJ3 := hid hJ3
        clear hJ3 hy hR cb y0 y1 y2 y3 HP
        gi_wp2
        refine bodyPost_ret (by simp only [results, Tryd.results136]; go_simp; try rfl) rfl ?_
        exact ⟨⟨_, rfl⟩, .inr ⟨_, by rw [HSN.out]; exact HPX.out, HJ3.out⟩⟩
    · obtain rfl : k = n := by omega
      have he : (ups xs).take k = ups xs := List.take_of_length_le (by rw [ups_len, HN.out]; exact Nat.le_refl _)
      have HE := hid he
      clear he hY
      gi_wp2
      go_end0
      exact ⟨⟨_, rfl⟩, .inl (by rw [← HE.out]; exact HJs.out)⟩
/-- What visit reads: its boxes. -/
def VisS (bl bt : Nat) (g : Nat) (lb : Array Value) (W : World) : Prop := Blk W bl 160 [.func (.func g) #[] lb] ∧ Blk W bt 53 [.pointer none]
theorem VisS.grow {bl bt g B : Nat} {lb : Array Value} {W W' : World} (h : VisS bl bt g lb W) (k : Grow B W W') : VisS bl bt g lb W' := ⟨h.1.grow k, h.2.grow k⟩
theorem visit_any (t : Option Addr) (g : Nat) (lb : Array Value) (w : World) : Calls Tryd.prog 112 #[.pointer t, .func (.func g) #[] lb] w fun e w' => e = .returned (.func (.func 135) #[] #[ptr' (w.heap.size + 1), ptr' w.heap.size]) ∧ (w.alloc (.cells #[.pointer t] 53)).alloc (.cells #[.func (.func g) #[] lb] 160) = w' := by
  go_enter Tryd.func112, Tryd.ntmps112
  go_wp2
  go_ret
  exact ⟨rfl, rfl⟩
set_option maxRecDepth 100000 in
set_option maxHeartbeats 2000000 in
theorem visit_seq (bl bt g : Nat) (lb : Array Value) (Q : World → Prop) (xs : List (Nat × Nat)) (W : World) (N : Nat) (hN : N ≤ W.heap.size) (eg : ∀ args w, (callFunc g args).run Tryd.prog w = .ok (.enter g args) w) (hV : VisS bl bt g lb W) (hQ : Q W)
    (hQg : ∀ B A A', Q A → Grow B A A' → Q A') (hseq : ∀ W', Q W' → SeqIn Tryd.prog g lb pairV (fun A B => Q A → Q B) xs W') :
    SeqIn Tryd.prog 135 #[ptr' bl, ptr' bt] pairV (fun A B => (VisS bl bt g lb A ∧ Q A → VisS bl bt g lb B ∧ Q B) ∧ Keeps N A B) xs W := by
  intro L J Jx hL hJ hJx hY h0
  have c0 := hV.1.cell (i := 0) rfl
  have zl := hV.1.lt
  have HV := hid hV
  refine (callsIn_wide (n := 9)).1 ?_
  refine callsIn_of_wp_marks Tryd.func135 rfl trivial ?_ rfl
  simp only [Tryd.ntmps135, List.size_toArray, List.length_cons, List.length_nil, Nat.reduceAdd, Nat.reduceSub, Array.replicate_succ, Array.replicate_zero, List.push_toArray, List.append_toArray, List.nil_append, List.cons_append]
  gi_wp2
  have G0 : Grow W.heap.size W (W.alloc (.cells #[.func (.yield L) #[] #[]] 181)) := (Grow.refl _ W).alloc _
  have hb0 : Blk (W.alloc (.cells #[.func (.yield L) #[] #[]] 181)) W.heap.size 181 [.func (.yield L) #[] #[]] := Blk.new rfl
  have hz0 : (W.alloc (.cells #[.func (.yield L) #[] #[]] 181)).heap.size = W.heap.size + 1 := by simp
  generalize W.alloc (.cells #[.func (.yield L) #[] #[]] 181) = W0 at *
  refine wpIn_every (gf := g) (lb := lb) rfl eg (fun W' hg => hseq W' (hQg _ _ _ (hQg _ _ _ hQ G0) hg)) (fun h k x => k (h x)) (fun A B hg q => hQg _ _ _ q hg) (fun _ => rfl)
    (fun pre W' => J pre W' ∧ (VisS bl bt g lb W' ∧ Q W') ∧ Blk W' W.heap.size 181 [.func (.yield L) #[] #[]])
    (fun c pre W' => c = .ret ∧ Jx pre W')
    (fun pre A B h k => ⟨hJ pre A B h.1 (k.mono (by omega)), ⟨h.2.1.1.grow k, hQg _ _ _ h.2.1.2 k⟩, h.2.2.grow k⟩)
    (fun c pre A B h k => ⟨h.1, hJx pre A B h.2 (k.mono (by omega))⟩)
    ⟨hJ [] W W0 h0 G0, ⟨hV.grow G0, hQg _ _ _ hQ G0⟩, hb0⟩ ?round ?done ?stop
  case round =>
    rintro m l pre ⟨i, x⟩ W' ⟨hj, ⟨hv, hq⟩, hb⟩ hpre hl
    have HJ := hid hj
    have HVV := hid hv
    have HQ := hid hq
    have HB := hid hb
    have HPRE := hid hpre
    have HL := hid hl
    have HYY := hid hY
    have HJJ := hid hJ
    clear hj hv hq hb hpre hY hJ hJx hseq hQ c0 hV hb0
    simp only [pairV]
    gi_wp2
    refine ⟨((Only.refl (fun _ => True) W').alloc _).low _ _, fun W2 hg => ?_⟩
    have G2 : Grow W0.heap.size W' W2 := ((Grow.refl _ W').alloc _).trans hg
    have hbx : Blk W2 W'.heap.size 29 (limbs x) := (Blk.new rfl).grow hg
    have k0 := (HVV.out.grow G2).2.cell (i := 0) rfl
    have k1 := (HB.out.grow G2).cell (i := 0) rfl
    have x0 := hbx.cell (i := 0) rfl
    have x1 := hbx.cell (i := 1) rfl
    have x2 := hbx.cell (i := 2) rfl
    have x3 := hbx.cell (i := 3) rfl
    have QV := hid (show VisS bl bt g lb W2 ∧ Q W2 from ⟨HVV.out.grow G2, hQg _ _ _ HQ.out G2⟩)
    have HB2 := hid (HB.out.grow G2)
    have J2 := hid (HJJ.out pre _ _ HJ.out (G2.mono (by omega)))
    obtain ⟨fn, tmps, assign, body, hy, hR⟩ := HYY.out pre (i, x) W2 J2.out HPRE.out (m - 1)
    simp only [pairV] at hy
    clear hg G2 hbx
    gi_wp2_with (refine ⟨trivial, (fun h => by cases h), ?_⟩; refine (CallsIn.inRound l (callsIn_wide.2 (note_nil _ _ _ _))).mono ?_; rintro e w5 ⟨rfl, rfl⟩)
    refine ⟨fun h => (by cases h), RoundIn.mono (F := Fence.wide.inRound l) hR ?_⟩
    rintro e W3 (⟨rfl, hJ3, hk3, ha3⟩ | ⟨rfl, hJ3, ha3⟩)
    · have HJ3 := hid hJ3
      have HK3 := hid (hk3.1 QV.out)
      have HB3 := hid (HB2.out.keeps hk3.2 hN)
      have HA3 := hid ha3
      clear hJ3 hk3 ha3 hy hR
      gi_wp2
      exact ⟨HA3.out.low (by omega) (by omega), fun _ => HK3.out.2, HJ3.out, HK3.out, HB3.out⟩
    · have HJ3 := hid hJ3
      have HA3 := hid ha3
      clear hJ3 ha3 hy hR
      gi_wp2
      exact ⟨HA3.out.low (by omega) (by omega), rfl, HJ3.out⟩
  case done =>
    rintro D W' hD ⟨hj, _, _⟩ hK
    have HJ := hid hj
    have HJJ := hid hJ
    clear hj hJ hJx hY hseq
    gi_wp2
    refine ⟨by simp, .inl ⟨_, _, rfl, run_takeDeferred hK, ?_⟩⟩
    have hg := (Grow.refl W0.heap.size W').putObj (.deferred none) hD hK rfl
    exact ⟨_, results_none rfl _ _ _, ⟨_, rfl⟩, .inl (HJJ.out _ _ _ HJ.out (hg.mono (by omega)))⟩
  case stop =>
    rintro D c pre W' hD hpre ⟨rfl, hx⟩ hK
    have HX := hid hx
    have HJX := hid hJx
    have HPRE := hid hpre
    clear hx hJ hJx hY hseq hpre
    gi_wp2
    refine ⟨by simp, .inl ⟨_, _, rfl, run_takeDeferred hK, ?_⟩⟩
    have hg := (Grow.refl W0.heap.size W').putObj (.deferred none) hD hK rfl
    exact ⟨_, results_none rfl _ _ _, ⟨_, rfl⟩, .inr ⟨_, HPRE.out, HJX.out _ _ _ HX.out (hg.mono (by omega))⟩⟩
end Go.Proofs.YtogenbggjodcnaaDoor
/-
  Horner's rule over Montgomery forms: plain.
-/
namespace Go.Proofs.YtogenbggjodcnaaDoor
/-- Horner's rule over the elements, the last one first. -/
noncomputable def horP (m x : Nat) (l : List (Nat × Nat)) : Nat := l.foldl (fun r e => addm m (mont m r x) e.2) 0
theorem horP_nil (m x : Nat) : horP m x [] = 0 := rfl
theorem horP_snoc (m x : Nat) (l : List (Nat × Nat)) (e : Nat × Nat) : horP m x (l ++ [e]) = addm m (mont m (horP m x l) x) e.2 := by unfold horP; rw [List.foldl_append]; rfl
theorem horP_lt {m : Nat} (x : Nat) (hm : 0 < m) : ∀ l, horP m x l < m := by
  intro l
  rcases List.eq_nil_or_concat l with rfl | ⟨l', e, rfl⟩
  · exact hm
  · rw [List.concat_eq_append, horP_snoc]; exact addm_lt _ _ hm
theorem downs_at {xs : List Nat} {k i y : Nat} (h : (downs xs)[k]? = some (i, y)) : xs[i]? = some y ∧ i + k + 1 = xs.length := by
  have hk : k < xs.length := by have := (List.getElem?_eq_some_iff.1 h).1; rwa [downs_len] at this
  obtain ⟨z, hz⟩ : ∃ z, xs[xs.length - 1 - k]? = some z := ⟨xs[xs.length - 1 - k]'(by omega), List.getElem?_eq_getElem _⟩
  have := downs_get hz
  rw [show xs.length - 1 - (xs.length - 1 - k) = k by omega, h] at this
  cases this
  exact ⟨hz, by omega⟩
theorem ups_at {xs : List Nat} {k i y : Nat} (h : (ups xs)[k]? = some (i, y)) : xs[k]? = some y ∧ i = k := by
  have hk : k < xs.length := by have := (List.getElem?_eq_some_iff.1 h).1; rwa [ups_len] at this
  obtain ⟨z, hz⟩ : ∃ z, xs[k]? = some z := ⟨xs[k]'hk, List.getElem?_eq_getElem _⟩
  have := ups_get hz
  rw [h] at this
  cases this
  exact ⟨hz, rfl⟩
theorem pre_take {α : Type} {l pre : List α} {e : α} (h : pre ++ [e] <+: l) : l[pre.length]? = some e ∧ pre = l.take pre.length := by
  obtain ⟨s, rfl⟩ := h
  refine ⟨by simp, by simp⟩
/-- The quotient's cells behind k rounds. -/
def QRow (m x c : Nat) (L : List (Nat × Nat)) (k : Nat) (ys : List Value) : Prop := ys.length = c * 4 ∧ ∀ j i, j < c → i < 4 → ys[j * 4 + i]? = some (.int .u64 (limb (if c - j ≤ k then horP m x (L.take (c - j)) else 0) i : Int))
theorem QRow.skip {m x c : Nat} {L : List (Nat × Nat)} {k : Nat} {ys : List Value} (h : QRow m x c L k ys) (hk : c ≤ k) : QRow m x c L (k + 1) ys := by
  refine ⟨h.1, fun j i hj hi => ?_⟩
  rw [h.2 j i hj hi, if_pos (by omega), if_pos (by omega)]
set_option maxHeartbeats 400000 in
theorem QRow.store {m x c j : Nat} {L : List (Nat × Nat)} {k : Nat} {ys : List Value} (h : QRow m x c L k ys) (hj : j + k + 1 = c) (r : Nat) (hr : horP m x (L.take (k + 1)) = r) :
    QRow m x c L (k + 1) ((((ys.set (j * 4) (.int .u64 (limb r 0 : Int))).set (j * 4 + 1) (.int .u64 (limb r 1 : Int))).set (j * 4 + 2) (.int .u64 (limb r 2 : Int))).set (j * 4 + 3) (.int .u64 (limb r 3 : Int))) := by
  obtain ⟨hl, h⟩ := h
  refine ⟨by simp [hl], fun j' i hj' hi => ?_⟩
  by_cases hjk : j' = j
  · subst hjk
    rw [if_pos (by omega), show c - j' = k + 1 by omega, hr]
    match i, hi with
    | 0, _ => simp [List.getElem?_set, hl]; omega
    | 1, _ => simp [List.getElem?_set, hl]; omega
    | 2, _ => simp [List.getElem?_set, hl]; omega
    | 3, _ => simp [List.getElem?_set, hl]; omega
  · rw [List.getElem?_set_ne (by omega), List.getElem?_set_ne (by omega), List.getElem?_set_ne (by omega), List.getElem?_set_ne (by omega), h j' i hj' hi]
    by_cases h1 : c - j' ≤ k
    · rw [if_pos h1, if_pos (by omega)]
    · rw [if_neg h1, if_neg (by omega)]
/-- The quotient by x, lowest first. -/
noncomputable def quo (m x : Nat) (xs : List Nat) : List Nat := (List.range (xs.length - 1)).map fun j => horP m x ((downs xs).take (xs.length - 1 - j))
theorem quo_len (m x : Nat) (xs : List Nat) : (quo m x xs).length = xs.length - 1 := by simp [quo]
theorem quo_lt {m : Nat} (x : Nat) (xs : List Nat) (hm : 0 < m) : ∀ y ∈ quo m x xs, y < m := by
  intro y hy
  simp only [quo, List.mem_map] at hy
  obtain ⟨j, _, rfl⟩ := hy
  exact horP_lt x hm _
theorem QRow.done {m x c : Nat} {xs : List Nat} {ys : List Value} (h : QRow m x c (downs xs) xs.length ys) (hc : xs.length - 1 = c) : ys = nums (quo m x xs) := by
  obtain ⟨hl, h⟩ := h
  apply List.ext_getElem?
  intro k
  by_cases hk : k < c * 4
  · obtain ⟨j, i, rfl, hi⟩ : ∃ j i, k = j * 4 + i ∧ i < 4 := ⟨k / 4, k % 4, by omega, by omega⟩
    have hj : j < c := by omega
    have hq : (quo m x xs)[j]? = some (horP m x ((downs xs).take (c - j))) := by
      unfold quo
      rw [List.getElem?_map, hc, List.getElem?_range hj]
      rfl
    rw [h j i hj hi, if_pos (by omega), nums_get _ j _ hq i hi]
  · rw [List.getElem?_eq_none (by omega), List.getElem?_eq_none (by rw [nums_len, quo_len, hc]; omega)]
theorem QRow.zero (m x c : Nat) (L : List (Nat × Nat)) (ys : List Value) (hl : ys.length = c * 4) (h : ∀ j i, j < c → i < 4 → ys[j * 4 + i]? = some (.int .u64 0)) : QRow m x c L 0 ys := by
  refine ⟨hl, fun j i hj hi => ?_⟩
  rw [h j i hj hi, if_neg (by omega), limb_eq]
  simp
theorem made_zeros (n j i : Nat) (hj : j < n) (hi : i < 4) : (madeCells (Value.agg #[.int .u64 0, .int .u64 0, .int .u64 0, .int .u64 0]).cells (n * 4)).toList[j * 4 + i]? = some (.int .u64 0) := by
  have h1 : j * 4 + i < n * 4 := by omega
  have h2 : (j * 4 + i) % 4 = i := by omega
  show (madeCells #[.int .u64 0, .int .u64 0, .int .u64 0, .int .u64 0] (n * 4)).toList[j * 4 + i]? = _
  rw [Array.getElem?_toList, madeCells]
  simp only [Array.getElem?_map, Array.getElem?_range, h1, if_pos, Option.map_some]
  match i, hi with
  | 0, _ => simp
  | 1, _ => simp [h2]
  | 2, _ => simp [h2]
  | 3, _ => simp [h2]
end Go.Proofs.YtogenbggjodcnaaDoor
/-
  Values of polynomials: plain.
-/
namespace Go.Proofs.YtogenbggjodcnaaDoor

/-- The value of a polynomial, as a natural number. -/
def polyN (x : Nat) : List Nat → Nat
  | [] => 0
  | c :: r => c + x * polyN x r
theorem polyN_snoc (x c : Nat) : ∀ l : List Nat, polyN x (l ++ [c]) = polyN x l + c * x ^ l.length
  | [] => by simp [polyN]
  | y :: r => by
    simp only [List.cons_append, polyN, polyN_snoc x c r, List.length_cons, Nat.mul_add, Nat.pow_succ]
    rw [Nat.add_assoc, ← Nat.mul_assoc x c, Nat.mul_comm x c, Nat.mul_assoc c, Nat.mul_comm x (x ^ r.length)]
/-- The value modulo p. -/
noncomputable def evm (p x : Nat) (cs : List Nat) : Nat := veil (polyN x cs % p)
theorem evm_eq (p x : Nat) (cs : List Nat) : evm p x cs = polyN x cs % p := veil_eq _
theorem evm_lt {p : Nat} (x : Nat) (cs : List Nat) (hp : 0 < p) : evm p x cs < p := by rw [evm_eq]; exact Nat.mod_lt _ hp
theorem evm_nil (p x : Nat) : evm p x [] = 0 := by rw [evm_eq, polyN, Nat.zero_mod]
theorem evm_cons (p x c : Nat) (r : List Nat) : addm p (mulm p (evm p x r) x) c = evm p x (c :: r) := by
  rw [addm_eq, mulm_eq, evm_eq, evm_eq, polyN, Nat.mod_mul_mod, Nat.mod_add_mod, Nat.mul_comm x, Nat.add_comm]
theorem evm_snoc (p x c : Nat) (l : List Nat) : addm p (evm p x l) (mulm p c (powm p x l.length)) = evm p x (l ++ [c]) := by
  rw [addm_eq, mulm_eq, powm_eq, evm_eq, evm_eq, polyN_snoc, Nat.mul_mod_mod, ← Nat.add_mod]
theorem horP_downs (m x : Nat) (xs : List Nat) : horP m x (downs xs) = xs.foldr (fun y r => addm m (mont m r x) y) 0 := by
  unfold horP downs
  rw [List.foldl_reverse]
  have key : ∀ (l : List Nat) (k : Nat), ((l.zipIdx k).map fun p => (p.2, p.1)).foldr (fun e r => addm m (mont m r x) e.2) 0 = l.foldr (fun y r => addm m (mont m r x) y) 0 := by
    intro l
    induction l with
    | nil => intro k; rfl
    | cons y r ih => intro k; simp only [List.zipIdx_cons, List.map_cons, List.foldr_cons]; rw [ih]
  exact key xs 0
/-- Horner's rule on forms gives the form of the value. -/
theorem horP_forms {m : Nat} (h : ∃ y, B256 * y % m = 1) (x : Nat) (vs : List Nat) : horP m (frm m x) (downs (vs.map (frm m))) = frm m (evm m x vs) := by
  rw [horP_downs]
  induction vs with
  | nil => rw [List.map_nil, List.foldr_nil, evm_nil, frm_zero]
  | cons c r ih => rw [List.map_cons, List.foldr_cons, ih, frm_mulm h, frm_addm, evm_cons]
/-! ### products -/
/-- What stands at t of a product behind the rows below i, and k elements of row i. -/
noncomputable def rowc (m : Nat) (xs ys : List Nat) (i k t r : Nat) : Nat := if i ≤ t ∧ t - i < k then addm m r (mont m (xs.getD i 0) (ys.getD (t - i) 0)) else r
noncomputable def pacc (m : Nat) (xs ys : List Nat) : Nat → Nat → Nat
  | 0, _ => 0
  | i + 1, t => rowc m xs ys i ys.length t (pacc m xs ys i t)
theorem rowc_zero (m : Nat) (xs ys : List Nat) (i t r : Nat) : rowc m xs ys i 0 t r = r := by unfold rowc; rw [if_neg (by omega)]
theorem rowc_same {m : Nat} {xs ys : List Nat} {i k t r : Nat} (h : t ≠ i + k) : rowc m xs ys i (k + 1) t r = rowc m xs ys i k t r := by
  unfold rowc
  by_cases h1 : i ≤ t ∧ t - i < k
  · rw [if_pos h1, if_pos ⟨h1.1, by omega⟩]
  · rw [if_neg h1, if_neg (by omega)]
theorem rowc_here (m : Nat) (xs ys : List Nat) (i k r : Nat) : rowc m xs ys i (k + 1) (i + k) r = addm m r (mont m (xs.getD i 0) (ys.getD k 0)) ∧ rowc m xs ys i k (i + k) r = r := by
  unfold rowc
  exact ⟨by rw [if_pos ⟨by omega, by omega⟩, show i + k - i = k by omega], by rw [if_neg (by omega)]⟩
theorem rowc_lt {m : Nat} (xs ys : List Nat) (i k t : Nat) {r : Nat} (hm : 0 < m) (hr : r < m) : rowc m xs ys i k t r < m := by
  unfold rowc; split
  · exact addm_lt _ _ hm
  · exact hr
theorem pacc_lt {m : Nat} (xs ys : List Nat) (hm : 0 < m) : ∀ i t, pacc m xs ys i t < m
  | 0, _ => hm
  | i + 1, t => rowc_lt xs ys i _ t hm (pacc_lt xs ys hm i t)
/-- The product of two lists of forms. -/
noncomputable def pmulF (m : Nat) (xs ys : List Nat) : List Nat := if xs = [] ∨ ys = [] then [] else (List.range (xs.length + ys.length - 1)).map (pacc m xs ys xs.length)
/-- The cells of a product under way. -/
def PRow (m : Nat) (xs ys : List Nat) (c i k : Nat) (zs : List Value) : Prop := zs.length = c * 4 ∧ ∀ t j, t < c → j < 4 → zs[t * 4 + j]? = some (.int .u64 (limb (rowc m xs ys i k t (pacc m xs ys i t)) j : Int))
theorem PRow.zero (m c : Nat) (xs ys : List Nat) (zs : List Value) (hl : zs.length = c * 4) (h : ∀ t j, t < c → j < 4 → zs[t * 4 + j]? = some (.int .u64 0)) : PRow m xs ys c 0 0 zs := by
  refine ⟨hl, fun t j ht hj => ?_⟩
  rw [h t j ht hj, rowc_zero]
  show _ = some (Value.int .u64 (limb 0 j : Int))
  rw [limb_eq]; simp
theorem PRow.next {m c i : Nat} {xs ys : List Nat} {zs : List Value} (h : PRow m xs ys c i ys.length zs) : PRow m xs ys c (i + 1) 0 zs := by
  refine ⟨h.1, fun t j ht hj => ?_⟩
  rw [h.2 t j ht hj, rowc_zero]
  rfl
set_option maxHeartbeats 400000 in
theorem PRow.store {m c i k : Nat} {xs ys : List Nat} {zs : List Value} (h : PRow m xs ys c i k zs) (hc : i + k < c) (r : Nat) (hr : rowc m xs ys i (k + 1) (i + k) (pacc m xs ys i (i + k)) = r) :
    PRow m xs ys c i (k + 1) ((((zs.set ((i + k) * 4) (.int .u64 (limb r 0 : Int))).set ((i + k) * 4 + 1) (.int .u64 (limb r 1 : Int))).set ((i + k) * 4 + 2) (.int .u64 (limb r 2 : Int))).set ((i + k) * 4 + 3) (.int .u64 (limb r 3 : Int))) := by
  obtain ⟨hl, h⟩ := h
  obtain ⟨u, hu⟩ : ∃ u, i + k = u := ⟨_, rfl⟩
  rw [hu] at hr hc ⊢
  refine ⟨by simp [hl], fun t j ht hj => ?_⟩
  by_cases e : t = u
  · subst e
    rw [hr]
    match j, hj with
    | 0, _ => simp [List.getElem?_set, hl]; omega
    | 1, _ => simp [List.getElem?_set, hl]; omega
    | 2, _ => simp [List.getElem?_set, hl]; omega
    | 3, _ => simp [List.getElem?_set, hl]; omega
  · rw [List.getElem?_set_ne (by omega), List.getElem?_set_ne (by omega), List.getElem?_set_ne (by omega), List.getElem?_set_ne (by omega), h t j ht hj, rowc_same (by omega)]
theorem PRow.done {m c : Nat} {xs ys : List Nat} {zs : List Value} (h : PRow m xs ys c xs.length 0 zs) (hx : xs ≠ []) (hy : ys ≠ []) (hc : xs.length + ys.length - 1 = c) : (pmulF m xs ys).length = c ∧ zs = nums (pmulF m xs ys) := by
  have e : pmulF m xs ys = (List.range c).map (pacc m xs ys xs.length) := by unfold pmulF; rw [if_neg (fun h => h.elim hx hy), hc]
  rw [e]
  refine ⟨by simp, List.ext_getElem? fun k => ?_⟩
  obtain ⟨hl, h⟩ := h
  by_cases hk : k < c * 4
  · obtain ⟨t, j, rfl, hj⟩ : ∃ t j, k = t * 4 + j ∧ j < 4 := ⟨k / 4, k % 4, by omega, by omega⟩
    have ht : t < c := by omega
    rw [h t j ht hj, rowc_zero, nums_get _ t (pacc m xs ys xs.length t) (by rw [List.getElem?_map, List.getElem?_range ht]; rfl) j hj]
  · rw [List.getElem?_eq_none (by omega), List.getElem?_eq_none (by rw [nums_len]; simp; omega)]
end Go.Proofs.YtogenbggjodcnaaDoor
/-
  Products, quotients and values on forms and on values: plain; the numbers of the chapter's example.
-/
namespace Go.Proofs.YtogenbggjodcnaaDoor

noncomputable def rowV (p : Nat) (xs ys : List Nat) (i k t r : Nat) : Nat := if i ≤ t ∧ t - i < k then addm p r (mulm p (xs.getD i 0) (ys.getD (t - i) 0)) else r
noncomputable def paccV (p : Nat) (xs ys : List Nat) : Nat → Nat → Nat
  | 0, _ => 0
  | i + 1, t => rowV p xs ys i ys.length t (paccV p xs ys i t)
/-- The product of two lists of values. -/
noncomputable def pmulV (p : Nat) (xs ys : List Nat) : List Nat := if xs = [] ∨ ys = [] then [] else (List.range (xs.length + ys.length - 1)).map (paccV p xs ys xs.length)
theorem getD_frm (m : Nat) (xs : List Nat) (i : Nat) : (xs.map (frm m)).getD i 0 = frm m (xs.getD i 0) := by
  simp only [List.getD, List.getElem?_map]
  cases xs[i]? with
  | none => simp [frm_zero]
  | some x => rfl
theorem pacc_forms {m : Nat} (h : ∃ y, B256 * y % m = 1) (xs ys : List Nat) : ∀ i t, pacc m (xs.map (frm m)) (ys.map (frm m)) i t = frm m (paccV m xs ys i t)
  | 0, _ => (frm_zero m).symm
  | i + 1, t => by
    show rowc m _ _ i (ys.map (frm m)).length t (pacc m _ _ i t) = frm m (rowV m xs ys i ys.length t (paccV m xs ys i t))
    rw [pacc_forms h xs ys i t, List.length_map]
    unfold rowc rowV
    split
    · rw [getD_frm, getD_frm, frm_mulm h, frm_addm]
    · rfl
theorem pmul_forms {m : Nat} (h : ∃ y, B256 * y % m = 1) (xs ys : List Nat) : pmulF m (xs.map (frm m)) (ys.map (frm m)) = (pmulV m xs ys).map (frm m) := by
  unfold pmulF pmulV
  by_cases h0 : xs = [] ∨ ys = []
  · rw [if_pos h0, if_pos (h0.imp (fun e => by rw [e]; rfl) (fun e => by rw [e]; rfl))]; rfl
  · rw [if_neg h0, if_neg (fun e => h0 (e.imp (fun e => List.map_eq_nil_iff.1 e) (fun e => List.map_eq_nil_iff.1 e))), List.length_map, List.length_map, List.map_map]
    refine List.map_congr_left fun t _ => ?_
    exact pacc_forms h xs ys _ t
noncomputable def horV (p x : Nat) (l : List (Nat × Nat)) : Nat := l.foldl (fun r e => addm p (mulm p r x) e.2) 0
theorem hor_forms {m : Nat} (h : ∃ y, B256 * y % m = 1) (x : Nat) (l : List (Nat × Nat)) : horP m (frm m x) (l.map fun e => (e.1, frm m e.2)) = frm m (horV m x l) := by
  have key : ∀ (l : List (Nat × Nat)) (r : Nat), (l.map fun e => (e.1, frm m e.2)).foldl (fun r e => addm m (mont m r (frm m x)) e.2) (frm m r) = frm m (l.foldl (fun r e => addm m (mulm m r x) e.2) r) := by
    intro l
    induction l with
    | nil => intro r; rfl
    | cons e l ih => intro r; simp only [List.map_cons, List.foldl_cons]; rw [frm_mulm h, frm_addm, ih]
  have := key l 0
  rw [frm_zero] at this
  exact this
theorem downs_map (f : Nat → Nat) (xs : List Nat) : downs (xs.map f) = (downs xs).map fun e => (e.1, f e.2) := by
  unfold downs ups
  rw [List.map_reverse]
  congr 1
  apply List.ext_getElem?
  intro k
  simp only [List.getElem?_map, List.getElem?_zipIdx]
  cases xs[k]? <;> rfl
/-- The quotient on values. -/
noncomputable def quoV (p x : Nat) (xs : List Nat) : List Nat := (List.range (xs.length - 1)).map fun j => horV p x ((downs xs).take (xs.length - 1 - j))
theorem quo_forms {m : Nat} (h : ∃ y, B256 * y % m = 1) (x : Nat) (xs : List Nat) : quo m (frm m x) (xs.map (frm m)) = (quoV m x xs).map (frm m) := by
  unfold quo quoV
  rw [List.length_map, List.map_map]
  refine List.map_congr_left fun j _ => ?_
  rw [downs_map, ← List.map_take, hor_forms h]
  rfl
/-! ### the example -/
theorem limbs_small {x : Nat} (hx : x < 18446744073709551616) : limbs x = [.int .u64 (x : Int), .int .u64 0, .int .u64 0, .int .u64 0] := by
  have e0 : limb x 0 = x := by rw [limb0]; omega
  have e1 : limb x 1 = 0 := by rw [limb1]; omega
  have e2 : limb x 2 = 0 := by rw [limb2]; omega
  have e3 : limb x 3 = 0 := by rw [limb3]; omega
  show [Value.int .u64 (limb x 0 : Int), .int .u64 (limb x 1 : Int), .int .u64 (limb x 2 : Int), .int .u64 (limb x 3 : Int)] = _
  rw [e0, e1, e2, e3]; rfl
theorem vec_small {x : Nat} (hx : x < 18446744073709551616) : vec x = .agg #[.int .u64 (x : Int), .int .u64 0, .int .u64 0, .int .u64 0] := by
  have := limbs_small hx
  unfold limbs at this
  simp only [List.cons.injEq, and_true] at this
  obtain ⟨a, b, c, d⟩ := this
  rw [vec, a, b, c, d]
theorem mod_small {x : Nat} (hx : x < P2) : mulm P2 1 x = x := by rw [mulm_eq, Nat.one_mul, Nat.mod_eq_of_lt hx]
theorem vals3 : [1, 2, 3].map (mulm P2 1) = [1, 2, 3] := by
  show [mulm P2 1 1, mulm P2 1 2, mulm P2 1 3] = _
  rw [mod_small (by decide), mod_small (by decide), mod_small (by decide)]
theorem vals2 : [1, 1].map (mulm P2 1) = [1, 1] := by
  show [mulm P2 1 1, mulm P2 1 1] = _
  rw [mod_small (by decide)]
theorem ev321 : evm P2 10 [1, 2, 3] = 321 := by rw [evm_eq]; decide
theorem prod121 : pmulV P2 [1, 1] [1, 1] = [1, 2, 1] := by
  have e0 : paccV P2 [1, 1] [1, 1] 2 0 = 1 := by simp only [paccV, rowV, addm_eq, mulm_eq]; decide
  have e1 : paccV P2 [1, 1] [1, 1] 2 1 = 2 := by simp only [paccV, rowV, addm_eq, mulm_eq]; decide
  have e2 : paccV P2 [1, 1] [1, 1] 2 2 = 1 := by simp only [paccV, rowV, addm_eq, mulm_eq]; decide
  unfold pmulV
  rw [if_neg (by simp)]
  show [paccV P2 [1, 1] [1, 1] 2 0, paccV P2 [1, 1] [1, 1] 2 1, paccV P2 [1, 1] [1, 1] 2 2] = _
  rw [e0, e1, e2]
theorem quo323 : quoV P2 10 [1, 2, 3] = [32, 3] := by
  have e0 : horV P2 10 [(2, 3), (1, 2)] = 32 := by simp only [horV, List.foldl_cons, List.foldl_nil, addm_eq, mulm_eq]; decide
  have e1 : horV P2 10 [(2, 3)] = 3 := by simp only [horV, List.foldl_cons, List.foldl_nil, addm_eq, mulm_eq]; decide
  show [horV P2 10 [(2, 3), (1, 2)], horV P2 10 [(2, 3)]] = _
  rw [e0, e1]
theorem blk_nums {w : World} {b : Nat} {t : TypeId} {xs : List Nat} (h : Blk w b t (nums xs)) (hx : ∀ x ∈ xs, x < B256) : NumSl w (.slice (some ⟨b, 0, none⟩) xs.length xs.length) xs := by
  refine ⟨_, _, rfl, Nat.le_refl _, .inr ⟨b, 0, rfl, fun j x hj => ?_⟩⟩
  rw [Nat.zero_add]
  exact ⟨hx x (List.mem_of_getElem? hj), h.cell (nums_get xs j x hj 0 (by omega)), h.cell (nums_get xs j x hj 1 (by omega)), h.cell (nums_get xs j x hj 2 (by omega)), h.cell (nums_get xs j x hj 3 (by omega))⟩
end Go.Proofs.YtogenbggjodcnaaDoor
/-
  Rows of numbers under way; products and sums of lists of values.
-/
namespace Go.Proofs.YtogenbggjodcnaaDoor

/-- The cells of a row of numbers. -/
def FRow (c : Nat) (f : Nat → Nat) (zs : List Value) : Prop := zs.length = c * 4 ∧ ∀ t j, t < c → j < 4 → zs[t * 4 + j]? = some (.int .u64 (limb (f t) j : Int))
theorem FRow.zero (c : Nat) (zs : List Value) (hl : zs.length = c * 4) (h : ∀ t j, t < c → j < 4 → zs[t * 4 + j]? = some (.int .u64 0)) : FRow c (fun _ => 0) zs := by
  refine ⟨hl, fun t j ht hj => ?_⟩
  rw [h t j ht hj]
  show _ = some (Value.int .u64 (limb 0 j : Int))
  rw [limb_eq]; simp
theorem FRow.congr {c : Nat} {f g : Nat → Nat} {zs : List Value} (h : FRow c f zs) (e : ∀ t, t < c → g t = f t) : FRow c g zs := ⟨h.1, fun t j ht hj => by rw [e t ht]; exact h.2 t j ht hj⟩
set_option maxHeartbeats 400000 in
theorem FRow.store {c u : Nat} {f g : Nat → Nat} {zs : List Value} (h : FRow c f zs) (hu : u < c) (r : Nat) (hg : ∀ t, t < c → g t = if t = u then r else f t) :
    FRow c g ((((zs.set (u * 4) (.int .u64 (limb r 0 : Int))).set (u * 4 + 1) (.int .u64 (limb r 1 : Int))).set (u * 4 + 2) (.int .u64 (limb r 2 : Int))).set (u * 4 + 3) (.int .u64 (limb r 3 : Int))) := by
  obtain ⟨hl, h⟩ := h
  refine ⟨by simp [hl], fun t j ht hj => ?_⟩
  rw [hg t ht]
  by_cases e : t = u
  · subst e
    rw [if_pos rfl]
    match j, hj with
    | 0, _ => simp [List.getElem?_set, hl]; omega
    | 1, _ => simp [List.getElem?_set, hl]; omega
    | 2, _ => simp [List.getElem?_set, hl]; omega
    | 3, _ => simp [List.getElem?_set, hl]; omega
  · rw [if_neg e, List.getElem?_set_ne (by omega), List.getElem?_set_ne (by omega), List.getElem?_set_ne (by omega), List.getElem?_set_ne (by omega), h t j ht hj]
theorem FRow.done {c : Nat} {f : Nat → Nat} {zs : List Value} (h : FRow c f zs) : zs = nums ((List.range c).map f) := by
  refine List.ext_getElem? fun k => ?_
  obtain ⟨hl, h⟩ := h
  by_cases hk : k < c * 4
  · obtain ⟨t, j, rfl, hj⟩ : ∃ t j, k = t * 4 + j ∧ j < 4 := ⟨k / 4, k % 4, by omega, by omega⟩
    have ht : t < c := by omega
    rw [h t j ht hj, nums_get _ t (f t) (by rw [List.getElem?_map, List.getElem?_range ht]; rfl) j hj]
  · rw [List.getElem?_eq_none (by omega), List.getElem?_eq_none (by rw [nums_len]; simp; omega)]
theorem FRow.of (xs : List Nat) : FRow xs.length (fun t => xs.getD t 0) (nums xs) := ⟨nums_len xs, fun t j ht hj => by
  rw [nums_get xs t (xs.getD t 0) (by simp [List.getD, List.getElem?_eq_getElem ht]) j hj]⟩
theorem rowV_zero (p : Nat) (xs ys : List Nat) (i t r : Nat) : rowV p xs ys i 0 t r = r := by unfold rowV; rw [if_neg (by omega)]
theorem rowV_same {p : Nat} {xs ys : List Nat} {i k t r : Nat} (h : t ≠ i + k) : rowV p xs ys i (k + 1) t r = rowV p xs ys i k t r := by
  unfold rowV
  by_cases h1 : i ≤ t ∧ t - i < k
  · rw [if_pos h1, if_pos ⟨h1.1, by omega⟩]
  · rw [if_neg h1, if_neg (by omega)]
theorem rowV_here (p : Nat) (xs ys : List Nat) (i k r : Nat) : rowV p xs ys i (k + 1) (i + k) r = addm p r (mulm p (xs.getD i 0) (ys.getD k 0)) ∧ rowV p xs ys i k (i + k) r = r := by
  unfold rowV
  exact ⟨by rw [if_pos ⟨by omega, by omega⟩, show i + k - i = k by omega], by rw [if_neg (by omega)]⟩
theorem rowV_lt {p : Nat} (xs ys : List Nat) (i k t : Nat) {r : Nat} (hp : 0 < p) (hr : r < p) : rowV p xs ys i k t r < p := by
  unfold rowV; split
  · exact addm_lt _ _ hp
  · exact hr
theorem paccV_lt {p : Nat} (xs ys : List Nat) (hp : 0 < p) : ∀ i t, paccV p xs ys i t < p
  | 0, _ => hp
  | i + 1, t => rowV_lt xs ys i _ t hp (paccV_lt xs ys hp i t)
theorem pmulV_lt {p : Nat} (xs ys : List Nat) (hp : 0 < p) : ∀ y ∈ pmulV p xs ys, y < p := by
  intro y hy
  unfold pmulV at hy
  split at hy
  · cases hy
  · obtain ⟨t, _, rfl⟩ := List.mem_map.1 hy; exact paccV_lt _ _ hp _ _
theorem pmulV_eq {p : Nat} {xs ys : List Nat} (hx : xs ≠ []) (hy : ys ≠ []) : pmulV p xs ys = (List.range (xs.length + ys.length - 1)).map (paccV p xs ys xs.length) := by
  unfold pmulV; rw [if_neg (fun h => h.elim hx hy)]
theorem rowV_store {p c i k u r x y r2 : Nat} {xs ys : List Nat} {zs : List Value} (h : FRow c (fun t => rowV p xs ys i k t (paccV p xs ys i t)) zs) (hu : i + k = u) (hc : u < c) (hr : rowV p xs ys i k u (paccV p xs ys i u) = r) (hx : xs.getD i 0 = x) (hy : ys.getD k 0 = y) (h2 : addm p r (mulm p x y) = r2) :
    FRow c (fun t => rowV p xs ys i (k + 1) t (paccV p xs ys i t)) ((((zs.set (u * 4) (.int .u64 (limb r2 0 : Int))).set (u * 4 + 1) (.int .u64 (limb r2 1 : Int))).set (u * 4 + 2) (.int .u64 (limb r2 2 : Int))).set (u * 4 + 3) (.int .u64 (limb r2 3 : Int))) := by
  refine h.store hc r2 (fun t _ => ?_)
  subst hu
  by_cases e : t = i + k
  · rw [if_pos e, e]
    show rowV p xs ys i (k + 1) (i + k) (paccV p xs ys i (i + k)) = r2
    rw [(rowV_here p xs ys i k _).2] at hr
    rw [(rowV_here p xs ys i k _).1, hr, hx, hy, h2]
  · rw [if_neg e]
    exact rowV_same e
/-- The sum of two lists of values. -/
noncomputable def paddV (p : Nat) (xs ys : List Nat) : List Nat := (List.range (max xs.length ys.length)).map fun i => addm p (xs.getD i 0) (ys.getD i 0)
theorem paddV_len (p : Nat) (xs ys : List Nat) : (paddV p xs ys).length = max xs.length ys.length := by simp [paddV]
theorem paddV_lt {p : Nat} (xs ys : List Nat) (hp : 0 < p) : ∀ y ∈ paddV p xs ys, y < p := by
  intro y hy
  obtain ⟨t, _, rfl⟩ := List.mem_map.1 hy
  exact addm_lt _ _ hp
theorem getD_lt {p : Nat} {xs : List Nat} (hp : 0 < p) (h : ∀ x ∈ xs, x < p) (i : Nat) : xs.getD i 0 < p := by
  rw [List.getD]
  cases e : xs[i]? with
  | none => exact hp
  | some x => exact h x (List.mem_of_getElem? e)
theorem getD_none {xs : List Nat} {i : Nat} (h : xs.length ≤ i) : xs.getD i 0 = 0 := by rw [List.getD, List.getElem?_eq_none h]; rfl
theorem getD_some {xs : List Nat} {i x : Nat} (h : xs[i]? = some x) : xs.getD i 0 = x := by rw [List.getD, h]; rfl
theorem addm_zero {p x : Nat} (h : x < p) : addm p x 0 = x := by rw [addm_eq, Nat.add_zero, Nat.mod_eq_of_lt h]
theorem addm_comm (p x y : Nat) : addm p x y = addm p y x := by rw [addm_eq, addm_eq, Nat.add_comm]
theorem paddV_comm (p : Nat) (xs ys : List Nat) : paddV p xs ys = paddV p ys xs := by
  unfold paddV
  rw [Nat.max_comm]
  exact List.map_congr_left fun t _ => addm_comm _ _ _
theorem padd_forms (m : Nat) (xs ys : List Nat) : paddV m (xs.map (frm m)) (ys.map (frm m)) = (paddV m xs ys).map (frm m) := by
  unfold paddV
  rw [List.length_map, List.length_map, List.map_map]
  refine List.map_congr_left fun t _ => ?_
  show addm m _ _ = frm m (addm m _ _)
  rw [getD_frm, getD_frm, frm_addm]
end Go.Proofs.YtogenbggjodcnaaDoor
/-
  Numbers less than p as whole numbers modulo p: sums, products, values and quotients of lists. Plain.
-/
namespace Go.Proofs.YtogenbggjodcnaaDoor

/-- Congruence. -/
def Cg (p : Nat) (a b : Int) : Prop := ∃ k : Int, a = b + p * k
theorem Cg.refl (p : Nat) (a : Int) : Cg p a a := ⟨0, by omega⟩
theorem Cg.of {p : Nat} {a b : Int} (h : a = b) : Cg p a b := ⟨0, by omega⟩
theorem Cg.symm {p : Nat} {a b : Int} (h : Cg p a b) : Cg p b a := by obtain ⟨k, h⟩ := h; exact ⟨-k, by grind⟩
theorem Cg.trans {p : Nat} {a b c : Int} (h : Cg p a b) (g : Cg p b c) : Cg p a c := by
  obtain ⟨k, h⟩ := h; obtain ⟨l, g⟩ := g; exact ⟨k + l, by grind⟩
theorem Cg.add {p : Nat} {a b c d : Int} (h : Cg p a b) (g : Cg p c d) : Cg p (a + c) (b + d) := by
  obtain ⟨k, h⟩ := h; obtain ⟨l, g⟩ := g; exact ⟨k + l, by grind⟩
theorem Cg.sub {p : Nat} {a b c d : Int} (h : Cg p a b) (g : Cg p c d) : Cg p (a - c) (b - d) := by
  obtain ⟨k, h⟩ := h; obtain ⟨l, g⟩ := g; exact ⟨k - l, by grind⟩
theorem Cg.neg {p : Nat} {a b : Int} (h : Cg p a b) : Cg p (-a) (-b) := by obtain ⟨k, h⟩ := h; exact ⟨-k, by grind⟩
theorem Cg.mul {p : Nat} {a b c d : Int} (h : Cg p a b) (g : Cg p c d) : Cg p (a * c) (b * d) := by
  obtain ⟨k, h⟩ := h; obtain ⟨l, g⟩ := g; exact ⟨b * l + k * d + p * k * l, by grind⟩
theorem Cg.pow {p : Nat} {a b : Int} (h : Cg p a b) : ∀ n : Nat, Cg p (a ^ n) (b ^ n)
  | 0 => by rw [Int.pow_zero, Int.pow_zero]; exact .refl _ _
  | n + 1 => by rw [Int.pow_succ, Int.pow_succ]; exact (Cg.pow h n).mul h
/-- The number less than p. -/
def cn (p : Nat) (z : Int) : Nat := (z % (p : Int)).toNat
theorem cn_cast {p : Nat} (hp : 0 < p) (z : Int) : (cn p z : Int) = z % (p : Int) := Int.toNat_of_nonneg (Int.emod_nonneg _ (by omega))
theorem cn_lt {p : Nat} (hp : 0 < p) (z : Int) : cn p z < p := by
  have := cn_cast hp z; have := Int.emod_lt_of_pos z (show (0 : Int) < p by omega); omega
theorem cn_cg {p : Nat} (hp : 0 < p) (z : Int) : Cg p (cn p z : Int) z := by
  rw [cn_cast hp]; exact ⟨-(z / p), by have := Int.emod_add_mul_ediv z p; grind⟩
theorem Cg.cn {p : Nat} {a b : Int} (h : Cg p a b) : cn p a = cn p b := by
  obtain ⟨k, rfl⟩ := h; unfold Proofs.YtogenbggjodcnaaDoor.cn; rw [Int.add_mul_emod_self_left]
theorem cn_nat {p a : Nat} (ha : a < p) : cn p (a : Int) = a := by
  unfold cn; rw [Int.emod_eq_of_lt (by omega) (by omega)]; simp
theorem Cg.eq {p a b : Nat} (h : Cg p (a : Int) (b : Int)) (ha : a < p) (hb : b < p) : a = b := by rw [← cn_nat ha, ← cn_nat hb]; exact h.cn
theorem cg_of_cn {p : Nat} (hp : 0 < p) {a b : Int} (h : cn p a = cn p b) : Cg p a b := by
  have h1 := cn_cg hp a; rw [h] at h1; exact h1.symm.trans (cn_cg hp b)
theorem addm_cn (p a b : Nat) : addm p a b = cn p ((a : Int) + (b : Int)) := by rw [addm_eq]; unfold cn; rw [← Int.natCast_add, ← Int.natCast_emod, Int.toNat_natCast]
theorem mulm_cn (p a b : Nat) : mulm p a b = cn p ((a : Int) * (b : Int)) := by rw [mulm_eq]; unfold cn; rw [← Int.natCast_mul, ← Int.natCast_emod, Int.toNat_natCast]
theorem subm_cn {p : Nat} (a : Nat) {b : Nat} (hb : b ≤ p) : subm p a b = cn p ((a : Int) - (b : Int)) := by
  rw [subm_eq]; unfold cn
  have e : (a : Int) - (b : Int) = ((a + p - b : Nat) : Int) + (p : Int) * (-1) := by omega
  rw [e, Int.add_mul_emod_self_left, ← Int.natCast_emod, Int.toNat_natCast]
theorem powm_cn (p a e : Nat) : powm p a e = cn p ((a : Int) ^ e) := by rw [powm_eq]; unfold cn; rw [← Int.natCast_pow, ← Int.natCast_emod, Int.toNat_natCast]
/-- Natural numbers as whole ones; whole ones as numbers less than p. -/
def zl (l : List Nat) : List Int := l.map fun n : Nat => (n : Int)
def cl (p : Nat) (l : List Int) : List Nat := l.map (cn p)
theorem zl_len (l : List Nat) : (zl l).length = l.length := List.length_map _
theorem cl_len (p : Nat) (l : List Int) : (cl p l).length = l.length := List.length_map _
theorem zl_get : ∀ (l : List Nat) (t : Nat), (zl l).getD t 0 = (l.getD t 0 : Int)
  | [], t => by simp [zl, List.getD]
  | x :: l, 0 => rfl
  | x :: l, t + 1 => zl_get l t
theorem cn_zero (p : Nat) : cn p 0 = 0 := by unfold cn; rw [Int.zero_emod]; rfl
theorem cl_get (p : Nat) : ∀ (l : List Int) (t : Nat), (cl p l).getD t 0 = cn p (l.getD t 0)
  | [], t => by simp [cl, List.getD, cn_zero]
  | x :: l, 0 => rfl
  | x :: l, t + 1 => cl_get p l t
theorem cl_lt {p : Nat} (hp : 0 < p) (l : List Int) : ∀ y ∈ cl p l, y < p := by
  intro y hy; obtain ⟨z, _, rfl⟩ := List.mem_map.1 hy; exact cn_lt hp z
theorem ext_nat {a b : List Nat} (hl : a.length = b.length) (h : ∀ t, t < a.length → a.getD t 0 = b.getD t 0) : a = b := by
  refine List.ext_getElem hl fun t h1 h2 => ?_
  have := h t h1
  simpa [List.getD, List.getElem?_eq_getElem h1, List.getElem?_eq_getElem h2] using this
theorem cl_zl {p : Nat} {l : List Nat} (h : ∀ x ∈ l, x < p) : cl p (zl l) = l := by
  unfold cl zl; rw [List.map_map]
  refine (List.map_congr_left fun x hx => cn_nat (h x hx)).trans (List.map_id _)
/-- Lists that are congruent place by place. -/
def LC (p : Nat) (a b : List Int) : Prop := a.length = b.length ∧ ∀ t, Cg p (a.getD t 0) (b.getD t 0)
theorem LC.refl (p : Nat) (a : List Int) : LC p a a := ⟨rfl, fun _ => .refl _ _⟩
theorem LC.symm {p : Nat} {a b : List Int} (h : LC p a b) : LC p b a := ⟨h.1.symm, fun t => (h.2 t).symm⟩
theorem LC.trans {p : Nat} {a b c : List Int} (h : LC p a b) (g : LC p b c) : LC p a c := ⟨h.1.trans g.1, fun t => (h.2 t).trans (g.2 t)⟩
theorem LC.cl {p : Nat} {a b : List Int} (h : LC p a b) : cl p a = cl p b :=
  ext_nat (by rw [cl_len, cl_len]; exact h.1) fun t _ => by rw [cl_get, cl_get]; exact (h.2 t).cn
theorem lc_cl {p : Nat} (hp : 0 < p) (a : List Int) : LC p (zl (Proofs.YtogenbggjodcnaaDoor.cl p a)) a :=
  ⟨by rw [zl_len, cl_len], fun t => by rw [zl_get, cl_get]; exact cn_cg hp _⟩
theorem LC.pa {p : Nat} {a b c d : List Int} (h : LC p a b) (g : LC p c d) : LC p (pa a c) (pa b d) :=
  ⟨by rw [pa_len, pa_len, h.1, g.1], fun t => by rw [pa_get, pa_get]; exact (h.2 t).add (g.2 t)⟩
theorem pc_cg {p : Nat} {b d : List Int} (g : ∀ t, Cg p (b.getD t 0) (d.getD t 0)) : ∀ (a c : List Int), a.length = c.length → (∀ t, Cg p (a.getD t 0) (c.getD t 0)) → ∀ t, Cg p (pc a b t) (pc c d t)
  | [], [], _, _, t => by cases t <;> exact .refl _ _
  | x :: a, y :: c, hl, h, 0 => (h 0).mul (g 0)
  | x :: a, y :: c, hl, h, t + 1 => ((h 0).mul (g (t + 1))).add (pc_cg g a c (by simpa using hl) (fun t => h (t + 1)) t)
theorem LC.nil {p : Nat} {a b : List Int} (h : LC p a b) : a = [] ↔ b = [] := by
  rw [← List.length_eq_zero_iff, ← List.length_eq_zero_iff, h.1]
theorem pm_length : ∀ (a b c : List Int), b.length = c.length → (pm a b).length = (pm a c).length
  | [], _, _, _ => rfl
  | x :: a, b, c, h => by simp only [pm, pa_len, List.length_map, List.length_cons, h, pm_length a b c h]
theorem pm_length' : ∀ (a c b : List Int), a.length = c.length → (pm a b).length = (pm c b).length
  | [], [], _, _ => rfl
  | x :: a, y :: c, b, h => by simp only [pm, pa_len, List.length_map, List.length_cons, pm_length' a c b (by simpa using h)]
theorem LC.pm {p : Nat} {a b c d : List Int} (h : LC p a c) (g : LC p b d) : LC p (pm a b) (pm c d) :=
  ⟨(pm_length a b d g.1).trans (pm_length' a c d h.1), fun t => by rw [pm_get, pm_get]; exact pc_cg g.2 a c h.1 h.2 t⟩
theorem pe_cg {p : Nat} {x y : Int} (hx : Cg p x y) : ∀ (a c : List Int), a.length = c.length → (∀ t, Cg p (a.getD t 0) (c.getD t 0)) → Cg p (pe x a) (pe y c)
  | [], [], _, _ => .refl _ _
  | u :: a, v :: c, hl, h => (h 0).add (hx.mul (pe_cg hx a c (by simpa using hl) (fun t => h (t + 1))))
theorem LC.pe {p : Nat} {x y : Int} {a c : List Int} (h : LC p a c) (hx : Cg p x y) : Cg p (pe x a) (pe y c) := pe_cg hx a c h.1 h.2
theorem LC.drop {p : Nat} {a c : List Int} (h : LC p a c) (n : Nat) : LC p (a.drop n) (c.drop n) :=
  ⟨by rw [List.length_drop, List.length_drop, h.1], fun t => by
    have := h.2 (n + t)
    simpa [List.getD, List.getElem?_drop] using this⟩
theorem LC.pq {p : Nat} {x y : Int} {a c : List Int} (h : LC p a c) (hx : Cg p x y) : LC p (pq x a) (pq y c) :=
  ⟨by rw [pq_len, pq_len, h.1], fun t => by rw [pq_get, pq_get]; exact (h.drop _).pe hx⟩
theorem LC.cons {p : Nat} {x y : Int} {a c : List Int} (hx : Cg p x y) (h : LC p a c) : LC p (x :: a) (y :: c) :=
  ⟨by rw [List.length_cons, List.length_cons, h.1], fun t => by cases t with | zero => exact hx | succ t => exact h.2 t⟩
/-- Values. -/
theorem polyN_pe (x : Nat) : ∀ l : List Nat, (polyN x l : Int) = pe (x : Int) (zl l)
  | [] => rfl
  | c :: r => by
    show ((c + x * polyN x r : Nat) : Int) = (c : Int) + (x : Int) * pe x (zl r)
    rw [← polyN_pe x r]; simp
theorem evm_cn (p x : Nat) (l : List Nat) : evm p x l = cn p (pe (x : Int) (zl l)) := by
  rw [evm_eq, ← polyN_pe]; unfold cn; rw [← Int.natCast_emod, Int.toNat_natCast]
/-- Sums. -/
theorem paddV_cl (p : Nat) (a b : List Nat) : paddV p a b = cl p (pa (zl a) (zl b)) := by
  refine ext_nat (by rw [paddV_len, cl_len, pa_len, zl_len, zl_len]) fun t ht => ?_
  rw [paddV_len] at ht
  rw [cl_get, pa_get, zl_get, zl_get, ← addm_cn]
  unfold paddV
  simp [List.getD, List.getElem?_map, List.getElem?_range ht]
/-- Products. -/
theorem pc_snoc (b : List Int) (x : Int) : ∀ (a : List Int) (t : Nat), pc (a ++ [x]) b t = pc a b t + (if a.length ≤ t then x * b.getD (t - a.length) 0 else 0)
  | [], 0 => by simp [pc]
  | [], t + 1 => by simp [pc]
  | y :: a, 0 => by simp [pc]
  | y :: a, t + 1 => by
    simp only [List.cons_append, pc, pc_snoc b x a t, List.length_cons]
    by_cases h : a.length ≤ t
    · rw [if_pos h, if_pos (by omega), show t + 1 - (a.length + 1) = t - a.length by omega]; omega
    · rw [if_neg h, if_neg (by omega)]; omega
theorem paccV_cn {p : Nat} (hp : 0 < p) (a b : List Nat) (t : Nat) : ∀ i, i ≤ a.length → paccV p a b i t = cn p (pc (zl (a.take i)) (zl b) t)
  | 0, _ => by rw [List.take_zero]; show 0 = cn p (pc [] _ t); cases t <;> exact (cn_zero p).symm
  | i + 1, h => by
    have ih := paccV_cn hp a b t i (by omega)
    have hi : i < a.length := by omega
    have e : a.take (i + 1) = a.take i ++ [a.getD i 0] := by
      rw [List.take_succ_eq_append_getElem hi]; simp [List.getD, List.getElem?_eq_getElem hi]
    have e2 : zl (a.take (i + 1)) = zl (a.take i) ++ [(a.getD i 0 : Int)] := by rw [e]; simp [zl]
    have hl : (zl (a.take i)).length = i := by rw [zl_len, List.length_take]; omega
    rw [e2, pc_snoc, hl]
    show rowV p a b i b.length t (paccV p a b i t) = _
    rw [ih]
    unfold rowV
    by_cases h1 : i ≤ t
    · rw [if_pos h1]
      by_cases h2 : t - i < b.length
      · rw [if_pos ⟨h1, h2⟩, addm_cn, mulm_cn, zl_get]
        exact ((cn_cg hp _).add (cn_cg hp _)).cn
      · rw [if_neg (fun h => h2 h.2), zl_get, show b.getD (t - i) 0 = 0 from getD_none (by omega)]
        exact congrArg _ (by simp)
    · rw [if_neg h1, if_neg (fun h => h1 h.1), Int.add_zero]
theorem pmulV_cl {p : Nat} (hp : 0 < p) {a b : List Nat} (ha : a ≠ []) (hb : b ≠ []) : pmulV p a b = cl p (pm (zl a) (zl b)) := by
  have ha' : zl a ≠ [] := fun h => ha (List.map_eq_nil_iff.1 h)
  have hb' : zl b ≠ [] := fun h => hb (List.map_eq_nil_iff.1 h)
  rw [pmulV_eq ha hb]
  refine ext_nat (by rw [cl_len, pm_len _ _ ha' hb', zl_len, zl_len]; simp) fun t ht => ?_
  have ht' : t < a.length + b.length - 1 := by simpa using ht
  rw [cl_get, pm_get]
  have := paccV_cn hp a b t a.length (Nat.le_refl _)
  rw [List.take_length] at this
  rw [← this]
  simp [List.getD, List.getElem?_map, List.getElem?_range ht']
theorem pmulV_nil {p : Nat} {a b : List Nat} (h : a = [] ∨ b = []) : pmulV p a b = [] := by unfold pmulV; rw [if_pos h]
theorem pmulV_small {p n k : Nat} {a b : List Nat} (ha : a.length ≤ n) (hb : b.length ≤ k) : (pmulV p a b).length ≤ n + k := by
  unfold pmulV; split
  · exact Nat.zero_le _
  · simp; omega
/-- The value of a sum and of a product. -/
theorem evm_padd {p : Nat} (hp : 0 < p) (x : Nat) (a b : List Nat) : evm p x (paddV p a b) = addm p (evm p x a) (evm p x b) := by
  rw [paddV_cl, evm_cn, evm_cn, evm_cn, addm_cn]
  refine (((lc_cl hp _).pe (.refl _ _)).trans ?_).cn
  rw [pe_pa]
  exact ((cn_cg hp _).add (cn_cg hp _)).symm
theorem evm_pmul {p : Nat} (hp : 0 < p) (x : Nat) (a b : List Nat) : evm p x (pmulV p a b) = mulm p (evm p x a) (evm p x b) := by
  by_cases ha : a = []
  · subst ha; rw [pmulV_nil (.inl rfl), evm_nil, mulm_eq, Nat.zero_mul, Nat.zero_mod]
  by_cases hb : b = []
  · subst hb; rw [pmulV_nil (.inr rfl), evm_nil, mulm_eq, Nat.mul_zero, Nat.zero_mod]
  rw [pmulV_cl hp ha hb, evm_cn, evm_cn, evm_cn, mulm_cn]
  refine (((lc_cl hp _).pe (.refl _ _)).trans ?_).cn
  rw [pe_pm]
  exact ((cn_cg hp _).mul (cn_cg hp _)).symm
/-- Quotients. -/
theorem horV_rev (p x : Nat) (l : List (Nat × Nat)) : horV p x l.reverse = evm p x (l.map (·.2)) := by
  unfold horV
  rw [List.foldl_reverse]
  induction l with
  | nil => exact (evm_nil p x).symm
  | cons e l ih => rw [List.foldr_cons, ih]; exact evm_cons p x e.2 _
theorem ups_snd (xs : List Nat) : (ups xs).map (·.2) = xs := by
  refine List.ext_getElem? fun k => ?_
  simp only [ups, List.map_map, List.getElem?_map, List.getElem?_zipIdx]
  cases xs[k]? <;> rfl
theorem horV_downs (p x : Nat) (xs : List Nat) {j : Nat} (hj : j < xs.length) : horV p x ((downs xs).take (xs.length - 1 - j)) = evm p x (xs.drop (j + 1)) := by
  unfold downs
  rw [List.take_reverse, horV_rev, List.map_drop, ups_snd, ups_len]
  congr 2; omega
theorem quoV_cl {p : Nat} (x : Nat) (xs : List Nat) : quoV p x xs = cl p (pq (x : Int) (zl xs)) := by
  refine ext_nat (by rw [cl_len, pq_len, zl_len]; simp [quoV]) fun t ht => ?_
  have ht' : t < xs.length - 1 := by simpa [quoV] using ht
  rw [cl_get, pq_get]
  have e : (zl xs).drop (t + 1) = zl (xs.drop (t + 1)) := by simp [zl, List.map_drop]
  rw [e, ← evm_cn, ← horV_downs p x xs (by omega)]
  simp [quoV, List.getD, List.getElem?_map, List.getElem?_range ht']
theorem quoV_len (p x : Nat) (xs : List Nat) : (quoV p x xs).length = xs.length - 1 := by simp [quoV]
/-- DIVISION, on values. -/
theorem back_vals {p x : Nat} {vs : List Nat} (hp : 1 < p) (hx : x < p) (hv : ∀ y ∈ vs, y < p) (hne : vs ≠ []) : paddV p (pmulV p (quoV p x vs) [subm p 0 x, 1]) [evm p x vs] = vs := by
  have hp0 : 0 < p := by omega
  have hn : 0 < vs.length := List.length_pos_iff.2 hne
  have key : LC p (pa (zl (pmulV p (quoV p x vs) [subm p 0 x, 1])) (zl [evm p x vs])) (zl vs) := by
    by_cases hq : quoV p x vs = []
    · have h1 : vs.length = 1 := by have := quoV_len p x vs; rw [hq, List.length_nil] at this; omega
      obtain ⟨c, rfl⟩ : ∃ c, vs = [c] := by
        match vs, h1 with
        | [c], _ => exact ⟨c, rfl⟩
      rw [hq, pmulV_nil (.inl rfl), evm_cn]
      show LC p (pa [] [(cn p (pe (x : Int) [(c : Int)]) : Int)]) [(c : Int)]
      rw [nil_pa]
      refine LC.cons ((cn_cg hp0 _).trans (.of ?_)) (.refl _ _)
      simp [pe]
    · have h2 : LC p (zl [subm p 0 x, 1]) [-(x : Int), 1] := by
        refine LC.cons ?_ (.refl _ _)
        rw [subm_cn _ (by omega)]
        exact (cn_cg hp0 _).trans (.of (by simp))
      have h3 : LC p (zl [evm p x vs]) [pe (x : Int) (zl vs)] := by
        refine LC.cons ?_ (.refl _ _)
        rw [evm_cn]; exact cn_cg hp0 _
      rw [pmulV_cl hp0 hq (by simp), quoV_cl]
      refine (LC.pa ((lc_cl hp0 _).trans (LC.pm (lc_cl hp0 _) h2)) h3).trans ?_
      refine ⟨?_, fun t => .of (pq_back _ _ t)⟩
      have hl := quoV_len p x vs
      have hq' : 0 < (quoV p x vs).length := List.length_pos_iff.2 hq
      have hq2 : pq (x : Int) (zl vs) ≠ [] := fun h => by have := pq_len (x : Int) (zl vs); rw [h, zl_len, List.length_nil] at this; omega
      rw [pa_len, pm_len _ _ hq2 (by simp), pq_len, zl_len]
      simp only [List.length_cons, List.length_nil]; omega
  rw [paddV_cl, key.cl, cl_zl hv]
theorem back_nil {p x : Nat} : paddV p (pmulV p (quoV p x []) [subm p 0 x, 1]) [evm p x []] = [0] := by
  have : quoV p x [] = [] := by simp [quoV]
  rw [this, pmulV_nil (.inl rfl), evm_nil, paddV_cl]
  show cl p [0] = [0]
  show [cn p 0] = [0]
  rw [cn_zero]
end Go.Proofs.YtogenbggjodcnaaDoor
