/-
  Ranges over elements with their indices, upward and downward, and visit over them; no tape.
-/
import Derived.Test.YtfaicnileghjiaaDoorEach
import Derived.Test.YtfaicnileghjiaaDoorNums
import Derived.Lib.SliceRun
import Derived.Shelf.Abstract
import Derived.Shelf.RegionOpen
import Derived.OwnWalkIn
import Derived.TacticsInMore
import Derived.LoopNIn
import Derived.LoopIn
namespace Go.Proofs.YtfaicnileghjiaaDoor
open Go.RowKit Go.Shelf

attribute [local go_sem] Oper.semAt_some

abbrev ptr' (b : Nat) : Value := .pointer (some ⟨b, 0, none⟩)
/-- An index and an element. -/
noncomputable def pairV (e : Nat × Nat) : Array Value := #[.int .i64 (e.1 : Int), vec e.2]
/-- The elements with their indices, the last one first; the first one first. -/
def ups (xs : List Nat) : List (Nat × Nat) := xs.zipIdx.map fun p => (p.2, p.1)
def downs (xs : List Nat) : List (Nat × Nat) := (ups xs).reverse
theorem ups_len (xs : List Nat) : (ups xs).length = xs.length := by simp [ups]
theorem downs_len (xs : List Nat) : (downs xs).length = xs.length := by simp [downs, ups_len]
theorem ups_get {xs : List Nat} {i x : Nat} (h : xs[i]? = some x) : (ups xs)[i]? = some (i, x) := by
  simp [ups, List.getElem?_zipIdx, h]
theorem downs_get {xs : List Nat} {i x : Nat} (h : xs[i]? = some x) : (downs xs)[xs.length - 1 - i]? = some (i, x) := by
  have hi : i < xs.length := (List.getElem?_eq_some_iff.1 h).1
  unfold downs
  rw [List.getElem?_reverse (by rw [ups_len]; omega), ups_len, show xs.length - 1 - (xs.length - 1 - i) = i by omega]
  exact ups_get h
/-- What the iterators read: the box of the slice; the elements. -/
def BackS (bs : Nat) (v : Value) (xs : List Nat) (W : World) : Prop := Blk W bs 31 [v] ∧ NumSl W v xs
theorem BackS.grow {bs B : Nat} {v : Value} {xs : List Nat} {W W' : World} (h : BackS bs v xs W) (g : Grow B W W') : BackS bs v xs W' := ⟨h.1.grow g, h.2.grow g⟩
/-- Note of a nil tape does nothing. -/
theorem note_nil (k a b : Int) (w : World) : Calls Tryd.prog 49 #[.pointer none, .int .i64 k, .int .i64 a, .int .i64 b] w fun e w' => e = .returned (.tuple #[]) ∧ w = w' := by
  go_enter Tryd.func49, Tryd.ntmps49
  go_wp2
  go_end0
  exact ⟨rfl, rfl⟩
theorem back_any (a : Option Addr) (n cap : Nat) (w : World) : Calls Tryd.prog 40 #[.slice a n cap] w fun e w' => e = .returned (.func (.func 57) #[] #[ptr' w.heap.size]) ∧ w.alloc (.cells #[.slice a n cap] 31) = w' := by
  go_enter Tryd.func40, Tryd.ntmps40
  go_wp2
  go_ret
  exact ⟨rfl, rfl⟩
set_option maxRecDepth 100000 in
set_option maxHeartbeats 1000000 in
theorem back_seq (bs : Nat) (v : Value) (xs : List Nat) (W : World) (hS : BackS bs v xs W) (hl : xs.length < 1000000) :
    SeqIn Tryd.prog 57 #[ptr' bs] pairV (fun A B => BackS bs v xs A → BackS bs v xs B) (downs xs) W := by
  intro L J Jx hL hJ hJx hY h0
  have HS := hid hS
  have c0 := hS.1.cell (i := 0) rfl
  have hN := hS.2
  obtain ⟨a, cap, rfl, hc, _⟩ := hN
  obtain ⟨n, hn⟩ : ∃ n, xs.length = n := ⟨_, rfl⟩
  have HN := hid hn
  rw [hn] at c0 hl hc
  have HJ0 := hid h0
  have HJS := hid hJ
  clear h0 hS hn hJx hJ hL
  refine (callsIn_wide (n := 5)).1 ?_
  refine callsIn_of_wp Tryd.func57 rfl trivial ?_ rfl
  simp only [Tryd.ntmps57, List.size_toArray, List.length_cons, List.length_nil, Nat.reduceAdd, Nat.reduceSub, Array.replicate_succ, Array.replicate_zero, List.push_toArray, List.append_toArray, List.nil_append, List.cons_append]
  have hmix : Tryd.prog.follows .mixedOrders = true := by kernel_rfl
  gi_wp2
  gi_loopw [3] (fun i wr => ∃ k : Nat, k ≤ n ∧ i = .int .i64 ((n : Int) - 1 - (k : Int)) ∧ BackS bs (.slice a xs.length cap) xs wr ∧ J ((downs xs).take k) wr) (fun i _ => (intOf i + 1).toNat)
  case atStart => exact ⟨0, Nat.zero_le _, by simp, HS.out, HJ0.out⟩
  case round =>
    obtain ⟨k, hk, rfl, hS, hJs⟩ := hrel
    have HJs := hid hJs
    clear hJs c0
    by_cases hlt : k < n
    · obtain ⟨i, hi⟩ : ∃ i : Nat, (n : Int) - 1 - (k : Int) = (i : Int) := ⟨n - 1 - k, by omega⟩
      have hin : i < n := by omega
      have HI := hid hi
      rw [hi]
      obtain ⟨x, hx⟩ : ∃ x, xs[i]? = some x := ⟨xs[i]'(by rw [HN.out]; exact hin), List.getElem?_eq_getElem _⟩
      have hg : (downs xs)[k]? = some (i, x) := by have := downs_get hx; rw [HN.out] at this; rwa [show n - 1 - i = k by omega] at this
      have hsnoc : (downs xs).take k ++ [(i, x)] = (downs xs).take (k + 1) := (take_next hg).symm
      have hN := hS.2
      obtain ⟨a', cap', e, hc', hr⟩ := hN
      cases e
      obtain ⟨g, off, hga, he⟩ := hr.resolve_left (fun e => by rw [e] at hx; cases hx)
      subst hga
      obtain ⟨_, y0, y1, y2, y3⟩ := he i x hx
      have cb := hS.1.cell (i := 0) rfl
      rw [HN.out] at cb
      have hg9 : g < wr.heap.size := World.block_lt_of_cell? wr _ y0
      obtain ⟨fn, tmps, assign, body, hy, hR⟩ := hY _ (i, x) wr HJs.out (by rw [hsnoc]; exact List.take_prefix _ _) 4
      have HP := hid (fun W' (h : BackS bs (.slice (some ⟨g, off, none⟩) xs.length cap) xs wr → BackS bs (.slice (some ⟨g, off, none⟩) xs.length cap) xs W') => h hS)
      have HSN := hid hsnoc
      have HPX := hid (show (downs xs).take (k + 1) <+: downs xs from List.take_prefix _ _)
      clear hx hg hS he hsnoc hY hr
      simp only [pairV] at hy
      gi_wp2
      refine hR.mono ?_
      rintro e W3 (⟨rfl, hJ3, hk3, _⟩ | ⟨rfl, hJ3, _⟩)
      · have HJ3 := hid hJ3
        have HK3 := hid (HP.out _ hk3)
        clear hJ3 hk3 hy hR cb y0 y1 y2 y3 HP
        gi_wp2
        go_roundw
        case rel => exact ⟨k + 1, by omega, by rw [← HI.out]; go_num, HK3.out, by rw [← HSN.out]; exact HJ3.out⟩
        case measure => simp [intOf] <;> omega
      · have HJ3 := hid hJ3
        clear hJ3 hy hR cb y0 y1 y2 y3 HP
        gi_wp2
        refine bodyPost_ret (by simp only [results, Tryd.results57]; go_simp; try rfl) rfl ?_
        exact ⟨⟨_, rfl⟩, .inr ⟨_, by rw [HSN.out]; exact HPX.out, HJ3.out⟩⟩
    · obtain rfl : k = n := by omega
      have he : (downs xs).take k = downs xs := List.take_of_length_le (by rw [downs_len, HN.out]; exact Nat.le_refl _)
      have HE := hid he
      clear he hY
      gi_wp2
      go_end0
      exact ⟨⟨_, rfl⟩, .inl (by rw [← HE.out]; exact HJs.out)⟩
theorem all_any (a : Option Addr) (n cap : Nat) (w : World) : Calls Tryd.prog 47 #[.slice a n cap] w fun e w' => e = .returned (.func (.func 62) #[] #[ptr' w.heap.size]) ∧ w.alloc (.cells #[.slice a n cap] 31) = w' := by
  go_enter Tryd.func47, Tryd.ntmps47
  go_wp2
  go_ret
  exact ⟨rfl, rfl⟩
set_option maxRecDepth 100000 in
set_option maxHeartbeats 1000000 in
theorem all_seq (bs : Nat) (v : Value) (xs : List Nat) (W : World) (hS : BackS bs v xs W) (hl : xs.length < 1000000) :
    SeqIn Tryd.prog 62 #[ptr' bs] pairV (fun A B => BackS bs v xs A → BackS bs v xs B) (ups xs) W := by
  intro L J Jx hL hJ hJx hY h0
  have HS := hid hS
  have c0 := hS.1.cell (i := 0) rfl
  have hN := hS.2
  obtain ⟨a, cap, rfl, hc, _⟩ := hN
  obtain ⟨n, hn⟩ : ∃ n, xs.length = n := ⟨_, rfl⟩
  have HN := hid hn
  rw [hn] at c0 hl hc
  have HJ0 := hid h0
  have HJS := hid hJ
  clear h0 hS hn hJx hJ hL
  refine (callsIn_wide (n := 5)).1 ?_
  refine callsIn_of_wp Tryd.func62 rfl trivial ?_ rfl
  simp only [Tryd.ntmps62, List.size_toArray, List.length_cons, List.length_nil, Nat.reduceAdd, Nat.reduceSub, Array.replicate_succ, Array.replicate_zero, List.push_toArray, List.append_toArray, List.nil_append, List.cons_append]
  have hmix : Tryd.prog.follows .mixedOrders = true := by kernel_rfl
  gi_wp2
  gi_loopw [7] (fun i wr => ∃ k : Nat, k ≤ n ∧ i = .int .i64 (k : Int) ∧ BackS bs (.slice a xs.length cap) xs wr ∧ J ((ups xs).take k) wr) (fun i _ => n - (intOf i).toNat)
  case atStart => exact ⟨0, Nat.zero_le _, rfl, HS.out, HJ0.out⟩
  case round =>
    obtain ⟨k, hk, rfl, hS, hJs⟩ := hrel
    have HJs := hid hJs
    clear hJs c0
    by_cases hlt : k < n
    · obtain ⟨i, hi⟩ : ∃ i : Nat, k = i := ⟨k, rfl⟩
      have hin : i < n := by omega
      subst hi
      obtain ⟨x, hx⟩ : ∃ x, xs[k]? = some x := ⟨xs[k]'(by rw [HN.out]; exact hin), List.getElem?_eq_getElem _⟩
      have hg : (ups xs)[k]? = some (k, x) := ups_get hx
      have hsnoc : (ups xs).take k ++ [(k, x)] = (ups xs).take (k + 1) := (take_next hg).symm
      have hN := hS.2
      obtain ⟨a', cap', e, hc', hr⟩ := hN
      cases e
      obtain ⟨g, off, hga, he⟩ := hr.resolve_left (fun e => by rw [e] at hx; cases hx)
      subst hga
      obtain ⟨_, y0, y1, y2, y3⟩ := he k x hx
      have cb := hS.1.cell (i := 0) rfl
      rw [HN.out] at cb
      have hg9 : g < wr.heap.size := World.block_lt_of_cell? wr _ y0
      have G1 : Grow W.heap.size wr (wr.alloc (.cells #[.int .u64 (limb x 0 : Int), .int .u64 (limb x 1 : Int), .int .u64 (limb x 2 : Int), .int .u64 (limb x 3 : Int)] 26)) := (Grow.refl _ wr).alloc _
      obtain ⟨fn, tmps, assign, body, hy, hR⟩ := hY _ (k, x) _ (HJS.out _ _ _ HJs.out G1) (by rw [hsnoc]; exact List.take_prefix _ _) 4
      have HP := hid (fun W' (h : BackS bs (.slice (some ⟨g, off, none⟩) xs.length cap) xs (wr.alloc (.cells #[.int .u64 (limb x 0 : Int), .int .u64 (limb x 1 : Int), .int .u64 (limb x 2 : Int), .int .u64 (limb x 3 : Int)] 26)) → BackS bs (.slice (some ⟨g, off, none⟩) xs.length cap) xs W') => h (hS.grow G1))
      have HSN := hid hsnoc
      have HPX := hid (show (ups xs).take (k + 1) <+: ups xs from List.take_prefix _ _)
      clear hx hg hS he hsnoc hY hr
      simp only [pairV] at hy
      gi_wp2
      refine hR.mono ?_
      rintro e W3 (⟨rfl, hJ3, hk3, _⟩ | ⟨rfl, hJ3, _⟩)
      · have HJ3 := hid hJ3
        have HK3 := hid (HP.out _ hk3)
        clear hJ3 hk3 hy hR cb y0 y1 y2 y3 HP
        gi_wp2
        go_roundw
        case rel => exact ⟨k + 1, by omega, by go_num, HK3.out, by rw [← HSN.out]; exact HJ3.out⟩
        case measure => simp [intOf] <;> omega
      · have HJ3 := hid hJ3
        clear hJ3 hy hR cb y0 y1 y2 y3 HP
        gi_wp2
        refine bodyPost_ret (by simp only [results, Tryd.results62]; go_simp; try rfl) rfl ?_
        exact ⟨⟨_, rfl⟩, .inr ⟨_, by rw [HSN.out]; exact HPX.out, HJ3.out⟩⟩
    · obtain rfl : k = n := by omega
      have he : (ups xs).take k = ups xs := List.take_of_length_le (by rw [ups_len, HN.out]; exact Nat.le_refl _)
      have HE := hid he
      clear he hY
      gi_wp2
      go_end0
      exact ⟨⟨_, rfl⟩, .inl (by rw [← HE.out]; exact HJs.out)⟩
/-- What visit reads: its boxes. -/
def VisS (bl bt : Nat) (g : Nat) (lb : Array Value) (W : World) : Prop := Blk W bl 66 [.func (.func g) #[] lb] ∧ Blk W bt 49 [.pointer none]
theorem VisS.grow {bl bt g B : Nat} {lb : Array Value} {W W' : World} (h : VisS bl bt g lb W) (k : Grow B W W') : VisS bl bt g lb W' := ⟨h.1.grow k, h.2.grow k⟩
theorem visit_any (t : Option Addr) (g : Nat) (lb : Array Value) (w : World) : Calls Tryd.prog 39 #[.pointer t, .func (.func g) #[] lb] w fun e w' => e = .returned (.func (.func 56) #[] #[ptr' (w.heap.size + 1), ptr' w.heap.size]) ∧ (w.alloc (.cells #[.pointer t] 49)).alloc (.cells #[.func (.func g) #[] lb] 66) = w' := by
  go_enter Tryd.func39, Tryd.ntmps39
  go_wp2
  go_ret
  exact ⟨rfl, rfl⟩
set_option maxRecDepth 100000 in
set_option maxHeartbeats 2000000 in
theorem visit_seq (bl bt g : Nat) (lb : Array Value) (Q : World → Prop) (xs : List (Nat × Nat)) (W : World) (N : Nat) (hN : N ≤ W.heap.size) (eg : ∀ args w, (callFunc g args).run Tryd.prog w = .ok (.enter g args) w) (hV : VisS bl bt g lb W) (hQ : Q W)
    (hQg : ∀ B A A', Q A → Grow B A A' → Q A') (hseq : ∀ W', Q W' → SeqIn Tryd.prog g lb pairV (fun A B => Q A → Q B) xs W') :
    SeqIn Tryd.prog 56 #[ptr' bl, ptr' bt] pairV (fun A B => (VisS bl bt g lb A ∧ Q A → VisS bl bt g lb B ∧ Q B) ∧ Keeps N A B) xs W := by
  intro L J Jx hL hJ hJx hY h0
  have c0 := hV.1.cell (i := 0) rfl
  have zl := hV.1.lt
  have HV := hid hV
  refine (callsIn_wide (n := 9)).1 ?_
  refine callsIn_of_wp_marks Tryd.func56 rfl trivial ?_ rfl
  simp only [Tryd.ntmps56, List.size_toArray, List.length_cons, List.length_nil, Nat.reduceAdd, Nat.reduceSub, Array.replicate_succ, Array.replicate_zero, List.push_toArray, List.append_toArray, List.nil_append, List.cons_append]
  gi_wp2
  have G0 : Grow W.heap.size W (W.alloc (.cells #[.func (.yield L) #[] #[]] 86)) := (Grow.refl _ W).alloc _
  have hb0 : Blk (W.alloc (.cells #[.func (.yield L) #[] #[]] 86)) W.heap.size 86 [.func (.yield L) #[] #[]] := Blk.new rfl
  have hz0 : (W.alloc (.cells #[.func (.yield L) #[] #[]] 86)).heap.size = W.heap.size + 1 := by simp
  generalize W.alloc (.cells #[.func (.yield L) #[] #[]] 86) = W0 at *
  refine wpIn_every (gf := g) (lb := lb) rfl eg (fun W' hg => hseq W' (hQg _ _ _ (hQg _ _ _ hQ G0) hg)) (fun h k x => k (h x)) (fun A B hg q => hQg _ _ _ q hg) (fun _ => rfl)
    (fun pre W' => J pre W' ∧ (VisS bl bt g lb W' ∧ Q W') ∧ Blk W' W.heap.size 86 [.func (.yield L) #[] #[]])
    (fun c pre W' => c = .ret ∧ Jx pre W')
    (fun pre A B h k => ⟨hJ pre A B h.1 (k.mono (by omega)), ⟨h.2.1.1.grow k, hQg _ _ _ h.2.1.2 k⟩, h.2.2.grow k⟩)
    (fun c pre A B h k => ⟨h.1, hJx pre A B h.2 (k.mono (by omega))⟩)
    ⟨hJ [] W W0 h0 G0, ⟨hV.grow G0, hQg _ _ _ hQ G0⟩, hb0⟩ ?round ?done ?stop
  case round =>
    rintro m l pre ⟨i, x⟩ W' ⟨hj, ⟨hv, hq⟩, hb⟩ hpre hl
    have HJ := hid hj
    have HVV := hid hv
    have HQ := hid hq
    have HB := hid hb
    have HPRE := hid hpre
    have HL := hid hl
    have HYY := hid hY
    have HJJ := hid hJ
    clear hj hv hq hb hpre hY hJ hJx hseq hQ c0 hV hb0
    simp only [pairV]
    gi_wp2
    refine ⟨((Only.refl (fun _ => True) W').alloc _).low _ _, fun W2 hg => ?_⟩
    have G2 : Grow W0.heap.size W' W2 := ((Grow.refl _ W').alloc _).trans hg
    have hbx : Blk W2 W'.heap.size 26 (limbs x) := (Blk.new rfl).grow hg
    have k0 := (HVV.out.grow G2).2.cell (i := 0) rfl
    have k1 := (HB.out.grow G2).cell (i := 0) rfl
    have x0 := hbx.cell (i := 0) rfl
    have x1 := hbx.cell (i := 1) rfl
    have x2 := hbx.cell (i := 2) rfl
    have x3 := hbx.cell (i := 3) rfl
    have QV := hid (show VisS bl bt g lb W2 ∧ Q W2 from ⟨HVV.out.grow G2, hQg _ _ _ HQ.out G2⟩)
    have HB2 := hid (HB.out.grow G2)
    have J2 := hid (HJJ.out pre _ _ HJ.out (G2.mono (by omega)))
    obtain ⟨fn, tmps, assign, body, hy, hR⟩ := HYY.out pre (i, x) W2 J2.out HPRE.out (m - 1)
    simp only [pairV] at hy
    clear hg G2 hbx
    gi_wp2_with (refine ⟨trivial, (fun h => by cases h), ?_⟩; refine (CallsIn.inRound l (callsIn_wide.2 (note_nil _ _ _ _))).mono ?_; rintro e w5 ⟨rfl, rfl⟩)
    refine ⟨fun h => (by cases h), RoundIn.mono (F := Fence.wide.inRound l) hR ?_⟩
    rintro e W3 (⟨rfl, hJ3, hk3, ha3⟩ | ⟨rfl, hJ3, ha3⟩)
    · have HJ3 := hid hJ3
      have HK3 := hid (hk3.1 QV.out)
      have HB3 := hid (HB2.out.keeps hk3.2 hN)
      have HA3 := hid ha3
      clear hJ3 hk3 ha3 hy hR
      gi_wp2
      exact ⟨HA3.out.low (by omega) (by omega), fun _ => HK3.out.2, HJ3.out, HK3.out, HB3.out⟩
    · have HJ3 := hid hJ3
      have HA3 := hid ha3
      clear hJ3 ha3 hy hR
      gi_wp2
      exact ⟨HA3.out.low (by omega) (by omega), rfl, HJ3.out⟩
  case done =>
    rintro D W' hD ⟨hj, _, _⟩ hK
    have HJ := hid hj
    have HJJ := hid hJ
    clear hj hJ hJx hY hseq
    gi_wp2
    refine ⟨by simp, .inl ⟨_, _, rfl, run_takeDeferred hK, ?_⟩⟩
    have hg := (Grow.refl W0.heap.size W').putObj (.deferred none) hD hK rfl
    exact ⟨_, results_none rfl _ _ _, ⟨_, rfl⟩, .inl (HJJ.out _ _ _ HJ.out (hg.mono (by omega)))⟩
  case stop =>
    rintro D c pre W' hD hpre ⟨rfl, hx⟩ hK
    have HX := hid hx
    have HJX := hid hJx
    have HPRE := hid hpre
    clear hx hJ hJx hY hseq hpre
    gi_wp2
    refine ⟨by simp, .inl ⟨_, _, rfl, run_takeDeferred hK, ?_⟩⟩
    have hg := (Grow.refl W0.heap.size W').putObj (.deferred none) hD hK rfl
    exact ⟨_, results_none rfl _ _ _, ⟨_, rfl⟩, .inr ⟨_, HPRE.out, HJX.out _ _ _ HX.out (hg.mono (by omega))⟩⟩
end Go.Proofs.YtfaicnileghjiaaDoor
