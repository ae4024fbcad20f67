/-
  First, Equal.
-/
import Derived.Test.YtbkpiegkiokdlaaTapePlay
import Derived.Test.YtbkpiegkiokdlaaTapeRef
import Derived.Test.YtbkpiegkiokdlaaCel
import Derived.Deep.DeepCutAuto
import Derived.BigQuiet
import Derived.Test.YtbkpiegkiokdlaaRoundQ
import Derived.Outline
import Derived.IntWalk
namespace Go.Proofs.Ytbkpiegkiokdlaa
open Go.RowKit Go.Shelf

attribute [local go_sem] Oper.semAt_some

/-- A tape or nil. -/
abbrev tp (a : Option Nat) : Value := .pointer (a.map fun p => ⟨p, 0, none⟩)
def TA (w : World) (a : Option Nat) (fs : List Nat) (l : List Ev) : Prop := match a with
  | none => l = []
  | some p => Tape w p fs l
theorem TA.grow {w w' : World} {B : Nat} {a : Option Nat} {fs : List Nat} {l : List Ev} (h : TA w a fs l) (g : Grow B w w') : TA w' a fs l := by
  cases a with
  | none => exact h
  | some p => exact Tape.grow h g
theorem TA.only {w w' : World} {F : Nat → Prop} {a : Option Nat} {fs : List Nat} {l : List Ev} (h : TA w a fs l) (g : Only F w w') (hF : ∀ k ∈ fs, ¬ F k) : TA w' a fs l := by
  cases a with
  | none => exact h
  | some p => exact Tape.only h g hF
theorem len_ta (a : Option Nat) (fs : List Nat) (l : List Ev) (w : World) (h : TA w a fs l) : Calls Try.prog 22 #[tp a] w fun e w' => e = .returned (.int .i64 (l.length : Int)) ∧ w = w' := by
  cases a with
  | none => obtain rfl : l = [] := h; exact len_nil w
  | some p => exact len_at p fs l w h
theorem len_tb (a : Option Nat) (fs : List Nat) (l : List Ev) (w W : World) (h : TA w a fs l) (hb : Below w.heap.size w W) : Calls Try.prog 22 #[tp a] W fun e w' => e = .returned (.int .i64 (l.length : Int)) ∧ W = w' :=
  len_ta a fs l W (h.grow (Below.grow hb 0))
/-- The iterator of a tape or of nil. -/
def PA (bt : Nat) (a : Option Nat) (l : List Ev) (W : World) : Prop := ∀ p, a = some p → PreS bt p l W
theorem PA.of {bt : Nat} {a : Option Nat} {fs : List Nat} {l : List Ev} {W : World} (hb : Blk W bt 25 [tp a]) (h : TA W a fs l) : PA bt a l W := fun p e => by
  subst e; exact ⟨hb, fs, l, h, List.prefix_refl _⟩
theorem from1_ta (a : Option Nat) (bf bt : Nat) (fs : List Nat) (l : List Ev) (W : World) (hbf : Blk W bf 3 [.int .i64 0]) (hbt : Blk W bt 25 [tp a]) (hT : TA W a fs l) (hl : l.length < 1000000000) :
    SeqAt Try.prog 30 #[ptr bf, ptr bt] (fun e : Ev => #[e.val]) (fun A B => PA bt a l A → PA bt a l B) l W := by
  cases a with
  | none =>
    obtain rfl : l = [] := hT
    exact from1_nil bf bt 0 W _ hbf hbt
  | some p => exact (from1_all p bf bt fs l W hbf hbt hT hl).kp (fun A B h hA => h (fun q e => by cases e; exact hA) p rfl)
theorem prefix_get {pre l : List Ev} {x : Ev} (h : pre ++ [x] <+: l) : l[pre.length]? = some x ∧ pre.length < l.length ∧ pre = l.take pre.length := by
  obtain ⟨s, rfl⟩ := h
  refine ⟨by simp, by simp, by simp⟩
theorem TA.get {w : World} {a : Option Nat} {fs : List Nat} {l : List Ev} (h : TA w a fs l) {i : Nat} {e : Ev} (hi : l[i]? = some e) : ∃ p, a = some p ∧ Tape w p fs l := by
  cases a with
  | none => obtain rfl : l = [] := h; cases hi
  | some p => exact ⟨p, rfl, h⟩
set_option maxRecDepth 100000 in
set_option maxHeartbeats 4000000 in
theorem first_ta (a b : Option Nat) (fa fb : List Nat) (la lb : List Ev) (w : World) (hA : TA w a fa la) (hB : TA w b fb lb) (hl : la.length < 1000000000) (_hl2 : lb.length < 1000000000) (za : ∀ k ∈ fa, k < w.heap.size) (zb : ∀ k ∈ fb, k < w.heap.size) :
    Calls Try.prog 18 #[tp a, tp b] w (Ret (.int .i64 (fst la lb)) w) := by
  refine (callsIn_wide (n := 9)).1 ?_
  refine callsIn_of_wp_marks Try.func18 rfl trivial ?_ rfl
  simp only [Try.ntmps18, List.size_toArray, List.length_cons, List.length_nil, Nat.reduceAdd, Nat.reduceSub, Array.replicate_succ, Array.replicate_zero, List.push_toArray, List.append_toArray, List.nil_append, List.cons_append]
  refine wpIn_wide.2 ?_
  have HA := hid hA
  have HB := hid hB
  clear hA hB
  obtain ⟨m, hm⟩ : ∃ m, min la.length lb.length = m := ⟨_, rfl⟩
  have hmn : (if lb.length < la.length then (lb.length : Int) else (la.length : Int)) = (m : Int) := by subst hm; split <;> omega
  have HM := hid hm
  clear hm
  go_upto_region 1 with fail
  go_cut [5, 6] from 8 to 12 (fun s5 s6 wx => ∃ X Y : Nat, s5 = ptr X ∧ s6 = ptr Y ∧ Below w.heap.size w wx ∧ w.heap.size + 2 ≤ X ∧ w.heap.size + 2 ≤ Y ∧ X ≠ Y ∧ wx.cell? ⟨X, 0, none⟩ = some (.int .i64 0) ∧ wx.frozen? ⟨X, 0, none⟩ = false ∧ wx.cell? ⟨Y, 0, none⟩ = some (.int .i64 (m : Int)) ∧ wx.frozen? ⟨Y, 0, none⟩ = false ∧
    wx.cell? ⟨w.heap.size, 0, none⟩ = some (tp b) ∧ wx.frozen? ⟨w.heap.size, 0, none⟩ = false ∧ wx.cell? ⟨w.heap.size + 1, 0, none⟩ = some (.int .i64 0) ∧ wx.frozen? ⟨w.heap.size + 1, 0, none⟩ = false)
  case first =>
    go_region_held3 (fun w' => w'.cell? ⟨w.heap.size, 0, none⟩ = some (tp b)) ((first | (go_simp; done) | go_keep)) (first | (go_at_call 22; have HA1 := HA; clear HA; refine (len_tb a fa la w _ HA1.out (by go_grown)).mono ?_; clear HA1; rintro e w' ⟨rfl, rfl⟩) | (go_at_call 22; refine (len_tb b fb lb w _ HB.out (by go_grown)).mono ?_; rintro e w' ⟨rfl, rfl⟩))
    all_goals (go_wp2_with fail; go_meet)
    all_goals (refine ⟨_, _, rfl, rfl, ?_, ?_, ?_, ?_, ?_, ?_, ?_, ?_, ?_, ?_, ?_, ?_⟩)
    all_goals (first | omega | (go_simp; done) | (go_grown; done))
  case rest =>
    obtain ⟨X, Y, rfl, rfl, hB, zX, zY, nXY, cX, fX, cY, fY, cb, fb, cr, fr⟩ := hcut
    have KX : Cel wc X (.int .i64 0) := ⟨cX, fX⟩
    have KY : Cel wc Y (.int .i64 (m : Int)) := ⟨cY, fY⟩
    have Kb : Cel wc w.heap.size (tp b) := ⟨cb, fb⟩
    have Kr : Cel wc (w.heap.size + 1) (.int .i64 0) := ⟨cr, fr⟩
    clear cX fX cY fY cb fb cr fr
    go_wp2_with (go_at_call 27; refine (from_any _ _ _).mono ?_; rintro e w' ⟨rfl, rfl⟩)
    have b2 : Blk ((wc.alloc (.cells #[tp a] 25)).alloc (.cells #[.int .i64 0] 3)) wc.heap.size 25 [tp a] := Blk.alloc (Blk.new rfl) _
    have b3 : Blk ((wc.alloc (.cells #[tp a] 25)).alloc (.cells #[.int .i64 0] 3)) (wc.heap.size + 1) 3 [.int .i64 0] := Blk.new (by simp)
    have hG : Grow 0 wc ((wc.alloc (.cells #[tp a] 25)).alloc (.cells #[.int .i64 0] 3)) := ((Grow.refl _ wc).alloc _).alloc _
    have hBn : Below w.heap.size w ((wc.alloc (.cells #[tp a] 25)).alloc (.cells #[.int .i64 0] 3)) := (hB.alloc hB.size _).alloc (by have := hB.size; simp; omega) _
    have zw : w.heap.size + 2 ≤ wc.heap.size := Nat.le_trans zX (Nat.le_of_lt KX.lt)
    have zXl := KX.lt
    have zYl := KY.lt
    generalize (wc.alloc (.cells #[tp a] 25)).alloc (.cells #[.int .i64 0] 3) = w4 at *
    have zw4 := hG.size
    have z4 := hBn.size
    replace KX := KX.grow hG
    replace KY := KY.grow hG
    replace Kb := Kb.grow hG
    replace Kr := Kr.grow hG
    have TA4 := HA.out.grow (Below.grow hBn 0)
    have TB4 := HB.out.grow (Below.grow hBn 0)
    refine (wpIn_wide (n := 9)).1 ?_
    refine wpIn_each (gf := 30) (lb := #[ptr (wc.heap.size + 1), ptr wc.heap.size]) rfl (enters_of Try.func30 (by kernel_rfl) rfl)
      (fun W hg => from1_ta a _ _ fa la W (b3.grow hg) (b2.grow hg) (TA4.grow hg) hl) (fun h k x => k (h x)) (fun A B hg hs => fun p e => (hs p e).grow hg) (fun _ => rfl)
      (fun pre W => (Cel W X (.int .i64 (pre.length : Int)) ∧ Cel W Y (.int .i64 (m : Int)) ∧ Cel W w.heap.size (tp b) ∧ Cel W (w.heap.size + 1) (.int .i64 0) ∧ Blk W wc.heap.size 25 [tp a] ∧ TA W a fa la ∧ TA W b fb lb ∧ Below w.heap.size w W) ∧ la.take pre.length = lb.take pre.length ∧ pre.length ≤ m)
      (fun c pre W => c = .ret ∧ Cel W (w.heap.size + 1) (.int .i64 (fst la lb)) ∧ Below w.heap.size w W)
      (fun pre A B h g => by
        obtain ⟨⟨h0, h1, h2, h3, h4, h5, h6, h7⟩, h8⟩ := h
        exact ⟨⟨h0.grow g, h1.grow g, h2.grow g, h3.grow g, h4.grow g, h5.grow g, h6.grow g, Below.behind h7 (Nat.le_refl _) g z4⟩, h8⟩)
      (fun c pre A B h g => ⟨h.1, h.2.1.grow g, Below.behind h.2.2 (Nat.le_refl _) g z4⟩) ⟨⟨KX, KY, Kb, Kr, b2, TA4, TB4, hBn⟩, rfl, Nat.zero_le _⟩ ?round ?done ?stop
    case round =>
      rintro mm L pre x W ⟨⟨h0, h1, h2, h3, h4, h5, h6, h7⟩, htk, hk⟩ hpre hL
      obtain ⟨hx, hkl, hpt⟩ := prefix_get hpre
      obtain ⟨k, hkk⟩ : ∃ k, pre.length = k := ⟨_, rfl⟩
      have HLen := hid (show (pre ++ [x]).length = k + 1 by simp [hkk])
      rw [hkk] at h0 htk hk hx hkl
      have HTK := hid htk
      have HX := hid hx
      have zW := h7.size
      have zXW := h0.lt
      have zYW := h1.lt
      clear KX KY Kb Kr b2 b3 TA4 TB4 hBn hG htk hx hpt hpre hkk
      gi_wp2
      refine ⟨(Only.refl _ W).alloc _, fun W2 hg => ?_⟩
      have g2 : Grow w4.heap.size W W2 := ((Grow.refl _ W).alloc _).trans hg
      have d0 := h0.grow g2
      have d1 := h1.grow g2
      have d2 := h2.grow g2
      have d3 := h3.grow g2
      have d4 := h4.grow g2
      have D5 := hid (h5.grow g2)
      have D6 := hid (h6.grow g2)
      have D7 := hid (Below.behind h7 (Nat.le_refl _) g2 z4)
      have d8 : Blk W2 W.heap.size 41 x.cells := (Blk.new rfl).grow hg
      have D4 := hid d4
      clear h0 h1 h2 h3 h4 h5 h6 h7 hg g2
      have cX := d0.1
      have fX := d0.2
      have cY := d1.1
      have cB := d2.1
      have cR := d3.1
      have fR := d3.2
      have e0 := d8.cell (i := 0) rfl
      have e1 := d8.cell (i := 1) rfl
      have e2 := d8.cell (i := 2) rfl
      by_cases hkm : k = m
      · have T1 : ((k : Int) == (m : Int)) = true := by simp [hkm]
        have HKM := hid hkm
        clear hkm
        gi_wp2
        refine wpIn_round_quiet (by kernel_rfl) (by kernel_rfl) (by kernel_rfl) ?_
        repeat (any_goals (go_big_quiet_step (fail)))
        all_goals (refine wpQuiet_nil ?_; rintro _ ⟨nq, rfl⟩)
        all_goals gi_wp2
        have hf : fst la lb = (k : Int) := by
          have h1 := HKM.out
          have h2 := HM.out
          exact fst_end HTK.out (by omega) (by omega) (.inr (by omega)) (by omega)
        exact ⟨((Only.refl _ W2).drewN nq).setCell (.inl trivial) _, rfl, by rw [hf]; exact (Cel.drewN (show Cel W2 _ _ from ⟨cR, fR⟩) nq).set _, (Below.drewN' D7.out nq).setCell (by dsimp only; omega) _⟩
      · have T1 : ((k : Int) == (m : Int)) = false := by simp; omega
        have hkb : k < lb.length := by have := HM.out; omega
        obtain ⟨y, hy⟩ : ∃ y, lb[k]? = some y := ⟨lb[k], List.getElem?_eq_getElem _⟩
        obtain ⟨pb, rfl, hTb⟩ := D6.out.get hy
        obtain ⟨g, n', cap, bb, r0, hn, r1, r2, r3, r4⟩ := hTb.get hy
        replace cB : W2.cell? ⟨w.heap.size, 0, none⟩ = some (ptr pb) := cB
        have t2 : (k : Int) % 64 = ((k % 64 : Nat) : Int) := by omega
        have t1 : Int.tmod (k : Int) 64 = ((k % 64 : Nat) : Int) := by rw [Int.tmod_eq_emod_of_nonneg (by omega)]; omega
        have t3 : (k : Int) / 64 = ((k / 64 : Nat) : Int) := by omega
        have t4 : Int.tdiv (k : Int) 64 = ((k / 64 : Nat) : Int) := by rw [Int.tdiv_eq_ediv_of_nonneg (by omega)]; omega
        have t5 : IntKind.i64.wrap ((k / 64 : Nat) : Int) = ((k / 64 : Nat) : Int) := IntWalk.i64_in _ (by omega)
        have t6 : IntKind.i64.wrap ((k % 64 : Nat) : Int) = ((k % 64 : Nat) : Int) := IntWalk.i64_in _ (by omega)
        have b3 : (((k % 64 : Nat) : Int)) < 64 := by omega
        have b4 : (0 : Int) ≤ ((k % 64 : Nat) : Int) := by omega
        have b5 : (0 : Int) ≤ ((k / 64 : Nat) : Int) := by omega
        have b6 : ((k / 64 : Nat) : Int) < (n' : Int) := by omega
        have HY := hid hy
        generalize k / 64 = q at *
        generalize k % 64 = r at *
        have HKM := hid hkm
        clear hy hTb hkm
        by_cases hxy : y = x
        · have he : ∀ W : World, (Op.equalIn 10000 41 (.agg #[.int .i64 y.k, .int .i64 y.a, .int .i64 y.b]) (.agg #[.int .i64 x.k, .int .i64 x.a, .int .i64 x.b])).run Try.prog W = .ok true W := fun W => by rw [show true = decide (y = x) by simp [hxy]]; exact run_eq_ev y x W
          have HXY := hid hxy
          clear hxy
          gi_wp2
          refine wpIn_round_quiet (by kernel_rfl) (by kernel_rfl) (by kernel_rfl) ?_
          repeat (any_goals (go_big_quiet_step (fail)))
          all_goals (refine wpQuiet_nil ?_; rintro _ ⟨nq, rfl⟩)
          all_goals gi_wp2
          have O : Only (fun i => i = X) W2 ((W2.drewN nq).setCell ⟨X, 0, none⟩ (.int .i64 ((k : Int) + 1))) := ((Only.refl (fun i => i = X) W2).drewN nq).setCell (.inl rfl) _
          have KX : Cel ((W2.drewN nq).setCell ⟨X, 0, none⟩ (.int .i64 ((k : Int) + 1))) X (.int .i64 ((k : Int) + 1)) := (Cel.drewN (show Cel W2 _ _ from ⟨cX, fX⟩) nq).set _
          have TAn := D5.out.only O (fun i hi e => by have := za i hi; omega)
          have B4n := D4.out.only O (by omega)
          exact ⟨O.mono (fun _ _ => trivial), fun _ => PA.of B4n TAn, ⟨by rw [HLen.out]; exact KX, d1.only O (Ne.symm nXY), d2.only O (by omega), d3.only O (by omega), B4n, TAn, D6.out.only O (fun i hi e => by have := zb i hi; omega), (Below.drewN' D7.out nq).setCell (by dsimp only; omega) _⟩,
            by rw [HLen.out, List.take_add_one, List.take_add_one, HTK.out, HX.out, HY.out, HXY.out], by rw [HLen.out]; have := HKM.out; omega⟩
        · have he : ∀ W : World, (Op.equalIn 10000 41 (.agg #[.int .i64 y.k, .int .i64 y.a, .int .i64 y.b]) (.agg #[.int .i64 x.k, .int .i64 x.a, .int .i64 x.b])).run Try.prog W = .ok false W := fun W => by rw [show false = decide (y = x) by simp [hxy]]; exact run_eq_ev y x W
          have HXY := hid hxy
          clear hxy
          gi_wp2
          refine wpIn_round_quiet (by kernel_rfl) (by kernel_rfl) (by kernel_rfl) ?_
          repeat (any_goals (go_big_quiet_step (fail)))
          all_goals (refine wpQuiet_nil ?_; rintro _ ⟨nq, rfl⟩)
          all_goals gi_wp2
          have hf : fst la lb = (k : Int) := fst_diff HTK.out (by omega) (by omega) (by rw [HX.out, HY.out]; exact fun e => HXY.out (Option.some.inj e).symm)
          exact ⟨((Only.refl _ W2).drewN nq).setCell (.inl trivial) _, rfl, by rw [hf]; exact (Cel.drewN (show Cel W2 _ _ from ⟨cR, fR⟩) nq).set _, (Below.drewN' D7.out nq).setCell (by dsimp only; omega) _⟩
    case done =>
      rintro D W hD ⟨⟨h0, h1, h2, h3, h4, h5, h6, h7⟩, htk, hk⟩ hK
      have HTK := hid htk
      have H7 := hid h7
      have QA := hid (show ∀ n, Calls Try.prog 22 #[tp a] (W.drewN n) fun e w' => e = .returned (.int .i64 (la.length : Int)) ∧ w' = W.drewN n from fun n => (len_tb a fa la w _ HA.out (Below.drewN' h7 n)).mono fun _ _ h => ⟨h.1, h.2.symm⟩)
      have QB := hid (show ∀ n, Calls Try.prog 22 #[tp b] (W.drewN n) fun e w' => e = .returned (.int .i64 (lb.length : Int)) ∧ w' = W.drewN n from fun n => (len_tb b fb lb w _ HB.out (Below.drewN' h7 n)).mono fun _ _ h => ⟨h.1, h.2.symm⟩)
      have cX := h0.1
      have cB := h2.1
      have cR := h3.1
      have fR := h3.2
      have zW := h7.size
      clear KX KY Kb Kr b2 b3 TA4 TB4 hBn hG htk h0 h1 h2 h4 h5 h6 h7
      by_cases hlen : la.length = lb.length
      · have T1 : ((la.length : Int) == (lb.length : Int)) = true := by simp [hlen]
        have hf : fst la lb = -1 := fst_eq HTK.out rfl hlen
        have HF := hid hf
        clear hlen hf
        go_wp2
        go_quiet ((go_at_call 22; first | (with_reducible exact Calls.quiet_of_same (QA.out _)) | exact Calls.quiet_of_same (QB.out _)))
        go_wp2
        have O : Only (fun _ => True) W ((W.drewN nq).setCell ⟨w.heap.size + 1, 0, none⟩ (.int .i64 (-1))) := ((Only.refl _ W).drewN nq).setCell (.inl trivial) _
        have hK' := O.block D _ hK (.inr rfl)
        refine ⟨by simp, .inl ⟨_, _, rfl, run_takeDeferred hK', ?_⟩⟩
        have hg := (Grow.refl w4.heap.size ((W.drewN nq).setCell ⟨w.heap.size + 1, 0, none⟩ (.int .i64 (-1)))).putObj (.deferred none) hD hK' rfl
        have hc5 := ((Cel.set (Cel.drewN (show Cel W _ _ from ⟨cR, fR⟩) nq) (.int .i64 (-1))).grow hg).1
        refine ⟨.int .i64 (-1), ?_, by rw [HF.out], Below.behind ((Below.drewN' H7.out nq).setCell (by dsimp only; omega) _) (Nat.le_refl _) hg z4⟩
        simp [results, Try.results18, go_sem, hc5]
      · have T1 : ((la.length : Int) == (lb.length : Int)) = false := by simp; omega
        have hf : fst la lb = (la.length : Int) := fst_end HTK.out (Nat.le_refl _) (by have := HM.out; omega) (.inl rfl) hlen
        have HF := hid hf
        clear hlen hf
        go_wp2
        go_quiet ((go_at_call 22; first | (with_reducible exact Calls.quiet_of_same (QA.out _)) | exact Calls.quiet_of_same (QB.out _)))
        go_wp2
        have O : Only (fun _ => True) W ((W.drewN nq).setCell ⟨w.heap.size + 1, 0, none⟩ (.int .i64 (la.length : Int))) := ((Only.refl _ W).drewN nq).setCell (.inl trivial) _
        have hK' := O.block D _ hK (.inr rfl)
        refine ⟨by simp, .inl ⟨_, _, rfl, run_takeDeferred hK', ?_⟩⟩
        have hg := (Grow.refl w4.heap.size ((W.drewN nq).setCell ⟨w.heap.size + 1, 0, none⟩ (.int .i64 (la.length : Int)))).putObj (.deferred none) hD hK' rfl
        have hc5 := ((Cel.set (Cel.drewN (show Cel W _ _ from ⟨cR, fR⟩) nq) (.int .i64 (la.length : Int))).grow hg).1
        refine ⟨.int .i64 (la.length : Int), ?_, by rw [HF.out], Below.behind ((Below.drewN' H7.out nq).setCell (by dsimp only; omega) _) (Nat.le_refl _) hg z4⟩
        simp [results, Try.results18, go_sem, hc5]
    case stop =>
      rintro D c pre W hD hpre ⟨rfl, h1, h2⟩ hK
      gi_wp2
      refine ⟨by simp, .inl ⟨_, _, rfl, run_takeDeferred hK, ?_⟩⟩
      have hg := (Grow.refl w4.heap.size W).putObj (.deferred none) hD hK rfl
      have hc5 := (h1.grow hg).1
      refine ⟨.int .i64 (fst la lb), ?_, rfl, Below.behind h2 (Nat.le_refl _) hg z4⟩
      simp [results, Try.results18, go_sem, hc5]
theorem equal_ta (a b : Option Nat) (fa fb : List Nat) (la lb : List Ev) (w : World) (hA : TA w a fa la) (hB : TA w b fb lb) (hl : la.length < 1000000000) (hl2 : lb.length < 1000000000) (za : ∀ k ∈ fa, k < w.heap.size) (zb : ∀ k ∈ fb, k < w.heap.size) :
    Calls Try.prog 19 #[tp a, tp b] w (Ret (.bool (decide (la = lb))) w) := by
  have H := hid (first_ta a b fa fb la lb w hA hB hl hl2 za zb)
  have HF := hid (fst_lt la lb)
  clear hA hB za zb
  go_enter Try.func19, Try.ntmps19
  go_wp2_with (go_at_call 18; refine H.out.mono ?_; rintro e w1 ⟨rfl, hb⟩; have HB1 := hid hb; clear hb)
  go_ret
  exact ⟨by rw [← HF.out]; rfl, HB1.out⟩
end Go.Proofs.Ytbkpiegkiokdlaa
