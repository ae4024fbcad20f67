/-
  The check of what Explain takes, and the reference's.
-/
import Derived.Test.YtogenbggjodcnaaDoorParB
import Derived.Test.YtogenbggjodcnaaDoorLagA
import Derived.Test.YtogenbggjodcnaaDoorSetB
import Derived.Test.YtogenbggjodcnaaDoorByteB
import Derived.Deep.RegionHeld3
import Derived.Deep.DeepCutAuto
namespace Go.Proofs.YtogenbggjodcnaaDoor
open Go.RowKit

attribute [local go_sem] Oper.semAt_some
/-- The lengths that are wrong. -/
def badV (t n : Int) (rs : List (Value × List Nat)) (sl : Nat) : Prop := (sl : Int) ≠ n ∨ rs.length ≠ cntC n ∨ ∃ r ∈ rs, (r.2.length : Int) ≠ t
open Classical in
/-- What check returns. -/
noncomputable def vchk (f t s n : Int) (xs : List Int) (rs : List (Value × List Nat)) (sl : Nat) : Int :=
  if chkP f t s n ≠ 0 then chkP f t s n else if chkx xs ≠ 0 then chkx xs else if t ≤ (xs.length : Int) then 4 else if badV t n rs sl then 8 else 0
theorem vchk_p {f t s n : Int} {xs : List Int} {rs : List (Value × List Nat)} {sl : Nat} (h : chkP f t s n ≠ 0) : vchk f t s n xs rs sl = chkP f t s n := by unfold vchk; rw [if_pos h]
theorem vchk_x {f t s n : Int} {xs : List Int} {rs : List (Value × List Nat)} {sl : Nat} (h : chkP f t s n = 0) (h2 : chkx xs ≠ 0) : vchk f t s n xs rs sl = chkx xs := by unfold vchk; rw [if_neg (by simp [h]), if_pos h2]
theorem vchk_t {f t s n : Int} {xs : List Int} {rs : List (Value × List Nat)} {sl : Nat} (h : chkP f t s n = 0) (h2 : chkx xs = 0) (h3 : t ≤ (xs.length : Int)) : vchk f t s n xs rs sl = 4 := by unfold vchk; rw [if_neg (by simp [h]), if_neg (by simp [h2]), if_pos h3]
theorem vchk_b {f t s n : Int} {xs : List Int} {rs : List (Value × List Nat)} {sl : Nat} (h : chkP f t s n = 0) (h2 : chkx xs = 0) (h3 : ¬ t ≤ (xs.length : Int)) (h4 : badV t n rs sl) : vchk f t s n xs rs sl = 8 := by unfold vchk; rw [if_neg (by simp [h]), if_neg (by simp [h2]), if_neg h3, if_pos h4]
theorem vchk_ok {f t s n : Int} {xs : List Int} {rs : List (Value × List Nat)} {sl : Nat} (h : chkP f t s n = 0) (h2 : chkx xs = 0) (h3 : ¬ t ≤ (xs.length : Int)) (h4 : ¬ badV t n rs sl) : vchk f t s n xs rs sl = 0 := by unfold vchk; rw [if_neg (by simp [h]), if_neg (by simp [h2]), if_neg h3, if_neg h4]
theorem vchk_zero {f t s n : Int} {xs : List Int} {rs : List (Value × List Nat)} {sl : Nat} (h : vchk f t s n xs rs sl = 0) : chkP f t s n = 0 ∧ chkx xs = 0 ∧ (xs.length : Int) < t ∧ (sl : Int) = n ∧ rs.length = cntC n ∧ ∀ r ∈ rs, (r.2.length : Int) = t := by
  by_cases h1 : chkP f t s n = 0
  · by_cases h2 : chkx xs = 0
    · by_cases h3 : t ≤ (xs.length : Int)
      · rw [vchk_t h1 h2 h3] at h; exact absurd h (by decide)
      · by_cases h4 : badV t n rs sl
        · rw [vchk_b h1 h2 h3 h4] at h; exact absurd h (by decide)
        · unfold badV at h4
          refine ⟨h1, h2, by omega, Classical.byContradiction fun e => h4 (.inl e), Classical.byContradiction fun e => h4 (.inr (.inl e)), fun r hr => Classical.byContradiction fun e => h4 (.inr (.inr ⟨r, hr, e⟩))⟩
    · rw [vchk_x h1 h2] at h; exact absurd h h2
  · rw [vchk_p h1] at h; exact absurd h h1
set_option maxRecDepth 100000 in
set_option maxHeartbeats 8000000 in
theorem vcheck_any (f t s n : Int) (v u x : Value) (xs : List Int) (rs : List (Value × List Nat)) (ls : List Nat) (w : World) (hT : Tab w) (hS : IntSl w v xs) (hY : SlsSl w u rs) (hB : ByteSl w x ls) (hl : xs.length < 10000) (hr : rs.length < 10000) :
    Calls Tryd.prog 84 #[.agg #[.int .i64 f, .int .i64 t, .int .i64 s, .int .i64 n], v, u, x] w (Ret (.int .i64 (vchk f t s n xs rs ls.length)) w) := by
  have BW := hid (Below.refl w.heap.size w)
  have T := hid hT
  have HS := hid hS
  obtain ⟨sa, sc, rfl, _⟩ := hS
  have HY := hid hY
  obtain ⟨ya, yc, rfl, _, _⟩ := hY
  obtain ⟨ba, bc, rfl, _, _⟩ := hB
  obtain ⟨q, hq⟩ : ∃ n, xs.length = n := ⟨_, rfl⟩
  obtain ⟨l, hl9⟩ : ∃ n, rs.length = n := ⟨_, rfl⟩
  obtain ⟨d, hd9⟩ : ∃ n, ls.length = n := ⟨_, rfl⟩
  have HQ := hid hq
  have HL := hid hl9
  have CX := hid (fun (W : World) (h : IntSl W (.slice sa q sc) xs) => lcheck_any (.slice sa q sc) xs W h (by omega))
  have CP := hid (fun (W : World) (h : Tab W) => pcheck_any f t s n W h)
  have CC := hid (fun W : World => pcount_any n W)
  rw [hq] at HS
  rw [hl9] at HY hr
  rw [hd9, hl9, hq]
  obtain ⟨r9, hr9⟩ : ∃ z, vchk f t s n xs rs d = z := ⟨_, rfl⟩
  rw [hr9]
  have HR := hid hr9
  clear hT hr9
  by_cases h1 : chkP f t s n = 0
  · skip
    by_cases h2 : chkx xs = 0
    · skip
      rw [h1] at CP
      rw [h2] at CX
      have HC1 := hid h1
      have HC2 := hid h2
      obtain ⟨c, hc⟩ : ∃ c, cntC n = c := ⟨_, rfl⟩
      rw [hc] at CC
      have HCC := hid hc
      clear h1 h2 hc hq hl9
      obtain ⟨bad0, hb0⟩ : ∃ p : Prop, ((d : Int) ≠ n ∨ rs.length ≠ cntC n) = p := ⟨_, rfl⟩
      have HBD : Hid (bad0 ↔ ((d : Int) ≠ n ∨ rs.length ≠ cntC n)) := hid (by rw [hb0])
      clear hb0
      go_enter Tryd.func84, Tryd.ntmps84
      go_wp2_with fail
      obtain ⟨v1, hv9⟩ : ∃ v, (w.alloc (.cells #[.int .i64 f, .int .i64 t, .int .i64 s, .int .i64 n] 75)) = v := ⟨_, rfl⟩
      have hG9 : Below w.heap.size w v1 := by rw [← hv9]; go_grown
      have X_P : Blk v1 (w.heap.size) 75 [.int .i64 f, .int .i64 t, .int .i64 s, .int .i64 n] := by rw [← hv9]; exact Blk.new rfl
      obtain ⟨bP, hb9⟩ : ∃ k, w.heap.size = k := ⟨_, rfl⟩
      rw [hb9] at X_P
      have g_bP : w.heap.size ≤ bP := by rw [← hb9]; exact BW.out.size
      replace T := hid (T.out.keep hG9)
      replace BW := hid (BW.out.trans (hG9.mono BW.out.size))
      clear hG9
      rw [hv9]
      try rw [hb9]
      clear hv9 hb9
      refine (CP.out _ T.out).mono ?_
      rintro e v2 ⟨rfl, b9⟩
      replace X_P := X_P.keep b9
      replace T := hid (T.out.keep b9)
      replace BW := hid (BW.out.trans (b9.mono BW.out.size))
      clear b9
      go_wp2_with fail
      refine (CX.out _ (HS.out.below BW.out)).mono ?_
      rintro e v3 ⟨rfl, b9⟩
      replace X_P := X_P.keep b9
      replace T := hid (T.out.keep b9)
      replace BW := hid (BW.out.trans (b9.mono BW.out.size))
      clear b9
      by_cases e1 : (d : Int) = n
      · skip
        by_cases e2 : l = c
        · skip
          have HB0 : Hid (¬ bad0) := hid (fun h => by rcases HBD.out.1 h with h | h; exact h e1; exact h (by rw [HL.out, HCC.out]; exact e2))
          have e3 : ((d : Int) != n) = false := by simp [e1]
          have e4 : ((l : Int) != (c : Int)) = false := by simp [e2]
          clear e1 e2
          have z_P := X_P.lt
          have c_P0 := X_P.cell (i := 0) rfl
          have c_P1 := X_P.cell (i := 1) rfl
          have c_P2 := X_P.cell (i := 2) rfl
          have c_P3 := X_P.cell (i := 3) rfl
          go_wp2_with (go_at_call 118; refine (CC.out _).mono ?_; rintro e w' ⟨rfl, rfl⟩)
          clear z_P c_P0 c_P1 c_P2 c_P3
          clear e3 e4
          go_loopw [11, 39] (fun al ix wr => ∃ k : Nat, k ≤ l ∧ ix = .int .i64 (k : Int) ∧ Blk wr (bP) 75 [.int .i64 f, .int .i64 t, .int .i64 s, .int .i64 n] ∧ Below w.heap.size w wr ∧ ∃ A : Bool, .bool A = al ∧ (A = true ↔ bad0 ∨ ∃ j, j < k ∧ ∃ r, rs[j]? = some r ∧ (r.2.length : Int) ≠ t)) (fun _ ix _ => l - (intOf ix).toNat)
          case atStart => exact ⟨0, Nat.zero_le _, rfl, X_P, BW.out, false, rfl, ⟨fun h => (by cases h), fun h => by
                      rcases h with h | ⟨j, hj, _⟩
                      · exact absurd h HB0.out
                      · exact absurd hj (Nat.not_lt_zero _)⟩⟩
          case round =>
            clear X_P BW
            obtain ⟨k, hk_k, rfl, X_P, b9, hm_k⟩ := hrel
            obtain ⟨v4, hv9⟩ : ∃ v, v = wr := ⟨_, rfl⟩
            subst hv9
            have BW := hid b9
            clear b9
            have HM_k := hid hm_k
            clear hm_k
            by_cases hk : k < l
            · skip
              obtain ⟨⟨rv, rl⟩, hr9⟩ : ∃ x, rs[k]? = some x := ⟨rs[k]'(by rw [HL.out]; exact hk), List.getElem?_eq_getElem _⟩
              obtain ⟨g, off, rfl, hg, d0, hN⟩ := (HY.out.below BW.out).at hr9
              simp only at d0 hN
              obtain ⟨ra, rc, rfl, _, _⟩ := id hN
              have hk0 : (0 : Int) ≤ (k : Int) := by omega
              have hkl : (k : Int) < (l : Int) := by omega
              obtain ⟨m, hm⟩ : ∃ m, rl.length = m := ⟨_, rfl⟩
              rw [hm] at d0
              obtain ⟨A, hA, hAA⟩ := HM_k.out
              subst hA
              have HAA := hid hAA
              have HGET := hid hr9
              have HMM := hid hm
              clear HM_k hr9 hm hN hAA
              cases A
              · skip
                by_cases e : (m : Int) = t
                · skip
                  have e9 : ((m : Int) != t) = false := by simp [e]
                  have HE := hid e
                  clear e
                  have z_P := X_P.lt
                  have c_P0 := X_P.cell (i := 0) rfl
                  have c_P1 := X_P.cell (i := 1) rfl
                  have c_P2 := X_P.cell (i := 2) rfl
                  have c_P3 := X_P.cell (i := 3) rfl
                  go_wp2
                  clear z_P c_P0 c_P1 c_P2 c_P3
                  go_roundw
                  case rel => exact ⟨k + 1, by omega, by go_num, X_P, BW.out, false, rfl, by
                                  refine ⟨fun h => (by cases h), fun h => ?_⟩
                                  rcases h with h | ⟨j, hj, r, hr, hne⟩
                                  · exact HAA.out.2 (.inl h)
                                  · by_cases e : j = k
                                    · subst e; rw [HGET.out] at hr; cases hr; exact absurd (by rw [HMM.out]; exact HE.out) hne
                                    · exact HAA.out.2 (.inr ⟨j, by omega, r, hr, hne⟩)⟩
                  case measure => simp [intOf]; omega
                · skip
                  have e9 : ((m : Int) != t) = true := by simp [e]
                  have HE := hid e
                  clear e
                  have z_P := X_P.lt
                  have c_P0 := X_P.cell (i := 0) rfl
                  have c_P1 := X_P.cell (i := 1) rfl
                  have c_P2 := X_P.cell (i := 2) rfl
                  have c_P3 := X_P.cell (i := 3) rfl
                  go_wp2
                  clear z_P c_P0 c_P1 c_P2 c_P3
                  go_roundw
                  case rel => exact ⟨k + 1, by omega, by go_num, X_P, BW.out, true, rfl, ⟨fun _ => .inr ⟨k, by omega, _, HGET.out, by show (rl.length : Int) ≠ t; rw [HMM.out]; exact HE.out⟩, fun _ => rfl⟩⟩
                  case measure => simp [intOf]; omega
              · skip
                have z_P := X_P.lt
                have c_P0 := X_P.cell (i := 0) rfl
                have c_P1 := X_P.cell (i := 1) rfl
                have c_P2 := X_P.cell (i := 2) rfl
                have c_P3 := X_P.cell (i := 3) rfl
                go_wp2
                clear z_P c_P0 c_P1 c_P2 c_P3
                go_roundw
                case rel => exact ⟨k + 1, by omega, by go_num, X_P, BW.out, true, rfl, ⟨fun _ => by
                                rcases HAA.out.1 rfl with h | ⟨j, hj, h⟩
                                · exact .inl h
                                · exact .inr ⟨j, by omega, h⟩, fun _ => rfl⟩⟩
                case measure => simp [intOf]; omega
            · skip
              obtain rfl : l = k := by omega
              clear hk
              obtain ⟨A, hA, hAA⟩ := HM_k.out
              subst hA
              have HAA := hid hAA
              clear HM_k hAA
              have HBV : Hid (A = true ↔ badV t n rs d) := hid (by
                    rw [HAA.out, HBD.out]
                    unfold badV
                    constructor
                    · rintro ((h | h) | ⟨j, _, r, hr, hne⟩)
                      · exact .inl h
                      · exact .inr (.inl h)
                      · exact .inr (.inr ⟨r, List.mem_of_getElem? hr, hne⟩)
                    · rintro (h | h | ⟨r, hr, hne⟩)
                      · exact .inl (.inl h)
                      · exact .inl (.inr h)
                      · obtain ⟨j, hj⟩ := List.mem_iff_getElem?.1 hr
                        exact .inr ⟨j, by have := (List.getElem?_eq_some_iff.1 hj).1; rw [HL.out] at this; exact this, r, hj, hne⟩)
              by_cases h3 : t ≤ (q : Int)
              · skip
                have H3 := hid h3
                have z_P := X_P.lt
                have c_P0 := X_P.cell (i := 0) rfl
                have c_P1 := X_P.cell (i := 1) rfl
                have c_P2 := X_P.cell (i := 2) rfl
                have c_P3 := X_P.cell (i := 3) rfl
                go_wp2
                refine bodyPost_ret (by simp only [results, Tryd.results84]; go_simp; try rfl) rfl ?_
                exact ⟨by rw [← HR.out, vchk_t HC1.out HC2.out (by rw [HQ.out]; have := H3.out; omega)], BW.out⟩
              · skip
                have H3 := hid h3
                cases A
                · skip
                  have HB9 : Hid (¬ badV t n rs d) := hid (fun h => by have := HBV.out.2 h; cases this)
                  clear HBV
                  have z_P := X_P.lt
                  have c_P0 := X_P.cell (i := 0) rfl
                  have c_P1 := X_P.cell (i := 1) rfl
                  have c_P2 := X_P.cell (i := 2) rfl
                  have c_P3 := X_P.cell (i := 3) rfl
                  go_wp2
                  refine bodyPost_ret (by simp only [results, Tryd.results84]; go_simp; try rfl) rfl ?_
                  exact ⟨by rw [← HR.out, vchk_ok HC1.out HC2.out (by rw [HQ.out]; have := H3.out; omega) HB9.out], BW.out⟩
                · skip
                  have HB9 := hid (HBV.out.1 rfl)
                  clear HBV
                  have z_P := X_P.lt
                  have c_P0 := X_P.cell (i := 0) rfl
                  have c_P1 := X_P.cell (i := 1) rfl
                  have c_P2 := X_P.cell (i := 2) rfl
                  have c_P3 := X_P.cell (i := 3) rfl
                  go_wp2
                  refine bodyPost_ret (by simp only [results, Tryd.results84]; go_simp; try rfl) rfl ?_
                  exact ⟨by rw [← HR.out, vchk_b HC1.out HC2.out (by rw [HQ.out]; have := H3.out; omega) HB9.out], BW.out⟩
        · skip
          have HB0 : Hid bad0 := hid (HBD.out.2 (.inr (by rw [HL.out, HCC.out]; exact e2)))
          have e3 : ((d : Int) != n) = false := by simp [e1]
          have e4 : ((l : Int) != (c : Int)) = true := by simp; omega
          clear e1 e2
          have z_P := X_P.lt
          have c_P0 := X_P.cell (i := 0) rfl
          have c_P1 := X_P.cell (i := 1) rfl
          have c_P2 := X_P.cell (i := 2) rfl
          have c_P3 := X_P.cell (i := 3) rfl
          go_wp2_with (go_at_call 118; refine (CC.out _).mono ?_; rintro e w' ⟨rfl, rfl⟩)
          clear z_P c_P0 c_P1 c_P2 c_P3
          clear e3 e4
          go_loopw [11, 39] (fun al ix wr => ∃ k : Nat, k ≤ l ∧ ix = .int .i64 (k : Int) ∧ Blk wr (bP) 75 [.int .i64 f, .int .i64 t, .int .i64 s, .int .i64 n] ∧ Below w.heap.size w wr ∧ ∃ A : Bool, .bool A = al ∧ (A = true ↔ bad0 ∨ ∃ j, j < k ∧ ∃ r, rs[j]? = some r ∧ (r.2.length : Int) ≠ t)) (fun _ ix _ => l - (intOf ix).toNat)
          case atStart => exact ⟨0, Nat.zero_le _, rfl, X_P, BW.out, true, rfl, ⟨fun _ => .inl HB0.out, fun _ => rfl⟩⟩
          case round =>
            clear X_P BW
            obtain ⟨k, hk_k, rfl, X_P, b9, hm_k⟩ := hrel
            obtain ⟨v4, hv9⟩ : ∃ v, v = wr := ⟨_, rfl⟩
            subst hv9
            have BW := hid b9
            clear b9
            have HM_k := hid hm_k
            clear hm_k
            by_cases hk : k < l
            · skip
              obtain ⟨⟨rv, rl⟩, hr9⟩ : ∃ x, rs[k]? = some x := ⟨rs[k]'(by rw [HL.out]; exact hk), List.getElem?_eq_getElem _⟩
              obtain ⟨g, off, rfl, hg, d0, hN⟩ := (HY.out.below BW.out).at hr9
              simp only at d0 hN
              obtain ⟨ra, rc, rfl, _, _⟩ := id hN
              have hk0 : (0 : Int) ≤ (k : Int) := by omega
              have hkl : (k : Int) < (l : Int) := by omega
              obtain ⟨m, hm⟩ : ∃ m, rl.length = m := ⟨_, rfl⟩
              rw [hm] at d0
              obtain ⟨A, hA, hAA⟩ := HM_k.out
              subst hA
              have HAA := hid hAA
              have HGET := hid hr9
              have HMM := hid hm
              clear HM_k hr9 hm hN hAA
              cases A
              · skip
                by_cases e : (m : Int) = t
                · skip
                  have e9 : ((m : Int) != t) = false := by simp [e]
                  have HE := hid e
                  clear e
                  have z_P := X_P.lt
                  have c_P0 := X_P.cell (i := 0) rfl
                  have c_P1 := X_P.cell (i := 1) rfl
                  have c_P2 := X_P.cell (i := 2) rfl
                  have c_P3 := X_P.cell (i := 3) rfl
                  go_wp2
                  clear z_P c_P0 c_P1 c_P2 c_P3
                  go_roundw
                  case rel => exact ⟨k + 1, by omega, by go_num, X_P, BW.out, false, rfl, by
                                  refine ⟨fun h => (by cases h), fun h => ?_⟩
                                  rcases h with h | ⟨j, hj, r, hr, hne⟩
                                  · exact HAA.out.2 (.inl h)
                                  · by_cases e : j = k
                                    · subst e; rw [HGET.out] at hr; cases hr; exact absurd (by rw [HMM.out]; exact HE.out) hne
                                    · exact HAA.out.2 (.inr ⟨j, by omega, r, hr, hne⟩)⟩
                  case measure => simp [intOf]; omega
                · skip
                  have e9 : ((m : Int) != t) = true := by simp [e]
                  have HE := hid e
                  clear e
                  have z_P := X_P.lt
                  have c_P0 := X_P.cell (i := 0) rfl
                  have c_P1 := X_P.cell (i := 1) rfl
                  have c_P2 := X_P.cell (i := 2) rfl
                  have c_P3 := X_P.cell (i := 3) rfl
                  go_wp2
                  clear z_P c_P0 c_P1 c_P2 c_P3
                  go_roundw
                  case rel => exact ⟨k + 1, by omega, by go_num, X_P, BW.out, true, rfl, ⟨fun _ => .inr ⟨k, by omega, _, HGET.out, by show (rl.length : Int) ≠ t; rw [HMM.out]; exact HE.out⟩, fun _ => rfl⟩⟩
                  case measure => simp [intOf]; omega
              · skip
                have z_P := X_P.lt
                have c_P0 := X_P.cell (i := 0) rfl
                have c_P1 := X_P.cell (i := 1) rfl
                have c_P2 := X_P.cell (i := 2) rfl
                have c_P3 := X_P.cell (i := 3) rfl
                go_wp2
                clear z_P c_P0 c_P1 c_P2 c_P3
                go_roundw
                case rel => exact ⟨k + 1, by omega, by go_num, X_P, BW.out, true, rfl, ⟨fun _ => by
                                rcases HAA.out.1 rfl with h | ⟨j, hj, h⟩
                                · exact .inl h
                                · exact .inr ⟨j, by omega, h⟩, fun _ => rfl⟩⟩
                case measure => simp [intOf]; omega
            · skip
              obtain rfl : l = k := by omega
              clear hk
              obtain ⟨A, hA, hAA⟩ := HM_k.out
              subst hA
              have HAA := hid hAA
              clear HM_k hAA
              have HBV : Hid (A = true ↔ badV t n rs d) := hid (by
                    rw [HAA.out, HBD.out]
                    unfold badV
                    constructor
                    · rintro ((h | h) | ⟨j, _, r, hr, hne⟩)
                      · exact .inl h
                      · exact .inr (.inl h)
                      · exact .inr (.inr ⟨r, List.mem_of_getElem? hr, hne⟩)
                    · rintro (h | h | ⟨r, hr, hne⟩)
                      · exact .inl (.inl h)
                      · exact .inl (.inr h)
                      · obtain ⟨j, hj⟩ := List.mem_iff_getElem?.1 hr
                        exact .inr ⟨j, by have := (List.getElem?_eq_some_iff.1 hj).1; rw [HL.out] at this; exact this, r, hj, hne⟩)
              by_cases h3 : t ≤ (q : Int)
              · skip
                have H3 := hid h3
                have z_P := X_P.lt
                have c_P0 := X_P.cell (i := 0) rfl
                have c_P1 := X_P.cell (i := 1) rfl
                have c_P2 := X_P.cell (i := 2) rfl
                have c_P3 := X_P.cell (i := 3) rfl
                go_wp2
                refine bodyPost_ret (by simp only [results, Tryd.results84]; go_simp; try rfl) rfl ?_
                exact ⟨by rw [← HR.out, vchk_t HC1.out HC2.out (by rw [HQ.out]; have := H3.out; omega)], BW.out⟩
              · skip
                have H3 := hid h3
                cases A
                · skip
                  have HB9 : Hid (¬ badV t n rs d) := hid (fun h => by have := HBV.out.2 h; cases this)
                  clear HBV
                  have z_P := X_P.lt
                  have c_P0 := X_P.cell (i := 0) rfl
                  have c_P1 := X_P.cell (i := 1) rfl
                  have c_P2 := X_P.cell (i := 2) rfl
                  have c_P3 := X_P.cell (i := 3) rfl
                  go_wp2
                  refine bodyPost_ret (by simp only [results, Tryd.results84]; go_simp; try rfl) rfl ?_
                  exact ⟨by rw [← HR.out, vchk_ok HC1.out HC2.out (by rw [HQ.out]; have := H3.out; omega) HB9.out], BW.out⟩
                · skip
                  have HB9 := hid (HBV.out.1 rfl)
                  clear HBV
                  have z_P := X_P.lt
                  have c_P0 := X_P.cell (i := 0) rfl
                  have c_P1 := X_P.cell (i := 1) rfl
                  have c_P2 := X_P.cell (i := 2) rfl
                  have c_P3 := X_P.cell (i := 3) rfl
                  go_wp2
                  refine bodyPost_ret (by simp only [results, Tryd.results84]; go_simp; try rfl) rfl ?_
                  exact ⟨by rw [← HR.out, vchk_b HC1.out HC2.out (by rw [HQ.out]; have := H3.out; omega) HB9.out], BW.out⟩
      · skip
        have HB0 : Hid bad0 := hid (HBD.out.2 (.inl e1))
        have e3 : ((d : Int) != n) = true := by simp [e1]
        clear e1
        have z_P := X_P.lt
        have c_P0 := X_P.cell (i := 0) rfl
        have c_P1 := X_P.cell (i := 1) rfl
        have c_P2 := X_P.cell (i := 2) rfl
        have c_P3 := X_P.cell (i := 3) rfl
        go_wp2_with (go_at_call 118; refine (CC.out _).mono ?_; rintro e w' ⟨rfl, rfl⟩)
        clear z_P c_P0 c_P1 c_P2 c_P3
        clear e3
        go_loopw [11, 39] (fun al ix wr => ∃ k : Nat, k ≤ l ∧ ix = .int .i64 (k : Int) ∧ Blk wr (bP) 75 [.int .i64 f, .int .i64 t, .int .i64 s, .int .i64 n] ∧ Below w.heap.size w wr ∧ ∃ A : Bool, .bool A = al ∧ (A = true ↔ bad0 ∨ ∃ j, j < k ∧ ∃ r, rs[j]? = some r ∧ (r.2.length : Int) ≠ t)) (fun _ ix _ => l - (intOf ix).toNat)
        case atStart => exact ⟨0, Nat.zero_le _, rfl, X_P, BW.out, true, rfl, ⟨fun _ => .inl HB0.out, fun _ => rfl⟩⟩
        case round =>
          clear X_P BW
          obtain ⟨k, hk_k, rfl, X_P, b9, hm_k⟩ := hrel
          obtain ⟨v4, hv9⟩ : ∃ v, v = wr := ⟨_, rfl⟩
          subst hv9
          have BW := hid b9
          clear b9
          have HM_k := hid hm_k
          clear hm_k
          by_cases hk : k < l
          · skip
            obtain ⟨⟨rv, rl⟩, hr9⟩ : ∃ x, rs[k]? = some x := ⟨rs[k]'(by rw [HL.out]; exact hk), List.getElem?_eq_getElem _⟩
            obtain ⟨g, off, rfl, hg, d0, hN⟩ := (HY.out.below BW.out).at hr9
            simp only at d0 hN
            obtain ⟨ra, rc, rfl, _, _⟩ := id hN
            have hk0 : (0 : Int) ≤ (k : Int) := by omega
            have hkl : (k : Int) < (l : Int) := by omega
            obtain ⟨m, hm⟩ : ∃ m, rl.length = m := ⟨_, rfl⟩
            rw [hm] at d0
            obtain ⟨A, hA, hAA⟩ := HM_k.out
            subst hA
            have HAA := hid hAA
            have HGET := hid hr9
            have HMM := hid hm
            clear HM_k hr9 hm hN hAA
            cases A
            · skip
              by_cases e : (m : Int) = t
              · skip
                have e9 : ((m : Int) != t) = false := by simp [e]
                have HE := hid e
                clear e
                have z_P := X_P.lt
                have c_P0 := X_P.cell (i := 0) rfl
                have c_P1 := X_P.cell (i := 1) rfl
                have c_P2 := X_P.cell (i := 2) rfl
                have c_P3 := X_P.cell (i := 3) rfl
                go_wp2
                clear z_P c_P0 c_P1 c_P2 c_P3
                go_roundw
                case rel => exact ⟨k + 1, by omega, by go_num, X_P, BW.out, false, rfl, by
                                refine ⟨fun h => (by cases h), fun h => ?_⟩
                                rcases h with h | ⟨j, hj, r, hr, hne⟩
                                · exact HAA.out.2 (.inl h)
                                · by_cases e : j = k
                                  · subst e; rw [HGET.out] at hr; cases hr; exact absurd (by rw [HMM.out]; exact HE.out) hne
                                  · exact HAA.out.2 (.inr ⟨j, by omega, r, hr, hne⟩)⟩
                case measure => simp [intOf]; omega
              · skip
                have e9 : ((m : Int) != t) = true := by simp [e]
                have HE := hid e
                clear e
                have z_P := X_P.lt
                have c_P0 := X_P.cell (i := 0) rfl
                have c_P1 := X_P.cell (i := 1) rfl
                have c_P2 := X_P.cell (i := 2) rfl
                have c_P3 := X_P.cell (i := 3) rfl
                go_wp2
                clear z_P c_P0 c_P1 c_P2 c_P3
                go_roundw
                case rel => exact ⟨k + 1, by omega, by go_num, X_P, BW.out, true, rfl, ⟨fun _ => .inr ⟨k, by omega, _, HGET.out, by show (rl.length : Int) ≠ t; rw [HMM.out]; exact HE.out⟩, fun _ => rfl⟩⟩
                case measure => simp [intOf]; omega
            · skip
              have z_P := X_P.lt
              have c_P0 := X_P.cell (i := 0) rfl
              have c_P1 := X_P.cell (i := 1) rfl
              have c_P2 := X_P.cell (i := 2) rfl
              have c_P3 := X_P.cell (i := 3) rfl
              go_wp2
              clear z_P c_P0 c_P1 c_P2 c_P3
              go_roundw
              case rel => exact ⟨k + 1, by omega, by go_num, X_P, BW.out, true, rfl, ⟨fun _ => by
                              rcases HAA.out.1 rfl with h | ⟨j, hj, h⟩
                              · exact .inl h
                              · exact .inr ⟨j, by omega, h⟩, fun _ => rfl⟩⟩
              case measure => simp [intOf]; omega
          · skip
            obtain rfl : l = k := by omega
            clear hk
            obtain ⟨A, hA, hAA⟩ := HM_k.out
            subst hA
            have HAA := hid hAA
            clear HM_k hAA
            have HBV : Hid (A = true ↔ badV t n rs d) := hid (by
                  rw [HAA.out, HBD.out]
                  unfold badV
                  constructor
                  · rintro ((h | h) | ⟨j, _, r, hr, hne⟩)
                    · exact .inl h
                    · exact .inr (.inl h)
                    · exact .inr (.inr ⟨r, List.mem_of_getElem? hr, hne⟩)
                  · rintro (h | h | ⟨r, hr, hne⟩)
                    · exact .inl (.inl h)
                    · exact .inl (.inr h)
                    · obtain ⟨j, hj⟩ := List.mem_iff_getElem?.1 hr
                      exact .inr ⟨j, by have := (List.getElem?_eq_some_iff.1 hj).1; rw [HL.out] at this; exact this, r, hj, hne⟩)
            by_cases h3 : t ≤ (q : Int)
            · skip
              have H3 := hid h3
              have z_P := X_P.lt
              have c_P0 := X_P.cell (i := 0) rfl
              have c_P1 := X_P.cell (i := 1) rfl
              have c_P2 := X_P.cell (i := 2) rfl
              have c_P3 := X_P.cell (i := 3) rfl
              go_wp2
              refine bodyPost_ret (by simp only [results, Tryd.results84]; go_simp; try rfl) rfl ?_
              exact ⟨by rw [← HR.out, vchk_t HC1.out HC2.out (by rw [HQ.out]; have := H3.out; omega)], BW.out⟩
            · skip
              have H3 := hid h3
              cases A
              · skip
                have HB9 : Hid (¬ badV t n rs d) := hid (fun h => by have := HBV.out.2 h; cases this)
                clear HBV
                have z_P := X_P.lt
                have c_P0 := X_P.cell (i := 0) rfl
                have c_P1 := X_P.cell (i := 1) rfl
                have c_P2 := X_P.cell (i := 2) rfl
                have c_P3 := X_P.cell (i := 3) rfl
                go_wp2
                refine bodyPost_ret (by simp only [results, Tryd.results84]; go_simp; try rfl) rfl ?_
                exact ⟨by rw [← HR.out, vchk_ok HC1.out HC2.out (by rw [HQ.out]; have := H3.out; omega) HB9.out], BW.out⟩
              · skip
                have HB9 := hid (HBV.out.1 rfl)
                clear HBV
                have z_P := X_P.lt
                have c_P0 := X_P.cell (i := 0) rfl
                have c_P1 := X_P.cell (i := 1) rfl
                have c_P2 := X_P.cell (i := 2) rfl
                have c_P3 := X_P.cell (i := 3) rfl
                go_wp2
                refine bodyPost_ret (by simp only [results, Tryd.results84]; go_simp; try rfl) rfl ?_
                exact ⟨by rw [← HR.out, vchk_b HC1.out HC2.out (by rw [HQ.out]; have := H3.out; omega) HB9.out], BW.out⟩
    · skip
      rw [h1] at CP
      have HR2 := vchk_x (rs := rs) (sl := d) h1 h2
      obtain ⟨c, hc⟩ : ∃ c, chkx xs = c := ⟨_, rfl⟩
      rw [hc] at CX h2 HR2
      have HR3 := hid HR2
      have hd : (c != 0) = true := by simp [h2]
      clear h1 hc h2 HR2 hq hl9
      go_enter Tryd.func84, Tryd.ntmps84
      go_wp2_with fail
      obtain ⟨v1, hv9⟩ : ∃ v, (w.alloc (.cells #[.int .i64 f, .int .i64 t, .int .i64 s, .int .i64 n] 75)) = v := ⟨_, rfl⟩
      have hG9 : Below w.heap.size w v1 := by rw [← hv9]; go_grown
      have X_P : Blk v1 (w.heap.size) 75 [.int .i64 f, .int .i64 t, .int .i64 s, .int .i64 n] := by rw [← hv9]; exact Blk.new rfl
      obtain ⟨bP, hb9⟩ : ∃ k, w.heap.size = k := ⟨_, rfl⟩
      rw [hb9] at X_P
      have g_bP : w.heap.size ≤ bP := by rw [← hb9]; exact BW.out.size
      replace T := hid (T.out.keep hG9)
      replace BW := hid (BW.out.trans (hG9.mono BW.out.size))
      clear hG9
      rw [hv9]
      try rw [hb9]
      clear hv9 hb9
      refine (CP.out _ T.out).mono ?_
      rintro e v2 ⟨rfl, b9⟩
      replace X_P := X_P.keep b9
      replace T := hid (T.out.keep b9)
      replace BW := hid (BW.out.trans (b9.mono BW.out.size))
      clear b9
      go_wp2_with fail
      refine (CX.out _ (HS.out.below BW.out)).mono ?_
      rintro e v3 ⟨rfl, b9⟩
      replace X_P := X_P.keep b9
      replace T := hid (T.out.keep b9)
      replace BW := hid (BW.out.trans (b9.mono BW.out.size))
      clear b9
      go_wp2
      refine bodyPost_ret (by simp only [results, Tryd.results84]; go_simp; try rfl) rfl ?_
      exact ⟨by rw [← HR.out, HR3.out], BW.out⟩
  · skip
    have HR2 := vchk_p (xs := xs) (rs := rs) (sl := d) h1
    obtain ⟨c, hc⟩ : ∃ c, chkP f t s n = c := ⟨_, rfl⟩
    rw [hc] at CP h1 HR2
    have HR3 := hid HR2
    have hd : (c != 0) = true := by simp [h1]
    clear h1 hc HR2 hq hl9
    go_enter Tryd.func84, Tryd.ntmps84
    go_wp2_with fail
    obtain ⟨v1, hv9⟩ : ∃ v, (w.alloc (.cells #[.int .i64 f, .int .i64 t, .int .i64 s, .int .i64 n] 75)) = v := ⟨_, rfl⟩
    have hG9 : Below w.heap.size w v1 := by rw [← hv9]; go_grown
    have X_P : Blk v1 (w.heap.size) 75 [.int .i64 f, .int .i64 t, .int .i64 s, .int .i64 n] := by rw [← hv9]; exact Blk.new rfl
    obtain ⟨bP, hb9⟩ : ∃ k, w.heap.size = k := ⟨_, rfl⟩
    rw [hb9] at X_P
    have g_bP : w.heap.size ≤ bP := by rw [← hb9]; exact BW.out.size
    replace T := hid (T.out.keep hG9)
    replace BW := hid (BW.out.trans (hG9.mono BW.out.size))
    clear hG9
    rw [hv9]
    try rw [hb9]
    clear hv9 hb9
    refine (CP.out _ T.out).mono ?_
    rintro e v2 ⟨rfl, b9⟩
    replace X_P := X_P.keep b9
    replace T := hid (T.out.keep b9)
    replace BW := hid (BW.out.trans (b9.mono BW.out.size))
    clear b9
    go_wp2
    refine bodyPost_ret (by simp only [results, Tryd.results84]; go_simp; try rfl) rfl ?_
    exact ⟨by rw [← HR.out, HR3.out], BW.out⟩
end Go.Proofs.YtogenbggjodcnaaDoor
