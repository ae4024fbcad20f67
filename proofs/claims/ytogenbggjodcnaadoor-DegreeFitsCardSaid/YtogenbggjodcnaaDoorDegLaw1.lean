/-
  DegreeFits: for every field, up to 5 points, values and every number of coefficients, Fits returns the same mask, or the same error, as the reference.
-/
import Derived.Test.YtogenbggjodcnaaDoorAlive10
import Derived.Test.YtogenbggjodcnaaDoorRFit10
import Derived.Deep.RegionHeld3
namespace Go.Proofs.YtogenbggjodcnaaDoor
open Go.RowKit

attribute [local go_sem] Oper.semAt_some
set_option maxRecDepth 100000 in
set_option maxHeartbeats 4000000 in
theorem dfits_law (b : Bool) (v u : Value) (xs : List Int) (ls : List Nat) (k : Int) (w : World) (hT : Tab w) (hS : IntSl w v xs) (hU : NumSl w u ls) (hcap : ∀ a n c, v = .slice a n c → n ≤ c) :
    Calls Tryd.prog 3 #[.bool b, .agg #[v, u], .int .i64 k] w (Ret (.bool true) w) := by
  have BW := hid (Below.refl w.heap.size w)
  have T := hid hT
  clear hT
  have HS := hid hS
  obtain ⟨sa, sc, rfl, _⟩ := hS
  obtain ⟨n, hn⟩ : ∃ n, xs.length = n := ⟨_, rfl⟩
  rw [hn] at HS ⊢
  have HN := hid hn
  have HU := hid hU
  obtain ⟨su, cu, rfl, _, _⟩ := hU
  obtain ⟨m, hm⟩ : ∃ n, ls.length = n := ⟨_, rfl⟩
  rw [hm] at HU ⊢
  rw [hn] at hcap
  by_cases h6 : 5 < n
  · skip
    go_enter Tryd.func3, Tryd.ntmps3
    go_wp2_with fail
    obtain ⟨v1, hv9⟩ : ∃ v, (w.alloc (.cells #[.slice sa n sc, .slice su m cu] 25)) = v := ⟨_, rfl⟩
    have hG9 : Below w.heap.size w v1 := by rw [← hv9]; go_grown
    have X_X : Blk v1 (w.heap.size) 25 [.slice sa n sc, .slice su m cu] := by rw [← hv9]; exact Blk.new rfl
    obtain ⟨bX, hb9⟩ : ∃ k, w.heap.size = k := ⟨_, rfl⟩
    rw [hb9] at X_X
    have g_bX : w.heap.size ≤ bX := by rw [← hb9]; exact BW.out.size
    replace T := hid (T.out.keep hG9)
    replace BW := hid (BW.out.trans (hG9.mono BW.out.size))
    clear hG9
    rw [hv9]
    try rw [hb9]
    clear hv9 hb9
    refine (alive10_any _ T.out).mono ?_
    rintro e v2 ⟨rfl, b9⟩
    replace X_X := X_X.keep b9
    replace T := hid (T.out.keep b9)
    replace BW := hid (BW.out.trans (b9.mono BW.out.size))
    clear b9
    go_wp2
    go_ret
    exact ⟨rfl, BW.out⟩
  by_cases h7 : 5 < m
  · skip
    go_enter Tryd.func3, Tryd.ntmps3
    go_wp2_with fail
    obtain ⟨v3, hv9⟩ : ∃ v, (w.alloc (.cells #[.slice sa n sc, .slice su m cu] 25)) = v := ⟨_, rfl⟩
    have hG9 : Below w.heap.size w v3 := by rw [← hv9]; go_grown
    have X_X : Blk v3 (w.heap.size) 25 [.slice sa n sc, .slice su m cu] := by rw [← hv9]; exact Blk.new rfl
    obtain ⟨bX, hb9⟩ : ∃ k, w.heap.size = k := ⟨_, rfl⟩
    rw [hb9] at X_X
    have g_bX : w.heap.size ≤ bX := by rw [← hb9]; exact BW.out.size
    replace T := hid (T.out.keep hG9)
    replace BW := hid (BW.out.trans (hG9.mono BW.out.size))
    clear hG9
    rw [hv9]
    try rw [hb9]
    clear hv9 hb9
    refine (alive10_any _ T.out).mono ?_
    rintro e v4 ⟨rfl, b9⟩
    replace X_X := X_X.keep b9
    replace T := hid (T.out.keep b9)
    replace BW := hid (BW.out.trans (b9.mono BW.out.size))
    clear b9
    go_wp2
    go_ret
    exact ⟨rfl, BW.out⟩
  have hlx : xs.length < 1000000 := by omega
  have RCC := hid (fun (W : World) (h : IntSl W (.slice sa n sc) xs) => rlcheck_any (.slice sa n sc) xs W h hlx)
  have hp2 := fP_two b
  have hpb := fP_lt b
  have VC := hid (fun (W : World) (h : NumSl W (.slice su m cu) ls) => values_any (fP b) (.slice su m cu) ls W hpb (by omega) h (by omega))
  unfold RetVals at VC
  obtain ⟨vs, hvs⟩ : ∃ z, ls.map (mulm (fP b) 1) = z := ⟨_, rfl⟩
  have HLV : Hid (vs.length = m) := hid (by rw [← hvs, List.length_map, hm])
  have HVL : Hid (∀ y ∈ vs, y < fP b) := hid (by intro y hy; rw [← hvs] at hy; obtain ⟨z, _, rfl⟩ := List.mem_map.1 hy; exact mulm_lt _ _ (by omega))
  rw [hvs, hm] at VC
  clear hvs
  by_cases hc : chkx xs = 0
  · skip
    by_cases e : n = m
    · skip
      subst e
      · skip
        rw [hc] at RCC
        have HALL := (chkx_zero hc).1
        have hdp := (chkx_zero hc).2
        have hdn : ((n : Int) != (n : Int)) = false := by simp
        have F1 := hid (fun (W : World) (v u : Value) (h : IntSl W v xs) (h2 : NumSl W u (vs.map (frm (fP b)))) => fits_ok b v u xs vs k W h h2 (by omega) hc (by rw [HLV.out, hn]))
        have R1 := hid (fun (W : World) (u : Value) (h : IntSl W (.slice sa n sc) xs) (h2 : NumSl W u vs) => rfits_any b (.slice sa n sc) u xs vs k W h h2 HVL.out (by omega) (by rw [HLV.out, hn]) HALL hcap)
        have hbf := bmk_fits (b := b) (pts_lt HALL (show 255 < fP b by cases b <;> decide)) (pts_nodup HALL hdp) HVL.out (by rw [HLV.out, pts_len, hn]) k
        rw [pts_len, hn] at hbf
        rw [hn] at F1 R1
        rw [hbf] at F1
        obtain ⟨q, hq⟩ : ∃ z, pdec (rft (fP b) (pts xs) vs (cutk k n) n) = z := ⟨_, rfl⟩
        rw [hq] at F1 R1
        have MC := hid (fun W : World => rmask_any q W)
        obtain ⟨mk, hmk⟩ : ∃ z : Int, (if q then 18446744073709551615 else 0 : Int) = z := ⟨_, rfl⟩
        rw [hmk] at MC
        rw [show (((if q = true then 18446744073709551615 else 0 : Nat) : Nat) : Int) = mk by rw [← hmk]; cases q <;> rfl] at F1
        clear hq hmk hbf hc hlx hn hm HALL hdp hcap
        go_enter Tryd.func3, Tryd.ntmps3
        go_wp2_with fail
        obtain ⟨v5, hv9⟩ : ∃ v, (w.alloc (.cells #[.slice sa n sc, .slice su n cu] 25)) = v := ⟨_, rfl⟩
        have hG9 : Below w.heap.size w v5 := by rw [← hv9]; go_grown
        have X_X : Blk v5 (w.heap.size) 25 [.slice sa n sc, .slice su n cu] := by rw [← hv9]; exact Blk.new rfl
        obtain ⟨bX, hb9⟩ : ∃ k, w.heap.size = k := ⟨_, rfl⟩
        rw [hb9] at X_X
        have g_bX : w.heap.size ≤ bX := by rw [← hb9]; exact BW.out.size
        replace T := hid (T.out.keep hG9)
        replace BW := hid (BW.out.trans (hG9.mono BW.out.size))
        clear hG9
        rw [hv9]
        try rw [hb9]
        clear hv9 hb9
        refine (get10_any b _ T.out).mono ?_
        rintro e v6 ⟨rfl, b9⟩
        replace X_X := X_X.keep b9
        replace T := hid (T.out.keep b9)
        replace BW := hid (BW.out.trans (b9.mono BW.out.size))
        clear b9
        have z_X := X_X.lt
        have c_X0 := X_X.cell (i := 0) rfl
        have c_X1 := X_X.cell (i := 1) rfl
        go_wp2_with fail
        obtain ⟨v7, hv9⟩ : ∃ v, ((v6.alloc (.cells #[.int .i64 (fID b), .int .u64 (limb (fP b) 0 : Int), .int .u64 (limb (fP b) 1 : Int), .int .u64 (limb (fP b) 2 : Int), .int .u64 (limb (fP b) 3 : Int), .int .u64 (fI b : Int), .int .u64 (limb (fO b) 0 : Int), .int .u64 (limb (fO b) 1 : Int), .int .u64 (limb (fO b) 2 : Int), .int .u64 (limb (fO b) 3 : Int), .int .u64 (limb (fS b) 0 : Int), .int .u64 (limb (fS b) 1 : Int), .int .u64 (limb (fS b) 2 : Int), .int .u64 (limb (fS b) 3 : Int)] 31)).alloc (.cells #[.int .u64 (limb (fP b) 0 : Int), .int .u64 (limb (fP b) 1 : Int), .int .u64 (limb (fP b) 2 : Int), .int .u64 (limb (fP b) 3 : Int)] 28)) = v := ⟨_, rfl⟩
        have hG9 : Below v6.heap.size v6 v7 := by rw [← hv9]; go_grown
        have X_F : Blk v7 (v6.heap.size) 31 [.int .i64 (fID b), .int .u64 (limb (fP b) 0 : Int), .int .u64 (limb (fP b) 1 : Int), .int .u64 (limb (fP b) 2 : Int), .int .u64 (limb (fP b) 3 : Int), .int .u64 (fI b : Int), .int .u64 (limb (fO b) 0 : Int), .int .u64 (limb (fO b) 1 : Int), .int .u64 (limb (fO b) 2 : Int), .int .u64 (limb (fO b) 3 : Int), .int .u64 (limb (fS b) 0 : Int), .int .u64 (limb (fS b) 1 : Int), .int .u64 (limb (fS b) 2 : Int), .int .u64 (limb (fS b) 3 : Int)] := by rw [← hv9]; exact Blk.alloc (Blk.new rfl) _
        have X_P : Blk v7 (v6.heap.size + 1) 28 [.int .u64 (limb (fP b) 0 : Int), .int .u64 (limb (fP b) 1 : Int), .int .u64 (limb (fP b) 2 : Int), .int .u64 (limb (fP b) 3 : Int)] := by rw [← hv9]; exact Blk.new (by simp)
        obtain ⟨bF, hb9⟩ : ∃ k, v6.heap.size = k := ⟨_, rfl⟩
        rw [hb9] at X_F
        rw [hb9] at X_P
        have g_bF : w.heap.size ≤ bF := by rw [← hb9]; exact BW.out.size
        have q_X_bF : bX < bF := by rw [← hb9]; exact X_X.lt
        clear z_X c_X0 c_X1
        replace X_X := X_X.keep hG9
        replace T := hid (T.out.keep hG9)
        replace BW := hid (BW.out.trans (hG9.mono BW.out.size))
        clear hG9
        rw [hv9]
        try rw [hb9]
        clear hv9 hb9
        refine (VC.out _ (HU.out.below BW.out)).mono ?_
        rintro e v8 ⟨vv, vx, rfl, ho, ho2, b9⟩
        obtain ⟨ac, cc, rfl, _, _, _⟩ := owns_form ho2
        obtain ⟨av, cv, rfl, _, _, _⟩ := owns_form ho
        have N_v := hid (nums_own (xs := vs) (by rw [HLV.out]; exact ho) (small9 HVL.out))
        have N_c := hid (nums_own (xs := vs.map (frm (fP b))) (by rw [List.length_map, HLV.out]; exact ho2) (small9 (forms9 b _)))
        clear ho ho2
        replace X_X := X_X.keep b9
        replace X_F := X_F.keep b9
        replace X_P := X_P.keep b9
        replace T := hid (T.out.keep b9)
        replace BW := hid (BW.out.trans (b9.mono BW.out.size))
        clear b9
        have z_F := X_F.lt
        have c_F0 := X_F.cell (i := 0) rfl
        have c_F1 := X_F.cell (i := 1) rfl
        have c_F2 := X_F.cell (i := 2) rfl
        have c_F3 := X_F.cell (i := 3) rfl
        have c_F4 := X_F.cell (i := 4) rfl
        have c_F5 := X_F.cell (i := 5) rfl
        have c_F6 := X_F.cell (i := 6) rfl
        have c_F7 := X_F.cell (i := 7) rfl
        have c_F8 := X_F.cell (i := 8) rfl
        have c_F9 := X_F.cell (i := 9) rfl
        have c_F10 := X_F.cell (i := 10) rfl
        have c_F11 := X_F.cell (i := 11) rfl
        have c_F12 := X_F.cell (i := 12) rfl
        have c_F13 := X_F.cell (i := 13) rfl
        have z_X := X_X.lt
        have c_X0 := X_X.cell (i := 0) rfl
        have c_X1 := X_X.cell (i := 1) rfl
        go_wp2_with fail
        refine (F1.out _ _ _ (HS.out.below BW.out) N_c.out).mono ?_
        rintro e v9 ⟨rfl, b9⟩
        clear z_F c_F0 c_F1 c_F2 c_F3 c_F4 c_F5 c_F6 c_F7 c_F8 c_F9 c_F10 c_F11 c_F12 c_F13 z_X c_X0 c_X1
        replace X_X := X_X.keep b9
        replace X_F := X_F.keep b9
        replace X_P := X_P.keep b9
        replace N_v := hid (N_v.out.below b9)
        replace N_c := hid (N_c.out.below b9)
        replace T := hid (T.out.keep b9)
        replace BW := hid (BW.out.trans (b9.mono BW.out.size))
        clear b9
        have z_X := X_X.lt
        have c_X0 := X_X.cell (i := 0) rfl
        have c_X1 := X_X.cell (i := 1) rfl
        go_wp2_with fail
        refine (RCC.out _ (HS.out.below BW.out)).mono ?_
        rintro e v10 ⟨rfl, b9⟩
        clear z_X c_X0 c_X1
        replace X_X := X_X.keep b9
        replace X_F := X_F.keep b9
        replace X_P := X_P.keep b9
        replace N_v := hid (N_v.out.below b9)
        replace N_c := hid (N_c.out.below b9)
        replace T := hid (T.out.keep b9)
        replace BW := hid (BW.out.trans (b9.mono BW.out.size))
        clear b9
        have z_X := X_X.lt
        have c_X0 := X_X.cell (i := 0) rfl
        have c_X1 := X_X.cell (i := 1) rfl
        go_wp2_with fail
        refine (alive10_any _ T.out).mono ?_
        rintro e v11 ⟨rfl, b9⟩
        clear z_X c_X0 c_X1
        replace X_X := X_X.keep b9
        replace X_F := X_F.keep b9
        replace X_P := X_P.keep b9
        replace N_v := hid (N_v.out.below b9)
        replace N_c := hid (N_c.out.below b9)
        replace T := hid (T.out.keep b9)
        replace BW := hid (BW.out.trans (b9.mono BW.out.size))
        clear b9
        have z_P := X_P.lt
        have c_P0 := X_P.cell (i := 0) rfl
        have c_P1 := X_P.cell (i := 1) rfl
        have c_P2 := X_P.cell (i := 2) rfl
        have c_P3 := X_P.cell (i := 3) rfl
        have z_X := X_X.lt
        have c_X0 := X_X.cell (i := 0) rfl
        have c_X1 := X_X.cell (i := 1) rfl
        go_wp2_with fail
        refine (R1.out _ _ (HS.out.below BW.out) N_v.out).mono ?_
        rintro e v12 ⟨rfl, b9⟩
        clear z_P c_P0 c_P1 c_P2 c_P3 z_X c_X0 c_X1
        replace X_X := X_X.keep b9
        replace X_F := X_F.keep b9
        replace X_P := X_P.keep b9
        replace N_v := hid (N_v.out.below b9)
        replace N_c := hid (N_c.out.below b9)
        replace T := hid (T.out.keep b9)
        replace BW := hid (BW.out.trans (b9.mono BW.out.size))
        clear b9
        go_wp2_with fail
        refine (MC.out _).mono ?_
        rintro e v13 ⟨rfl, b9⟩
        replace X_X := X_X.keep b9
        replace X_F := X_F.keep b9
        replace X_P := X_P.keep b9
        replace N_v := hid (N_v.out.below b9)
        replace N_c := hid (N_c.out.below b9)
        replace T := hid (T.out.keep b9)
        replace BW := hid (BW.out.trans (b9.mono BW.out.size))
        clear b9
        go_wp2
        go_ret
        exact ⟨rfl, BW.out⟩
    · skip
      rw [hc] at RCC
      have F1 := hid (fun (W : World) (v u : Value) (h : IntSl W v xs) (h2 : NumSl W u (vs.map (frm (fP b)))) => fits_len b v u xs vs k W h h2 hlx hc (by rw [HLV.out, hn]; exact e) (by rw [HLV.out]; omega))
      have hdn : ((n : Int) != (m : Int)) = true := by simp; omega
      clear hc hlx hn hm hcap
      go_enter Tryd.func3, Tryd.ntmps3
      go_wp2_with fail
      obtain ⟨v5, hv9⟩ : ∃ v, (w.alloc (.cells #[.slice sa n sc, .slice su m cu] 25)) = v := ⟨_, rfl⟩
      have hG9 : Below w.heap.size w v5 := by rw [← hv9]; go_grown
      have X_X : Blk v5 (w.heap.size) 25 [.slice sa n sc, .slice su m cu] := by rw [← hv9]; exact Blk.new rfl
      obtain ⟨bX, hb9⟩ : ∃ k, w.heap.size = k := ⟨_, rfl⟩
      rw [hb9] at X_X
      have g_bX : w.heap.size ≤ bX := by rw [← hb9]; exact BW.out.size
      replace T := hid (T.out.keep hG9)
      replace BW := hid (BW.out.trans (hG9.mono BW.out.size))
      clear hG9
      rw [hv9]
      try rw [hb9]
      clear hv9 hb9
      refine (get10_any b _ T.out).mono ?_
      rintro e v6 ⟨rfl, b9⟩
      replace X_X := X_X.keep b9
      replace T := hid (T.out.keep b9)
      replace BW := hid (BW.out.trans (b9.mono BW.out.size))
      clear b9
      have z_X := X_X.lt
      have c_X0 := X_X.cell (i := 0) rfl
      have c_X1 := X_X.cell (i := 1) rfl
      go_wp2_with fail
      obtain ⟨v7, hv9⟩ : ∃ v, ((v6.alloc (.cells #[.int .i64 (fID b), .int .u64 (limb (fP b) 0 : Int), .int .u64 (limb (fP b) 1 : Int), .int .u64 (limb (fP b) 2 : Int), .int .u64 (limb (fP b) 3 : Int), .int .u64 (fI b : Int), .int .u64 (limb (fO b) 0 : Int), .int .u64 (limb (fO b) 1 : Int), .int .u64 (limb (fO b) 2 : Int), .int .u64 (limb (fO b) 3 : Int), .int .u64 (limb (fS b) 0 : Int), .int .u64 (limb (fS b) 1 : Int), .int .u64 (limb (fS b) 2 : Int), .int .u64 (limb (fS b) 3 : Int)] 31)).alloc (.cells #[.int .u64 (limb (fP b) 0 : Int), .int .u64 (limb (fP b) 1 : Int), .int .u64 (limb (fP b) 2 : Int), .int .u64 (limb (fP b) 3 : Int)] 28)) = v := ⟨_, rfl⟩
      have hG9 : Below v6.heap.size v6 v7 := by rw [← hv9]; go_grown
      have X_F : Blk v7 (v6.heap.size) 31 [.int .i64 (fID b), .int .u64 (limb (fP b) 0 : Int), .int .u64 (limb (fP b) 1 : Int), .int .u64 (limb (fP b) 2 : Int), .int .u64 (limb (fP b) 3 : Int), .int .u64 (fI b : Int), .int .u64 (limb (fO b) 0 : Int), .int .u64 (limb (fO b) 1 : Int), .int .u64 (limb (fO b) 2 : Int), .int .u64 (limb (fO b) 3 : Int), .int .u64 (limb (fS b) 0 : Int), .int .u64 (limb (fS b) 1 : Int), .int .u64 (limb (fS b) 2 : Int), .int .u64 (limb (fS b) 3 : Int)] := by rw [← hv9]; exact Blk.alloc (Blk.new rfl) _
      have X_P : Blk v7 (v6.heap.size + 1) 28 [.int .u64 (limb (fP b) 0 : Int), .int .u64 (limb (fP b) 1 : Int), .int .u64 (limb (fP b) 2 : Int), .int .u64 (limb (fP b) 3 : Int)] := by rw [← hv9]; exact Blk.new (by simp)
      obtain ⟨bF, hb9⟩ : ∃ k, v6.heap.size = k := ⟨_, rfl⟩
      rw [hb9] at X_F
      rw [hb9] at X_P
      have g_bF : w.heap.size ≤ bF := by rw [← hb9]; exact BW.out.size
      have q_X_bF : bX < bF := by rw [← hb9]; exact X_X.lt
      clear z_X c_X0 c_X1
      replace X_X := X_X.keep hG9
      replace T := hid (T.out.keep hG9)
      replace BW := hid (BW.out.trans (hG9.mono BW.out.size))
      clear hG9
      rw [hv9]
      try rw [hb9]
      clear hv9 hb9
      refine (VC.out _ (HU.out.below BW.out)).mono ?_
      rintro e v8 ⟨vv, vx, rfl, ho, ho2, b9⟩
      obtain ⟨ac, cc, rfl, _, _, _⟩ := owns_form ho2
      obtain ⟨av, cv, rfl, _, _, _⟩ := owns_form ho
      have N_v := hid (nums_own (xs := vs) (by rw [HLV.out]; exact ho) (small9 HVL.out))
      have N_c := hid (nums_own (xs := vs.map (frm (fP b))) (by rw [List.length_map, HLV.out]; exact ho2) (small9 (forms9 b _)))
      clear ho ho2
      replace X_X := X_X.keep b9
      replace X_F := X_F.keep b9
      replace X_P := X_P.keep b9
      replace T := hid (T.out.keep b9)
      replace BW := hid (BW.out.trans (b9.mono BW.out.size))
      clear b9
      have z_F := X_F.lt
      have c_F0 := X_F.cell (i := 0) rfl
      have c_F1 := X_F.cell (i := 1) rfl
      have c_F2 := X_F.cell (i := 2) rfl
      have c_F3 := X_F.cell (i := 3) rfl
      have c_F4 := X_F.cell (i := 4) rfl
      have c_F5 := X_F.cell (i := 5) rfl
      have c_F6 := X_F.cell (i := 6) rfl
      have c_F7 := X_F.cell (i := 7) rfl
      have c_F8 := X_F.cell (i := 8) rfl
      have c_F9 := X_F.cell (i := 9) rfl
      have c_F10 := X_F.cell (i := 10) rfl
      have c_F11 := X_F.cell (i := 11) rfl
      have c_F12 := X_F.cell (i := 12) rfl
      have c_F13 := X_F.cell (i := 13) rfl
      have z_X := X_X.lt
      have c_X0 := X_X.cell (i := 0) rfl
      have c_X1 := X_X.cell (i := 1) rfl
      go_wp2_with fail
      refine (F1.out _ _ _ (HS.out.below BW.out) N_c.out).mono ?_
      rintro e v9 ⟨rfl, b9⟩
      clear z_F c_F0 c_F1 c_F2 c_F3 c_F4 c_F5 c_F6 c_F7 c_F8 c_F9 c_F10 c_F11 c_F12 c_F13 z_X c_X0 c_X1
      replace X_X := X_X.keep b9
      replace X_F := X_F.keep b9
      replace X_P := X_P.keep b9
      replace N_v := hid (N_v.out.below b9)
      replace N_c := hid (N_c.out.below b9)
      replace T := hid (T.out.keep b9)
      replace BW := hid (BW.out.trans (b9.mono BW.out.size))
      clear b9
      have z_X := X_X.lt
      have c_X0 := X_X.cell (i := 0) rfl
      have c_X1 := X_X.cell (i := 1) rfl
      go_wp2_with fail
      refine (RCC.out _ (HS.out.below BW.out)).mono ?_
      rintro e v10 ⟨rfl, b9⟩
      clear z_X c_X0 c_X1
      replace X_X := X_X.keep b9
      replace X_F := X_F.keep b9
      replace X_P := X_P.keep b9
      replace N_v := hid (N_v.out.below b9)
      replace N_c := hid (N_c.out.below b9)
      replace T := hid (T.out.keep b9)
      replace BW := hid (BW.out.trans (b9.mono BW.out.size))
      clear b9
      have z_X := X_X.lt
      have c_X0 := X_X.cell (i := 0) rfl
      have c_X1 := X_X.cell (i := 1) rfl
      go_wp2_with fail
      refine (alive10_any _ T.out).mono ?_
      rintro e v11 ⟨rfl, b9⟩
      clear z_X c_X0 c_X1
      replace X_X := X_X.keep b9
      replace X_F := X_F.keep b9
      replace X_P := X_P.keep b9
      replace N_v := hid (N_v.out.below b9)
      replace N_c := hid (N_c.out.below b9)
      replace T := hid (T.out.keep b9)
      replace BW := hid (BW.out.trans (b9.mono BW.out.size))
      clear b9
      go_wp2
      go_ret
      exact ⟨rfl, BW.out⟩
  · skip
    have F1 := hid (fun (W : World) (v u : Value) (h : IntSl W v xs) (h2 : NumSl W u (vs.map (frm (fP b)))) => fits_bad b v u xs vs k W h h2 hlx hc)
    obtain ⟨c, hc9⟩ : ∃ c, chkx xs = c := ⟨_, rfl⟩
    rw [hc9] at hc F1 RCC
    have hd : (c != 0) = true := by simp [hc]
    have hd2 : (c == c) = true := by simp
    have hd3 : (c == 0) = false := by simp [hc]
    clear hc hc9 hlx hn hm hcap
    go_enter Tryd.func3, Tryd.ntmps3
    go_wp2_with fail
    obtain ⟨v5, hv9⟩ : ∃ v, (w.alloc (.cells #[.slice sa n sc, .slice su m cu] 25)) = v := ⟨_, rfl⟩
    have hG9 : Below w.heap.size w v5 := by rw [← hv9]; go_grown
    have X_X : Blk v5 (w.heap.size) 25 [.slice sa n sc, .slice su m cu] := by rw [← hv9]; exact Blk.new rfl
    obtain ⟨bX, hb9⟩ : ∃ k, w.heap.size = k := ⟨_, rfl⟩
    rw [hb9] at X_X
    have g_bX : w.heap.size ≤ bX := by rw [← hb9]; exact BW.out.size
    replace T := hid (T.out.keep hG9)
    replace BW := hid (BW.out.trans (hG9.mono BW.out.size))
    clear hG9
    rw [hv9]
    try rw [hb9]
    clear hv9 hb9
    refine (get10_any b _ T.out).mono ?_
    rintro e v6 ⟨rfl, b9⟩
    replace X_X := X_X.keep b9
    replace T := hid (T.out.keep b9)
    replace BW := hid (BW.out.trans (b9.mono BW.out.size))
    clear b9
    have z_X := X_X.lt
    have c_X0 := X_X.cell (i := 0) rfl
    have c_X1 := X_X.cell (i := 1) rfl
    go_wp2_with fail
    obtain ⟨v7, hv9⟩ : ∃ v, ((v6.alloc (.cells #[.int .i64 (fID b), .int .u64 (limb (fP b) 0 : Int), .int .u64 (limb (fP b) 1 : Int), .int .u64 (limb (fP b) 2 : Int), .int .u64 (limb (fP b) 3 : Int), .int .u64 (fI b : Int), .int .u64 (limb (fO b) 0 : Int), .int .u64 (limb (fO b) 1 : Int), .int .u64 (limb (fO b) 2 : Int), .int .u64 (limb (fO b) 3 : Int), .int .u64 (limb (fS b) 0 : Int), .int .u64 (limb (fS b) 1 : Int), .int .u64 (limb (fS b) 2 : Int), .int .u64 (limb (fS b) 3 : Int)] 31)).alloc (.cells #[.int .u64 (limb (fP b) 0 : Int), .int .u64 (limb (fP b) 1 : Int), .int .u64 (limb (fP b) 2 : Int), .int .u64 (limb (fP b) 3 : Int)] 28)) = v := ⟨_, rfl⟩
    have hG9 : Below v6.heap.size v6 v7 := by rw [← hv9]; go_grown
    have X_F : Blk v7 (v6.heap.size) 31 [.int .i64 (fID b), .int .u64 (limb (fP b) 0 : Int), .int .u64 (limb (fP b) 1 : Int), .int .u64 (limb (fP b) 2 : Int), .int .u64 (limb (fP b) 3 : Int), .int .u64 (fI b : Int), .int .u64 (limb (fO b) 0 : Int), .int .u64 (limb (fO b) 1 : Int), .int .u64 (limb (fO b) 2 : Int), .int .u64 (limb (fO b) 3 : Int), .int .u64 (limb (fS b) 0 : Int), .int .u64 (limb (fS b) 1 : Int), .int .u64 (limb (fS b) 2 : Int), .int .u64 (limb (fS b) 3 : Int)] := by rw [← hv9]; exact Blk.alloc (Blk.new rfl) _
    have X_P : Blk v7 (v6.heap.size + 1) 28 [.int .u64 (limb (fP b) 0 : Int), .int .u64 (limb (fP b) 1 : Int), .int .u64 (limb (fP b) 2 : Int), .int .u64 (limb (fP b) 3 : Int)] := by rw [← hv9]; exact Blk.new (by simp)
    obtain ⟨bF, hb9⟩ : ∃ k, v6.heap.size = k := ⟨_, rfl⟩
    rw [hb9] at X_F
    rw [hb9] at X_P
    have g_bF : w.heap.size ≤ bF := by rw [← hb9]; exact BW.out.size
    have q_X_bF : bX < bF := by rw [← hb9]; exact X_X.lt
    clear z_X c_X0 c_X1
    replace X_X := X_X.keep hG9
    replace T := hid (T.out.keep hG9)
    replace BW := hid (BW.out.trans (hG9.mono BW.out.size))
    clear hG9
    rw [hv9]
    try rw [hb9]
    clear hv9 hb9
    refine (VC.out _ (HU.out.below BW.out)).mono ?_
    rintro e v8 ⟨vv, vx, rfl, ho, ho2, b9⟩
    obtain ⟨ac, cc, rfl, _, _, _⟩ := owns_form ho2
    obtain ⟨av, cv, rfl, _, _, _⟩ := owns_form ho
    have N_v := hid (nums_own (xs := vs) (by rw [HLV.out]; exact ho) (small9 HVL.out))
    have N_c := hid (nums_own (xs := vs.map (frm (fP b))) (by rw [List.length_map, HLV.out]; exact ho2) (small9 (forms9 b _)))
    clear ho ho2
    replace X_X := X_X.keep b9
    replace X_F := X_F.keep b9
    replace X_P := X_P.keep b9
    replace T := hid (T.out.keep b9)
    replace BW := hid (BW.out.trans (b9.mono BW.out.size))
    clear b9
    have z_F := X_F.lt
    have c_F0 := X_F.cell (i := 0) rfl
    have c_F1 := X_F.cell (i := 1) rfl
    have c_F2 := X_F.cell (i := 2) rfl
    have c_F3 := X_F.cell (i := 3) rfl
    have c_F4 := X_F.cell (i := 4) rfl
    have c_F5 := X_F.cell (i := 5) rfl
    have c_F6 := X_F.cell (i := 6) rfl
    have c_F7 := X_F.cell (i := 7) rfl
    have c_F8 := X_F.cell (i := 8) rfl
    have c_F9 := X_F.cell (i := 9) rfl
    have c_F10 := X_F.cell (i := 10) rfl
    have c_F11 := X_F.cell (i := 11) rfl
    have c_F12 := X_F.cell (i := 12) rfl
    have c_F13 := X_F.cell (i := 13) rfl
    have z_X := X_X.lt
    have c_X0 := X_X.cell (i := 0) rfl
    have c_X1 := X_X.cell (i := 1) rfl
    go_wp2_with fail
    refine (F1.out _ _ _ (HS.out.below BW.out) N_c.out).mono ?_
    rintro e v9 ⟨rfl, b9⟩
    clear z_F c_F0 c_F1 c_F2 c_F3 c_F4 c_F5 c_F6 c_F7 c_F8 c_F9 c_F10 c_F11 c_F12 c_F13 z_X c_X0 c_X1
    replace X_X := X_X.keep b9
    replace X_F := X_F.keep b9
    replace X_P := X_P.keep b9
    replace N_v := hid (N_v.out.below b9)
    replace N_c := hid (N_c.out.below b9)
    replace T := hid (T.out.keep b9)
    replace BW := hid (BW.out.trans (b9.mono BW.out.size))
    clear b9
    have z_X := X_X.lt
    have c_X0 := X_X.cell (i := 0) rfl
    have c_X1 := X_X.cell (i := 1) rfl
    go_wp2_with fail
    refine (RCC.out _ (HS.out.below BW.out)).mono ?_
    rintro e v10 ⟨rfl, b9⟩
    clear z_X c_X0 c_X1
    replace X_X := X_X.keep b9
    replace X_F := X_F.keep b9
    replace X_P := X_P.keep b9
    replace N_v := hid (N_v.out.below b9)
    replace N_c := hid (N_c.out.below b9)
    replace T := hid (T.out.keep b9)
    replace BW := hid (BW.out.trans (b9.mono BW.out.size))
    clear b9
    have z_X := X_X.lt
    have c_X0 := X_X.cell (i := 0) rfl
    have c_X1 := X_X.cell (i := 1) rfl
    go_wp2_with fail
    refine (alive10_any _ T.out).mono ?_
    rintro e v11 ⟨rfl, b9⟩
    clear z_X c_X0 c_X1
    replace X_X := X_X.keep b9
    replace X_F := X_F.keep b9
    replace X_P := X_P.keep b9
    replace N_v := hid (N_v.out.below b9)
    replace N_c := hid (N_c.out.below b9)
    replace T := hid (T.out.keep b9)
    replace BW := hid (BW.out.trans (b9.mono BW.out.size))
    clear b9
    go_wp2
    go_ret
    exact ⟨rfl, BW.out⟩
end Go.Proofs.YtogenbggjodcnaaDoor
