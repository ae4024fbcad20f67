/-
  LagrangeInterpolates: for every field, up to 6 numbers and values, Interpolate returns the same polynomial, or the same error, as the reference.
-/
import Derived.Test.YthdjjogdjabflaaDoorAlive09
import Derived.Test.YthdjjogdjabflaaDoorRZero9
import Derived.Test.YthdjjogdjabflaaDoorRItp9
import Derived.Test.YthdjjogdjabflaaDoorDot9
import Derived.Deep.RegionHeld3
namespace Go.Proofs.YthdjjogdjabflaaDoor
open Go.RowKit

attribute [local go_sem] Oper.semAt_some
set_option maxRecDepth 100000 in
set_option maxHeartbeats 4000000 in
theorem itps9_law (b : Bool) (v u : Value) (xs : List Int) (ls : List Nat) (w : World) (hT : Tab w) (hS : IntSl w v xs) (hU : NumSl w u ls) :
    Calls Tryd.prog 5 #[.bool b, v, u] w (Ret (.bool true) w) := by
  have BW := hid (Below.refl w.heap.size w)
  have T := hid hT
  clear hT
  have HS := hid hS
  obtain ⟨sa, sc, rfl, _⟩ := hS
  obtain ⟨n, hn⟩ : ∃ n, xs.length = n := ⟨_, rfl⟩
  rw [hn] at HS ⊢
  have HN := hid hn
  have HU := hid hU
  obtain ⟨su, cu, rfl, _, _⟩ := hU
  obtain ⟨m, hm⟩ : ∃ n, ls.length = n := ⟨_, rfl⟩
  rw [hm] at HU ⊢
  have HM := hid hm
  by_cases h6 : 6 < n
  · skip
    go_enter Tryd.func5, Tryd.ntmps5
    go_wp2_with fail
    refine (alive9_any _ T.out).mono ?_
    rintro e v1 ⟨rfl, b9⟩
    replace T := hid (T.out.keep b9)
    replace BW := hid (BW.out.trans (b9.mono BW.out.size))
    clear b9
    go_wp2
    go_ret
    exact ⟨rfl, BW.out⟩
  by_cases h7 : 6 < m
  · skip
    go_enter Tryd.func5, Tryd.ntmps5
    go_wp2_with fail
    refine (alive9_any _ T.out).mono ?_
    rintro e v2 ⟨rfl, b9⟩
    replace T := hid (T.out.keep b9)
    replace BW := hid (BW.out.trans (b9.mono BW.out.size))
    clear b9
    go_wp2
    go_ret
    exact ⟨rfl, BW.out⟩
  have hlx : xs.length < 1000000 := by omega
  have RCC := hid (fun (W : World) (h : IntSl W (.slice sa n sc) xs) => rlcheck_any (.slice sa n sc) xs W h hlx)
  have hp2 := fP_two b
  have hpb := fP_lt b
  have VC := hid (fun (W : World) (h : NumSl W (.slice su m cu) ls) => values_any (fP b) (.slice su m cu) ls W hpb (by omega) h (by omega))
  unfold RetVals at VC
  obtain ⟨vs, hvs⟩ : ∃ vs, ls.map (mulm (fP b) 1) = vs := ⟨_, rfl⟩
  have HLV : Hid (vs.length = m) := hid (by rw [← hvs, List.length_map, hm])
  have HVL : Hid (∀ y ∈ vs, y < fP b) := hid (by intro y hy; rw [← hvs] at hy; obtain ⟨z, _, rfl⟩ := List.mem_map.1 hy; exact mulm_lt _ _ (by omega))
  rw [hvs, hm] at VC
  clear hvs
  by_cases hc : chkx xs = 0
  · skip
    by_cases e : n = m
    · skip
      subst e
      skip
      skip
      · skip
        rw [hc] at RCC
        have HALL := (chkx_zero hc).1
        have hdn : ((n : Int) != (n : Int)) = false := by simp
        have I1 := hid (fun (W : World) (v u : Value) (h : IntSl W v xs) (h2 : NumSl W u (vs.map (frm (fP b)))) => itp_ok b v u xs vs W h h2 (by omega) hc (by rw [HLV.out, hn]))
        have R1 := hid (fun (W : World) (v u : Value) (h : IntSl W v xs) (h2 : NumSl W u vs) => ritp_any b v u xs vs W h h2 HVL.out (by omega) (by rw [HLV.out, hn]) HALL)
        unfold RetE at I1
        unfold RetSl at R1
        rw [hn] at I1 R1
        have HLI : Hid ((itp (fP b) (pts xs) vs n).length = n) := hid (by rw [itp_len (by omega) (pts xs) vs n (by rw [pts_len, hn]; exact Nat.le_refl _), pts_len, hn])
        obtain ⟨ui, hui⟩ : ∃ z, itp (fP b) (pts xs) vs n = z := ⟨_, rfl⟩
        rw [hui] at I1 R1 HLI
        rw [List.length_map, HLI.out] at I1
        have S1 := hid (fun (W : World) (v1 v2 : Value) (h1 : NumSl W v1 (ui.map (frm (fP b)))) (h2 : NumSl W v2 ui) => same9_any (fP b) v1 v2 _ W hpb (by omega) h1 h2 (by rw [HLI.out]; omega))
        clear hui hc hlx hn hm HALL
        go_enter Tryd.func5, Tryd.ntmps5
        go_wp2_with fail
        refine (get9_any b _ T.out).mono ?_
        rintro e v3 ⟨rfl, b9⟩
        replace T := hid (T.out.keep b9)
        replace BW := hid (BW.out.trans (b9.mono BW.out.size))
        clear b9
        go_wp2_with fail
        obtain ⟨v4, hv9⟩ : ∃ v, ((v3.alloc (.cells #[.int .i64 (fID b), .int .u64 (limb (fP b) 0 : Int), .int .u64 (limb (fP b) 1 : Int), .int .u64 (limb (fP b) 2 : Int), .int .u64 (limb (fP b) 3 : Int), .int .u64 (fI b : Int), .int .u64 (limb (fO b) 0 : Int), .int .u64 (limb (fO b) 1 : Int), .int .u64 (limb (fO b) 2 : Int), .int .u64 (limb (fO b) 3 : Int), .int .u64 (limb (fS b) 0 : Int), .int .u64 (limb (fS b) 1 : Int), .int .u64 (limb (fS b) 2 : Int), .int .u64 (limb (fS b) 3 : Int)] 32)).alloc (.cells #[.int .u64 (limb (fP b) 0 : Int), .int .u64 (limb (fP b) 1 : Int), .int .u64 (limb (fP b) 2 : Int), .int .u64 (limb (fP b) 3 : Int)] 29)) = v := ⟨_, rfl⟩
        have hG9 : Below v3.heap.size v3 v4 := by rw [← hv9]; go_grown
        have X_F : Blk v4 (v3.heap.size) 32 [.int .i64 (fID b), .int .u64 (limb (fP b) 0 : Int), .int .u64 (limb (fP b) 1 : Int), .int .u64 (limb (fP b) 2 : Int), .int .u64 (limb (fP b) 3 : Int), .int .u64 (fI b : Int), .int .u64 (limb (fO b) 0 : Int), .int .u64 (limb (fO b) 1 : Int), .int .u64 (limb (fO b) 2 : Int), .int .u64 (limb (fO b) 3 : Int), .int .u64 (limb (fS b) 0 : Int), .int .u64 (limb (fS b) 1 : Int), .int .u64 (limb (fS b) 2 : Int), .int .u64 (limb (fS b) 3 : Int)] := by rw [← hv9]; exact Blk.alloc (Blk.new rfl) _
        have X_P : Blk v4 (v3.heap.size + 1) 29 [.int .u64 (limb (fP b) 0 : Int), .int .u64 (limb (fP b) 1 : Int), .int .u64 (limb (fP b) 2 : Int), .int .u64 (limb (fP b) 3 : Int)] := by rw [← hv9]; exact Blk.new (by simp)
        obtain ⟨bF, hb9⟩ : ∃ k, v3.heap.size = k := ⟨_, rfl⟩
        rw [hb9] at X_F
        rw [hb9] at X_P
        have g_bF : w.heap.size ≤ bF := by rw [← hb9]; exact BW.out.size
        replace T := hid (T.out.keep hG9)
        replace BW := hid (BW.out.trans (hG9.mono BW.out.size))
        clear hG9
        rw [hv9]
        try rw [hb9]
        clear hv9 hb9
        refine (VC.out _ (HU.out.below BW.out)).mono ?_
        rintro e v5 ⟨vv, vx, rfl, ho, ho2, b9⟩
        obtain ⟨ay, cy, rfl, _, _, _⟩ := owns_form ho2
        obtain ⟨av, cv, rfl, _, _, _⟩ := owns_form ho
        have N_v := hid (nums_own (xs := vs) (by rw [HLV.out]; exact ho) (small9 HVL.out))
        have N_c := hid (nums_own (xs := vs.map (frm (fP b))) (by rw [List.length_map, HLV.out]; exact ho2) (small9 (forms9 b _)))
        clear ho ho2
        replace X_F := X_F.keep b9
        replace X_P := X_P.keep b9
        replace T := hid (T.out.keep b9)
        replace BW := hid (BW.out.trans (b9.mono BW.out.size))
        clear b9
        have z_F := X_F.lt
        have c_F0 := X_F.cell (i := 0) rfl
        have c_F1 := X_F.cell (i := 1) rfl
        have c_F2 := X_F.cell (i := 2) rfl
        have c_F3 := X_F.cell (i := 3) rfl
        have c_F4 := X_F.cell (i := 4) rfl
        have c_F5 := X_F.cell (i := 5) rfl
        have c_F6 := X_F.cell (i := 6) rfl
        have c_F7 := X_F.cell (i := 7) rfl
        have c_F8 := X_F.cell (i := 8) rfl
        have c_F9 := X_F.cell (i := 9) rfl
        have c_F10 := X_F.cell (i := 10) rfl
        have c_F11 := X_F.cell (i := 11) rfl
        have c_F12 := X_F.cell (i := 12) rfl
        have c_F13 := X_F.cell (i := 13) rfl
        go_wp2_with fail
        refine (I1.out _ _ _ (HS.out.below BW.out) N_c.out).mono ?_
        rintro e v6 ⟨vi, rfl, ho, b9⟩
        have N_i := hid (nums_own (xs := ui.map (frm (fP b))) (by rw [List.length_map, HLI.out]; exact ho) (small9 (forms9 b _)))
        clear ho
        clear z_F c_F0 c_F1 c_F2 c_F3 c_F4 c_F5 c_F6 c_F7 c_F8 c_F9 c_F10 c_F11 c_F12 c_F13
        replace X_F := X_F.keep b9
        replace X_P := X_P.keep b9
        replace N_v := hid (N_v.out.below b9)
        replace N_c := hid (N_c.out.below b9)
        replace T := hid (T.out.keep b9)
        replace BW := hid (BW.out.trans (b9.mono BW.out.size))
        clear b9
        go_wp2_with fail
        refine (RCC.out _ (HS.out.below BW.out)).mono ?_
        rintro e v7 ⟨rfl, b9⟩
        replace X_F := X_F.keep b9
        replace X_P := X_P.keep b9
        replace N_v := hid (N_v.out.below b9)
        replace N_c := hid (N_c.out.below b9)
        replace N_i := hid (N_i.out.below b9)
        replace T := hid (T.out.keep b9)
        replace BW := hid (BW.out.trans (b9.mono BW.out.size))
        clear b9
        have HSV := hid (HS.out.below BW.out)
        have z_P := X_P.lt
        have c_P0 := X_P.cell (i := 0) rfl
        have c_P1 := X_P.cell (i := 1) rfl
        have c_P2 := X_P.cell (i := 2) rfl
        have c_P3 := X_P.cell (i := 3) rfl
        go_upto_region 11 with (fail)
        go_region_held3 (fun w' => ∀ b o, b < v7.heap.size → w'.cell? ⟨b, o, none⟩ = v7.cell? ⟨b, o, none⟩) ((intro b o h; first | with_reducible exact c3 b o h | with_reducible exact c2 b o h | with_reducible exact c1 b o h | with_reducible exact cell_drew | with_reducible exact cell_drew.trans (cell_alloc h) | (with_reducible refine (cell_alloc (by (try simp); omega)).trans ?_; first | with_reducible exact c3 b o h | with_reducible exact c2 b o h | with_reducible exact c1 b o h | with_reducible exact cell_drew) | with_reducible exact (below_set4 H3.out (by omega) _ _ _ _).cell (p := ⟨b, o, none⟩) h | with_reducible exact (below_set4 H2.out (by omega) _ _ _ _).cell (p := ⟨b, o, none⟩) h | with_reducible exact (below_set4 H1.out (by omega) _ _ _ _).cell (p := ⟨b, o, none⟩) h)) (first | (go_at_call 15; refine (S1.out _ _ _ (N_i.out.below H2.out) hw.out).mono ?_; rintro e ra3 ⟨rfl, b9⟩; have H3 : Hid (Below v7.heap.size v7 ra3) := hid H2.out.trans (b9.mono H2.out.size); clear b9; have c3 := bcell H3.out; have z3 := H3.out.size) | (go_at_call 20; refine (R1.out _ _ _ (HSV.out.below H1.out) (N_v.out.below H1.out)).mono ?_; rintro e ra2 ⟨vr, rfl, hw, b9⟩; have H2 : Hid (Below v7.heap.size v7 ra2) := hid H1.out.trans (b9.mono H1.out.size); have hw := hid hw; clear b9; have c2 := bcell H2.out; have z2 := H2.out.size) | (go_at_call 9; refine (alive9_any v7.drew T.out).mono ?_; rintro e ra1 ⟨rfl, b9⟩; have H1 : Hid (Below v7.heap.size v7 ra1) := hid (Below.drew (Below.refl _ v7)).trans b9; clear b9; have c1 := bcell H1.out; have z1 := H1.out.size))
        have hH9 := H3.out
        clear z_P c_P0 c_P1 c_P2 c_P3
        replace X_F := X_F.keep hH9
        replace X_P := X_P.keep hH9
        replace N_v := hid (N_v.out.below hH9)
        replace N_c := hid (N_c.out.below hH9)
        replace N_i := hid (N_i.out.below hH9)
        replace T := hid (T.out.keep hH9)
        replace BW := hid (BW.out.trans (hH9.mono BW.out.size))
        clear hH9
        clear H1 c1 z1 H2 c2 z2 H3 c3 z3
        go_wp2
        go_ret
        exact ⟨rfl, BW.out⟩
    · skip
      rw [hc] at RCC
      have I1 := hid (fun (W : World) (v u : Value) (h : IntSl W v xs) (h2 : NumSl W u (vs.map (frm (fP b)))) => itp_len9 b v u xs vs W h h2 hlx hc (by rw [HLV.out, hn]; exact e) (by rw [HLV.out]; omega))
      have hdn : ((n : Int) != (m : Int)) = true := by simp; omega
      clear hc hlx hn hm
      go_enter Tryd.func5, Tryd.ntmps5
      go_wp2_with fail
      refine (get9_any b _ T.out).mono ?_
      rintro e v3 ⟨rfl, b9⟩
      replace T := hid (T.out.keep b9)
      replace BW := hid (BW.out.trans (b9.mono BW.out.size))
      clear b9
      go_wp2_with fail
      obtain ⟨v4, hv9⟩ : ∃ v, ((v3.alloc (.cells #[.int .i64 (fID b), .int .u64 (limb (fP b) 0 : Int), .int .u64 (limb (fP b) 1 : Int), .int .u64 (limb (fP b) 2 : Int), .int .u64 (limb (fP b) 3 : Int), .int .u64 (fI b : Int), .int .u64 (limb (fO b) 0 : Int), .int .u64 (limb (fO b) 1 : Int), .int .u64 (limb (fO b) 2 : Int), .int .u64 (limb (fO b) 3 : Int), .int .u64 (limb (fS b) 0 : Int), .int .u64 (limb (fS b) 1 : Int), .int .u64 (limb (fS b) 2 : Int), .int .u64 (limb (fS b) 3 : Int)] 32)).alloc (.cells #[.int .u64 (limb (fP b) 0 : Int), .int .u64 (limb (fP b) 1 : Int), .int .u64 (limb (fP b) 2 : Int), .int .u64 (limb (fP b) 3 : Int)] 29)) = v := ⟨_, rfl⟩
      have hG9 : Below v3.heap.size v3 v4 := by rw [← hv9]; go_grown
      have X_F : Blk v4 (v3.heap.size) 32 [.int .i64 (fID b), .int .u64 (limb (fP b) 0 : Int), .int .u64 (limb (fP b) 1 : Int), .int .u64 (limb (fP b) 2 : Int), .int .u64 (limb (fP b) 3 : Int), .int .u64 (fI b : Int), .int .u64 (limb (fO b) 0 : Int), .int .u64 (limb (fO b) 1 : Int), .int .u64 (limb (fO b) 2 : Int), .int .u64 (limb (fO b) 3 : Int), .int .u64 (limb (fS b) 0 : Int), .int .u64 (limb (fS b) 1 : Int), .int .u64 (limb (fS b) 2 : Int), .int .u64 (limb (fS b) 3 : Int)] := by rw [← hv9]; exact Blk.alloc (Blk.new rfl) _
      have X_P : Blk v4 (v3.heap.size + 1) 29 [.int .u64 (limb (fP b) 0 : Int), .int .u64 (limb (fP b) 1 : Int), .int .u64 (limb (fP b) 2 : Int), .int .u64 (limb (fP b) 3 : Int)] := by rw [← hv9]; exact Blk.new (by simp)
      obtain ⟨bF, hb9⟩ : ∃ k, v3.heap.size = k := ⟨_, rfl⟩
      rw [hb9] at X_F
      rw [hb9] at X_P
      have g_bF : w.heap.size ≤ bF := by rw [← hb9]; exact BW.out.size
      replace T := hid (T.out.keep hG9)
      replace BW := hid (BW.out.trans (hG9.mono BW.out.size))
      clear hG9
      rw [hv9]
      try rw [hb9]
      clear hv9 hb9
      refine (VC.out _ (HU.out.below BW.out)).mono ?_
      rintro e v5 ⟨vv, vx, rfl, ho, ho2, b9⟩
      obtain ⟨ay, cy, rfl, _, _, _⟩ := owns_form ho2
      obtain ⟨av, cv, rfl, _, _, _⟩ := owns_form ho
      have N_v := hid (nums_own (xs := vs) (by rw [HLV.out]; exact ho) (small9 HVL.out))
      have N_c := hid (nums_own (xs := vs.map (frm (fP b))) (by rw [List.length_map, HLV.out]; exact ho2) (small9 (forms9 b _)))
      clear ho ho2
      replace X_F := X_F.keep b9
      replace X_P := X_P.keep b9
      replace T := hid (T.out.keep b9)
      replace BW := hid (BW.out.trans (b9.mono BW.out.size))
      clear b9
      have z_F := X_F.lt
      have c_F0 := X_F.cell (i := 0) rfl
      have c_F1 := X_F.cell (i := 1) rfl
      have c_F2 := X_F.cell (i := 2) rfl
      have c_F3 := X_F.cell (i := 3) rfl
      have c_F4 := X_F.cell (i := 4) rfl
      have c_F5 := X_F.cell (i := 5) rfl
      have c_F6 := X_F.cell (i := 6) rfl
      have c_F7 := X_F.cell (i := 7) rfl
      have c_F8 := X_F.cell (i := 8) rfl
      have c_F9 := X_F.cell (i := 9) rfl
      have c_F10 := X_F.cell (i := 10) rfl
      have c_F11 := X_F.cell (i := 11) rfl
      have c_F12 := X_F.cell (i := 12) rfl
      have c_F13 := X_F.cell (i := 13) rfl
      go_wp2_with fail
      refine (I1.out _ _ _ (HS.out.below BW.out) N_c.out).mono ?_
      rintro e v6 ⟨rfl, b9⟩
      clear z_F c_F0 c_F1 c_F2 c_F3 c_F4 c_F5 c_F6 c_F7 c_F8 c_F9 c_F10 c_F11 c_F12 c_F13
      replace X_F := X_F.keep b9
      replace X_P := X_P.keep b9
      replace N_v := hid (N_v.out.below b9)
      replace N_c := hid (N_c.out.below b9)
      replace T := hid (T.out.keep b9)
      replace BW := hid (BW.out.trans (b9.mono BW.out.size))
      clear b9
      go_wp2_with fail
      refine (RCC.out _ (HS.out.below BW.out)).mono ?_
      rintro e v7 ⟨rfl, b9⟩
      replace X_F := X_F.keep b9
      replace X_P := X_P.keep b9
      replace N_v := hid (N_v.out.below b9)
      replace N_c := hid (N_c.out.below b9)
      replace T := hid (T.out.keep b9)
      replace BW := hid (BW.out.trans (b9.mono BW.out.size))
      clear b9
      go_wp2_with fail
      refine (alive9_any _ T.out).mono ?_
      rintro e v8 ⟨rfl, b9⟩
      replace X_F := X_F.keep b9
      replace X_P := X_P.keep b9
      replace N_v := hid (N_v.out.below b9)
      replace N_c := hid (N_c.out.below b9)
      replace T := hid (T.out.keep b9)
      replace BW := hid (BW.out.trans (b9.mono BW.out.size))
      clear b9
      go_wp2
      go_ret
      exact ⟨rfl, BW.out⟩
  · skip
    have I1 := hid (fun (W : World) (v u : Value) (h : IntSl W v xs) (h2 : NumSl W u (vs.map (frm (fP b)))) => itp_bad b v u xs vs W h h2 hlx hc)
    obtain ⟨c, hc9⟩ : ∃ c, chkx xs = c := ⟨_, rfl⟩
    rw [hc9] at hc I1 RCC
    have hd : (c != 0) = true := by simp [hc]
    have hd2 : (c == c) = true := by simp
    have hd3 : (c == 0) = false := by simp [hc]
    clear hc hc9 hlx hn hm
    go_enter Tryd.func5, Tryd.ntmps5
    go_wp2_with fail
    refine (get9_any b _ T.out).mono ?_
    rintro e v3 ⟨rfl, b9⟩
    replace T := hid (T.out.keep b9)
    replace BW := hid (BW.out.trans (b9.mono BW.out.size))
    clear b9
    go_wp2_with fail
    obtain ⟨v4, hv9⟩ : ∃ v, ((v3.alloc (.cells #[.int .i64 (fID b), .int .u64 (limb (fP b) 0 : Int), .int .u64 (limb (fP b) 1 : Int), .int .u64 (limb (fP b) 2 : Int), .int .u64 (limb (fP b) 3 : Int), .int .u64 (fI b : Int), .int .u64 (limb (fO b) 0 : Int), .int .u64 (limb (fO b) 1 : Int), .int .u64 (limb (fO b) 2 : Int), .int .u64 (limb (fO b) 3 : Int), .int .u64 (limb (fS b) 0 : Int), .int .u64 (limb (fS b) 1 : Int), .int .u64 (limb (fS b) 2 : Int), .int .u64 (limb (fS b) 3 : Int)] 32)).alloc (.cells #[.int .u64 (limb (fP b) 0 : Int), .int .u64 (limb (fP b) 1 : Int), .int .u64 (limb (fP b) 2 : Int), .int .u64 (limb (fP b) 3 : Int)] 29)) = v := ⟨_, rfl⟩
    have hG9 : Below v3.heap.size v3 v4 := by rw [← hv9]; go_grown
    have X_F : Blk v4 (v3.heap.size) 32 [.int .i64 (fID b), .int .u64 (limb (fP b) 0 : Int), .int .u64 (limb (fP b) 1 : Int), .int .u64 (limb (fP b) 2 : Int), .int .u64 (limb (fP b) 3 : Int), .int .u64 (fI b : Int), .int .u64 (limb (fO b) 0 : Int), .int .u64 (limb (fO b) 1 : Int), .int .u64 (limb (fO b) 2 : Int), .int .u64 (limb (fO b) 3 : Int), .int .u64 (limb (fS b) 0 : Int), .int .u64 (limb (fS b) 1 : Int), .int .u64 (limb (fS b) 2 : Int), .int .u64 (limb (fS b) 3 : Int)] := by rw [← hv9]; exact Blk.alloc (Blk.new rfl) _
    have X_P : Blk v4 (v3.heap.size + 1) 29 [.int .u64 (limb (fP b) 0 : Int), .int .u64 (limb (fP b) 1 : Int), .int .u64 (limb (fP b) 2 : Int), .int .u64 (limb (fP b) 3 : Int)] := by rw [← hv9]; exact Blk.new (by simp)
    obtain ⟨bF, hb9⟩ : ∃ k, v3.heap.size = k := ⟨_, rfl⟩
    rw [hb9] at X_F
    rw [hb9] at X_P
    have g_bF : w.heap.size ≤ bF := by rw [← hb9]; exact BW.out.size
    replace T := hid (T.out.keep hG9)
    replace BW := hid (BW.out.trans (hG9.mono BW.out.size))
    clear hG9
    rw [hv9]
    try rw [hb9]
    clear hv9 hb9
    refine (VC.out _ (HU.out.below BW.out)).mono ?_
    rintro e v5 ⟨vv, vx, rfl, ho, ho2, b9⟩
    obtain ⟨ay, cy, rfl, _, _, _⟩ := owns_form ho2
    obtain ⟨av, cv, rfl, _, _, _⟩ := owns_form ho
    have N_v := hid (nums_own (xs := vs) (by rw [HLV.out]; exact ho) (small9 HVL.out))
    have N_c := hid (nums_own (xs := vs.map (frm (fP b))) (by rw [List.length_map, HLV.out]; exact ho2) (small9 (forms9 b _)))
    clear ho ho2
    replace X_F := X_F.keep b9
    replace X_P := X_P.keep b9
    replace T := hid (T.out.keep b9)
    replace BW := hid (BW.out.trans (b9.mono BW.out.size))
    clear b9
    have z_F := X_F.lt
    have c_F0 := X_F.cell (i := 0) rfl
    have c_F1 := X_F.cell (i := 1) rfl
    have c_F2 := X_F.cell (i := 2) rfl
    have c_F3 := X_F.cell (i := 3) rfl
    have c_F4 := X_F.cell (i := 4) rfl
    have c_F5 := X_F.cell (i := 5) rfl
    have c_F6 := X_F.cell (i := 6) rfl
    have c_F7 := X_F.cell (i := 7) rfl
    have c_F8 := X_F.cell (i := 8) rfl
    have c_F9 := X_F.cell (i := 9) rfl
    have c_F10 := X_F.cell (i := 10) rfl
    have c_F11 := X_F.cell (i := 11) rfl
    have c_F12 := X_F.cell (i := 12) rfl
    have c_F13 := X_F.cell (i := 13) rfl
    go_wp2_with fail
    refine (I1.out _ _ _ (HS.out.below BW.out) N_c.out).mono ?_
    rintro e v6 ⟨rfl, b9⟩
    clear z_F c_F0 c_F1 c_F2 c_F3 c_F4 c_F5 c_F6 c_F7 c_F8 c_F9 c_F10 c_F11 c_F12 c_F13
    replace X_F := X_F.keep b9
    replace X_P := X_P.keep b9
    replace N_v := hid (N_v.out.below b9)
    replace N_c := hid (N_c.out.below b9)
    replace T := hid (T.out.keep b9)
    replace BW := hid (BW.out.trans (b9.mono BW.out.size))
    clear b9
    go_wp2_with fail
    refine (RCC.out _ (HS.out.below BW.out)).mono ?_
    rintro e v7 ⟨rfl, b9⟩
    replace X_F := X_F.keep b9
    replace X_P := X_P.keep b9
    replace N_v := hid (N_v.out.below b9)
    replace N_c := hid (N_c.out.below b9)
    replace T := hid (T.out.keep b9)
    replace BW := hid (BW.out.trans (b9.mono BW.out.size))
    clear b9
    go_wp2_with fail
    refine (alive9_any _ T.out).mono ?_
    rintro e v8 ⟨rfl, b9⟩
    replace X_F := X_F.keep b9
    replace X_P := X_P.keep b9
    replace N_v := hid (N_v.out.below b9)
    replace N_c := hid (N_c.out.below b9)
    replace T := hid (T.out.keep b9)
    replace BW := hid (BW.out.trans (b9.mono BW.out.size))
    clear b9
    go_wp2
    go_ret
    exact ⟨rfl, BW.out⟩
end Go.Proofs.YthdjjogdjabflaaDoor
