/-
  LagrangeDots: for every field and two lists of numbers, Dot returns the sum of the products, or ErrLength.
-/
import Derived.Test.YthdjjogdjabflaaDoorAlive09
import Derived.Test.YthdjjogdjabflaaDoorRZero9
import Derived.Test.YthdjjogdjabflaaDoorRItp9
import Derived.Test.YthdjjogdjabflaaDoorDot9
import Derived.Deep.RegionHeld3
namespace Go.Proofs.YthdjjogdjabflaaDoor
open Go.RowKit

attribute [local go_sem] Oper.semAt_some
theorem eq9_el (a b c d : Int) (w : World) : (Op.equalIn 10000 30 (.agg #[.int .u64 a, .int .u64 b, .int .u64 c, .int .u64 d]) (.agg #[.int .u64 a, .int .u64 b, .int .u64 c, .int .u64 d])).run Tryd.prog w = .ok true w := by
  rw [run_eq_elem]; simp
set_option maxRecDepth 100000 in
set_option maxHeartbeats 4000000 in
theorem dots9_law (b : Bool) (v u : Value) (ls ms : List Nat) (w : World) (hT : Tab w) (hS : NumSl w v ls) (hU : NumSl w u ms) :
    Calls Tryd.prog 6 #[.bool b, v, u] w (Ret (.bool true) w) := by
  have BW := hid (Below.refl w.heap.size w)
  have T := hid hT
  clear hT
  have HS := hid hS
  have HU := hid hU
  obtain ⟨sa, sc, rfl, _, _⟩ := hS
  obtain ⟨su, cu, rfl, _, _⟩ := hU
  obtain ⟨n, hn⟩ : ∃ n, ls.length = n := ⟨_, rfl⟩
  obtain ⟨m, hm⟩ : ∃ n, ms.length = n := ⟨_, rfl⟩
  rw [hn] at HS ⊢
  rw [hm] at HU ⊢
  by_cases h6 : 30 < n
  · skip
    go_enter Tryd.func6, Tryd.ntmps6
    go_wp2_with fail
    refine (alive9_any _ T.out).mono ?_
    rintro e v1 ⟨rfl, b9⟩
    replace T := hid (T.out.keep b9)
    replace BW := hid (BW.out.trans (b9.mono BW.out.size))
    clear b9
    go_wp2
    go_ret
    exact ⟨rfl, BW.out⟩
  by_cases h7 : 30 < m
  · skip
    go_enter Tryd.func6, Tryd.ntmps6
    go_wp2_with fail
    refine (alive9_any _ T.out).mono ?_
    rintro e v2 ⟨rfl, b9⟩
    replace T := hid (T.out.keep b9)
    replace BW := hid (BW.out.trans (b9.mono BW.out.size))
    clear b9
    go_wp2
    go_ret
    exact ⟨rfl, BW.out⟩
  have hp2 := fP_two b
  have hpb := fP_lt b
  have VC1 := hid (fun (W : World) (h : NumSl W (.slice sa n sc) ls) => values_any (fP b) (.slice sa n sc) ls W hpb (by omega) h (by omega))
  unfold RetVals at VC1
  obtain ⟨us, hus⟩ : ∃ z, ls.map (mulm (fP b) 1) = z := ⟨_, rfl⟩
  have HL1 : Hid (us.length = n) := hid (by rw [← hus, List.length_map, hn])
  have HV1 : Hid (∀ y ∈ us, y < fP b) := hid (by intro y hy; rw [← hus] at hy; obtain ⟨z, _, rfl⟩ := List.mem_map.1 hy; exact mulm_lt _ _ (by omega))
  rw [hus, hn] at VC1
  clear hus
  have VC2 := hid (fun (W : World) (h : NumSl W (.slice su m cu) ms) => values_any (fP b) (.slice su m cu) ms W hpb (by omega) h (by omega))
  unfold RetVals at VC2
  obtain ⟨ws, hws⟩ : ∃ z, ms.map (mulm (fP b) 1) = z := ⟨_, rfl⟩
  have HL2 : Hid (ws.length = m) := hid (by rw [← hws, List.length_map, hm])
  have HV2 : Hid (∀ y ∈ ws, y < fP b) := hid (by intro y hy; rw [← hws] at hy; obtain ⟨z, _, rfl⟩ := List.mem_map.1 hy; exact mulm_lt _ _ (by omega))
  rw [hws, hm] at VC2
  clear hws
  clear hn hm
  by_cases e : n = m
  · skip
    subst e
    have hdn : ((n : Int) != (n : Int)) = false := by simp
    have D1 := hid (fun (W : World) (v u : Value) (h : NumSl W v (us.map (frm (fP b)))) (h2 : NumSl W u (ws.map (frm (fP b)))) => dot_ok b v u us ws W h h2 (by rw [HL1.out]; omega) (by rw [HL1.out, HL2.out]))
    rw [HL1.out] at D1
    have FC9 := hid (fun W : World => form9_any (fP b) (dotk (fP b) (fun t => us.getD t 0) (fun t => ws.getD t 0) n) hpb (by omega) (Nat.lt_trans (dotk_lt (by omega) _ _ _) hpb) W)
    obtain ⟨x, hx⟩ : ∃ z, frm (fP b) (dotk (fP b) (fun t => us.getD t 0) (fun t => ws.getD t 0) n) = z := ⟨_, rfl⟩
    rw [hx] at D1 FC9
    clear hx
    have heq := fun W : World => eq9_el (limb x 0 : Int) (limb x 1 : Int) (limb x 2 : Int) (limb x 3 : Int) W
    go_enter Tryd.func6, Tryd.ntmps6
    go_wp2_with fail
    refine (get9_any b _ T.out).mono ?_
    rintro e v3 ⟨rfl, b9⟩
    replace T := hid (T.out.keep b9)
    replace BW := hid (BW.out.trans (b9.mono BW.out.size))
    clear b9
    go_wp2_with fail
    obtain ⟨v4, hv9⟩ : ∃ v, ((v3.alloc (.cells #[.int .i64 (fID b), .int .u64 (limb (fP b) 0 : Int), .int .u64 (limb (fP b) 1 : Int), .int .u64 (limb (fP b) 2 : Int), .int .u64 (limb (fP b) 3 : Int), .int .u64 (fI b : Int), .int .u64 (limb (fO b) 0 : Int), .int .u64 (limb (fO b) 1 : Int), .int .u64 (limb (fO b) 2 : Int), .int .u64 (limb (fO b) 3 : Int), .int .u64 (limb (fS b) 0 : Int), .int .u64 (limb (fS b) 1 : Int), .int .u64 (limb (fS b) 2 : Int), .int .u64 (limb (fS b) 3 : Int)] 32)).alloc (.cells #[.int .u64 (limb (fP b) 0 : Int), .int .u64 (limb (fP b) 1 : Int), .int .u64 (limb (fP b) 2 : Int), .int .u64 (limb (fP b) 3 : Int)] 29)) = v := ⟨_, rfl⟩
    have hG9 : Below v3.heap.size v3 v4 := by rw [← hv9]; go_grown
    have X_F : Blk v4 (v3.heap.size) 32 [.int .i64 (fID b), .int .u64 (limb (fP b) 0 : Int), .int .u64 (limb (fP b) 1 : Int), .int .u64 (limb (fP b) 2 : Int), .int .u64 (limb (fP b) 3 : Int), .int .u64 (fI b : Int), .int .u64 (limb (fO b) 0 : Int), .int .u64 (limb (fO b) 1 : Int), .int .u64 (limb (fO b) 2 : Int), .int .u64 (limb (fO b) 3 : Int), .int .u64 (limb (fS b) 0 : Int), .int .u64 (limb (fS b) 1 : Int), .int .u64 (limb (fS b) 2 : Int), .int .u64 (limb (fS b) 3 : Int)] := by rw [← hv9]; exact Blk.alloc (Blk.new rfl) _
    have X_P : Blk v4 (v3.heap.size + 1) 29 [.int .u64 (limb (fP b) 0 : Int), .int .u64 (limb (fP b) 1 : Int), .int .u64 (limb (fP b) 2 : Int), .int .u64 (limb (fP b) 3 : Int)] := by rw [← hv9]; exact Blk.new (by simp)
    obtain ⟨bF, hb9⟩ : ∃ k, v3.heap.size = k := ⟨_, rfl⟩
    rw [hb9] at X_F
    rw [hb9] at X_P
    have g_bF : w.heap.size ≤ bF := by rw [← hb9]; exact BW.out.size
    replace T := hid (T.out.keep hG9)
    replace BW := hid (BW.out.trans (hG9.mono BW.out.size))
    clear hG9
    rw [hv9]
    try rw [hb9]
    clear hv9 hb9
    refine (VC1.out _ (HS.out.below BW.out)).mono ?_
    rintro e v5 ⟨vv, vx, rfl, ho, ho2, b9⟩
    obtain ⟨ac1, cc1, rfl, _, _, _⟩ := owns_form ho2
    obtain ⟨av1, cv1, rfl, _, _, _⟩ := owns_form ho
    have N_v1 := hid (nums_own (xs := us) (by rw [HL1.out]; exact ho) (small9 HV1.out))
    have N_c1 := hid (nums_own (xs := us.map (frm (fP b))) (by rw [List.length_map, HL1.out]; exact ho2) (small9 (forms9 b _)))
    clear ho ho2
    replace X_F := X_F.keep b9
    replace X_P := X_P.keep b9
    replace T := hid (T.out.keep b9)
    replace BW := hid (BW.out.trans (b9.mono BW.out.size))
    clear b9
    have z_P := X_P.lt
    have c_P0 := X_P.cell (i := 0) rfl
    have c_P1 := X_P.cell (i := 1) rfl
    have c_P2 := X_P.cell (i := 2) rfl
    have c_P3 := X_P.cell (i := 3) rfl
    go_wp2_with fail
    clear z_P c_P0 c_P1 c_P2 c_P3
    refine (VC2.out _ (HU.out.below BW.out)).mono ?_
    rintro e v6 ⟨vv, vx, rfl, ho, ho2, b9⟩
    obtain ⟨ac2, cc2, rfl, _, _, _⟩ := owns_form ho2
    obtain ⟨av2, cv2, rfl, _, _, _⟩ := owns_form ho
    have N_v2 := hid (nums_own (xs := ws) (by rw [HL2.out]; exact ho) (small9 HV2.out))
    have N_c2 := hid (nums_own (xs := ws.map (frm (fP b))) (by rw [List.length_map, HL2.out]; exact ho2) (small9 (forms9 b _)))
    clear ho ho2
    replace X_F := X_F.keep b9
    replace X_P := X_P.keep b9
    replace N_v1 := hid (N_v1.out.below b9)
    replace N_c1 := hid (N_c1.out.below b9)
    replace T := hid (T.out.keep b9)
    replace BW := hid (BW.out.trans (b9.mono BW.out.size))
    clear b9
    have z_F := X_F.lt
    have c_F0 := X_F.cell (i := 0) rfl
    have c_F1 := X_F.cell (i := 1) rfl
    have c_F2 := X_F.cell (i := 2) rfl
    have c_F3 := X_F.cell (i := 3) rfl
    have c_F4 := X_F.cell (i := 4) rfl
    have c_F5 := X_F.cell (i := 5) rfl
    have c_F6 := X_F.cell (i := 6) rfl
    have c_F7 := X_F.cell (i := 7) rfl
    have c_F8 := X_F.cell (i := 8) rfl
    have c_F9 := X_F.cell (i := 9) rfl
    have c_F10 := X_F.cell (i := 10) rfl
    have c_F11 := X_F.cell (i := 11) rfl
    have c_F12 := X_F.cell (i := 12) rfl
    have c_F13 := X_F.cell (i := 13) rfl
    go_wp2_with fail
    refine (D1.out _ _ _ N_c1.out N_c2.out).mono ?_
    rintro e v7 ⟨rfl, b9⟩
    clear z_F c_F0 c_F1 c_F2 c_F3 c_F4 c_F5 c_F6 c_F7 c_F8 c_F9 c_F10 c_F11 c_F12 c_F13
    replace X_F := X_F.keep b9
    replace X_P := X_P.keep b9
    replace N_v1 := hid (N_v1.out.below b9)
    replace N_c1 := hid (N_c1.out.below b9)
    replace N_v2 := hid (N_v2.out.below b9)
    replace N_c2 := hid (N_c2.out.below b9)
    replace T := hid (T.out.keep b9)
    replace BW := hid (BW.out.trans (b9.mono BW.out.size))
    clear b9
    clear N_c1 N_c2
    go_upto_region 9 with (fail)
    obtain ⟨v8, hv9⟩ : ∃ v, (v7.alloc (.cells #[.int .u64 (limb x 0 : Int), .int .u64 (limb x 1 : Int), .int .u64 (limb x 2 : Int), .int .u64 (limb x 3 : Int)] 30)) = v := ⟨_, rfl⟩
    have hG9 : Below v7.heap.size v7 v8 := by rw [← hv9]; go_grown
    have X_X : Blk v8 (v7.heap.size) 30 [.int .u64 (limb x 0 : Int), .int .u64 (limb x 1 : Int), .int .u64 (limb x 2 : Int), .int .u64 (limb x 3 : Int)] := by rw [← hv9]; exact Blk.new rfl
    obtain ⟨bX, hb9⟩ : ∃ k, v7.heap.size = k := ⟨_, rfl⟩
    rw [hb9] at X_X
    have g_bX : w.heap.size ≤ bX := by rw [← hb9]; exact BW.out.size
    have q_F_bX : bF < bX := by rw [← hb9]; exact X_F.lt
    have q_P_bX : bF + 1 < bX := by rw [← hb9]; exact X_P.lt
    replace X_F := X_F.keep hG9
    replace X_P := X_P.keep hG9
    replace N_v1 := hid (N_v1.out.below hG9)
    replace N_v2 := hid (N_v2.out.below hG9)
    replace T := hid (T.out.keep hG9)
    replace BW := hid (BW.out.trans (hG9.mono BW.out.size))
    clear hG9
    rw [hv9]
    try rw [hb9]
    clear hv9 hb9
    have BW0 := BW
    have T0 := T
    have NV1 := N_v1
    have NV2 := N_v2
    clear T N_v1 N_v2 X_F
    replace BW := hid (Below.refl v8.heap.size v8)
    go_wp2
    obtain ⟨v9, hv9⟩ : ∃ v, (v8.alloc (.cells #[.int .u64 0, .int .u64 0, .int .u64 0, .int .u64 0] 29)) = v := ⟨_, rfl⟩
    have hG9 : Below v8.heap.size v8 v9 := by rw [← hv9]; go_grown
    have X_S : Blk v9 (v8.heap.size) 29 [.int .u64 0, .int .u64 0, .int .u64 0, .int .u64 0] := by rw [← hv9]; exact Blk.new rfl
    obtain ⟨bS, hb9⟩ : ∃ k, v8.heap.size = k := ⟨_, rfl⟩
    rw [hb9] at X_S
    have g_bS : v8.heap.size ≤ bS := by rw [← hb9]; exact BW.out.size
    have q_P_bS : bF + 1 < bS := by rw [← hb9]; exact X_P.lt
    have q_X_bS : bX < bS := by rw [← hb9]; exact X_X.lt
    replace X_P := X_P.keep hG9
    replace X_X := X_X.keep hG9
    replace BW := hid (BW.out.trans (hG9.mono BW.out.size))
    clear hG9
    rw [hv9]
    try rw [hb9]
    clear hv9 hb9
    have X_S0 : Blk v9 (bS) 29 [.int .u64 (limb (dotk (fP b) (fun t => us.getD t 0) (fun t => ws.getD t 0) 0) 0 : Int), .int .u64 (limb (dotk (fP b) (fun t => us.getD t 0) (fun t => ws.getD t 0) 0) 1 : Int), .int .u64 (limb (dotk (fP b) (fun t => us.getD t 0) (fun t => ws.getD t 0) 0) 2 : Int), .int .u64 (limb (dotk (fP b) (fun t => us.getD t 0) (fun t => ws.getD t 0) 0) 3 : Int)] := blk_zero9 X_S (show dotk (fP b) (fun t => us.getD t 0) (fun t => ws.getD t 0) 0 = 0 from rfl)
    go_loopw [67] (fun ix wr => ∃ k : Nat, k ≤ n ∧ ix = .int .i64 (k : Int) ∧ Blk wr (bF + 1) 29 [.int .u64 (limb (fP b) 0 : Int), .int .u64 (limb (fP b) 1 : Int), .int .u64 (limb (fP b) 2 : Int), .int .u64 (limb (fP b) 3 : Int)] ∧ Blk wr (bX) 30 [.int .u64 (limb x 0 : Int), .int .u64 (limb x 1 : Int), .int .u64 (limb x 2 : Int), .int .u64 (limb x 3 : Int)] ∧ Blk wr (bS) 29 [.int .u64 (limb (dotk (fP b) (fun t => us.getD t 0) (fun t => ws.getD t 0) k) 0 : Int), .int .u64 (limb (dotk (fP b) (fun t => us.getD t 0) (fun t => ws.getD t 0) k) 1 : Int), .int .u64 (limb (dotk (fP b) (fun t => us.getD t 0) (fun t => ws.getD t 0) k) 2 : Int), .int .u64 (limb (dotk (fP b) (fun t => us.getD t 0) (fun t => ws.getD t 0) k) 3 : Int)] ∧ Below v8.heap.size v8 wr) (fun ix _ => n - (intOf ix).toNat)
    case atStart => exact ⟨0, Nat.zero_le _, rfl, X_P, X_X, X_S0, BW.out⟩
    case round =>
      clear X_P X_X X_S BW
      obtain ⟨k, hk_k, rfl, X_P, X_X, X_S, b9⟩ := hrel
      obtain ⟨v10, hv9⟩ : ∃ v, v = wr := ⟨_, rfl⟩
      subst hv9
      have BW := hid b9
      clear b9
      by_cases hlt : k < n
      · skip
        obtain ⟨x1, hx⟩ : ∃ x, us[k]? = some x := ⟨us[k]'(by rw [HL1.out]; exact hlt), List.getElem?_eq_getElem _⟩
        obtain ⟨y1, hy⟩ : ∃ x, ws[k]? = some x := ⟨ws[k]'(by rw [HL2.out]; exact hlt), List.getElem?_eq_getElem _⟩
        obtain ⟨ga, oa, rfl, za, d0, d1, d2, d3⟩ := (NV1.out.below BW.out).at4 hx
        obtain ⟨gb, ob, rfl, zb, q0, q1, q2, q3⟩ := (NV2.out.below BW.out).at4 hy
        have hk0 : (0 : Int) ≤ (k : Int) := by omega
        have hkn : (k : Int) < (n : Int) := by omega
        have M1 := hid (fun W : World => rmul_any (fP b) x1 y1 hpb (HV1.out x1 (List.mem_of_getElem? hx)) (Nat.lt_trans (HV2.out y1 (List.mem_of_getElem? hy)) hpb) W)
        have M2 := hid (fun W : World => radd_any (fP b) (dotk (fP b) (fun t => us.getD t 0) (fun t => ws.getD t 0) k) (mulm (fP b) x1 y1) hpb (dotk_lt (by omega) _ _ _) (mulm_lt _ _ (by omega)) W)
        have ED : addm (fP b) (dotk (fP b) (fun t => us.getD t 0) (fun t => ws.getD t 0) k) (mulm (fP b) x1 y1) = dotk (fP b) (fun t => us.getD t 0) (fun t => ws.getD t 0) (k + 1) := by show _ = addm _ _ (mulm _ (us.getD k 0) (ws.getD k 0)); rw [getD_some hx, getD_some hy]
        rw [ED] at M2
        clear ED hx hy
        obtain ⟨mf, hmf⟩ : ∃ z, mulm (fP b) x1 y1 = z := ⟨_, rfl⟩
        rw [hmf] at M1 M2
        clear hmf
        obtain ⟨dk, hdk⟩ : ∃ z, dotk (fP b) (fun t => us.getD t 0) (fun t => ws.getD t 0) k = z := ⟨_, rfl⟩
        rw [hdk] at M2 X_S
        clear hdk
        obtain ⟨dn, hdn9⟩ : ∃ z, dotk (fP b) (fun t => us.getD t 0) (fun t => ws.getD t 0) (k + 1) = z := ⟨_, rfl⟩
        rw [hdn9] at M2
        have HDN := hid hdn9
        clear hdn9
        have z_P := X_P.lt
        have c_P0 := X_P.cell (i := 0) rfl
        have c_P1 := X_P.cell (i := 1) rfl
        have c_P2 := X_P.cell (i := 2) rfl
        have c_P3 := X_P.cell (i := 3) rfl
        have z_S := X_S.lt
        have c_S0 := X_S.cell (i := 0) rfl
        have c_S1 := X_S.cell (i := 1) rfl
        have c_S2 := X_S.cell (i := 2) rfl
        have c_S3 := X_S.cell (i := 3) rfl
        go_wp2_with fail
        refine wp_region_soft (C := fun W' => Below v10.heap.size v10 W') 13 (by kernel_rfl) (by kernel_rfl) ((Below.refl _ _).drew) ?_
        simp only [List.take_succ_cons, List.take_zero, List.drop_succ_cons, List.drop_zero]
        refine wpQuiet_step (fun K hK => ?_)
        rw [if_pos (by rfl)]
        refine ⟨vec (fP b), fun W' hW => ?_, hK _ ?_⟩
        · have e_0 := (hW.cell (p := ⟨bF + 1, 0, none⟩) z_P).trans c_P0
          have e_1 := (hW.cell (p := ⟨bF + 1, 1, none⟩) z_P).trans c_P1
          have e_2 := (hW.cell (p := ⟨bF + 1, 2, none⟩) z_P).trans c_P2
          have e_3 := (hW.cell (p := ⟨bF + 1, 3, none⟩) z_P).trans c_P3
          go_simp
        clear hK K
        simp only [Act.put, List.setIfInBounds_toArray, List.set_cons_zero, List.set_cons_succ]
        refine wpQuiet_step (fun K hK => ?_)
        rw [if_pos (by rfl)]
        refine ⟨vec dk, fun W' hW => ?_, hK _ ?_⟩
        · have e_0 := (hW.cell (p := ⟨bS, 0, none⟩) z_S).trans c_S0
          have e_1 := (hW.cell (p := ⟨bS, 1, none⟩) z_S).trans c_S1
          have e_2 := (hW.cell (p := ⟨bS, 2, none⟩) z_S).trans c_S2
          have e_3 := (hW.cell (p := ⟨bS, 3, none⟩) z_S).trans c_S3
          go_simp
        clear hK K
        simp only [Act.put, List.setIfInBounds_toArray, List.set_cons_zero, List.set_cons_succ]
        refine wpQuiet_step (fun K hK => ?_)
        rw [if_pos (by rfl)]
        refine ⟨vec (fP b), fun W' hW => ?_, hK _ ?_⟩
        · have e_0 := (hW.cell (p := ⟨bF + 1, 0, none⟩) z_P).trans c_P0
          have e_1 := (hW.cell (p := ⟨bF + 1, 1, none⟩) z_P).trans c_P1
          have e_2 := (hW.cell (p := ⟨bF + 1, 2, none⟩) z_P).trans c_P2
          have e_3 := (hW.cell (p := ⟨bF + 1, 3, none⟩) z_P).trans c_P3
          go_simp
        clear hK K
        simp only [Act.put, List.setIfInBounds_toArray, List.set_cons_zero, List.set_cons_succ]
        refine wpQuiet_step (fun K hK => ?_)
        rw [if_pos (by rfl)]
        refine ⟨.slice (some ⟨ga, oa, none⟩) n cv1, fun W' hW => ?_, hK _ ?_⟩
        · go_simp
        clear hK K
        simp only [Act.put, List.setIfInBounds_toArray, List.set_cons_zero, List.set_cons_succ]
        refine wpQuiet_step (fun K hK => ?_)
        rw [if_pos (by rfl)]
        refine ⟨.int .i64 (k : Int), fun W' hW => ?_, hK _ ?_⟩
        · go_simp
        clear hK K
        simp only [Act.put, List.setIfInBounds_toArray, List.set_cons_zero, List.set_cons_succ]
        refine wpQuiet_step (fun K hK => ?_)
        rw [if_pos (by rfl)]
        refine ⟨.pointer (some ⟨ga, oa + k * 4, none⟩), fun W' hW => ?_, hK _ ?_⟩
        · go_simp
        clear hK K
        simp only [Act.put, List.setIfInBounds_toArray, List.set_cons_zero, List.set_cons_succ]
        refine wpQuiet_step (fun K hK => ?_)
        rw [if_pos (by rfl)]
        refine ⟨vec x1, fun W' hW => ?_, hK _ ?_⟩
        · have e_0 := (hW.cell (p := ⟨ga, oa + k * 4, none⟩) za).trans d0
          have e_1 := (hW.cell (p := ⟨ga, oa + k * 4 + 1, none⟩) za).trans d1
          have e_2 := (hW.cell (p := ⟨ga, oa + k * 4 + 2, none⟩) za).trans d2
          have e_3 := (hW.cell (p := ⟨ga, oa + k * 4 + 3, none⟩) za).trans d3
          go_simp
        clear hK K
        simp only [Act.put, List.setIfInBounds_toArray, List.set_cons_zero, List.set_cons_succ]
        refine wpQuiet_step (fun K hK => ?_)
        rw [if_pos (by rfl)]
        refine ⟨.slice (some ⟨gb, ob, none⟩) n cv2, fun W' hW => ?_, hK _ ?_⟩
        · go_simp
        clear hK K
        simp only [Act.put, List.setIfInBounds_toArray, List.set_cons_zero, List.set_cons_succ]
        refine wpQuiet_step (fun K hK => ?_)
        rw [if_pos (by rfl)]
        refine ⟨.int .i64 (k : Int), fun W' hW => ?_, hK _ ?_⟩
        · go_simp
        clear hK K
        simp only [Act.put, List.setIfInBounds_toArray, List.set_cons_zero, List.set_cons_succ]
        refine wpQuiet_step (fun K hK => ?_)
        rw [if_pos (by rfl)]
        refine ⟨.pointer (some ⟨gb, ob + k * 4, none⟩), fun W' hW => ?_, hK _ ?_⟩
        · go_simp
        clear hK K
        simp only [Act.put, List.setIfInBounds_toArray, List.set_cons_zero, List.set_cons_succ]
        refine wpQuiet_step (fun K hK => ?_)
        rw [if_pos (by rfl)]
        refine ⟨vec y1, fun W' hW => ?_, hK _ ?_⟩
        · have e_0 := (hW.cell (p := ⟨gb, ob + k * 4, none⟩) zb).trans q0
          have e_1 := (hW.cell (p := ⟨gb, ob + k * 4 + 1, none⟩) zb).trans q1
          have e_2 := (hW.cell (p := ⟨gb, ob + k * 4 + 2, none⟩) zb).trans q2
          have e_3 := (hW.cell (p := ⟨gb, ob + k * 4 + 3, none⟩) zb).trans q3
          go_simp
        clear hK K
        simp only [Act.put, List.setIfInBounds_toArray, List.set_cons_zero, List.set_cons_succ]
        refine wpQuiet_step (fun K hK => ?_)
        rw [if_pos (by rfl)]
        refine ⟨vec mf, fun W' hW => ?_, hK _ ?_⟩
        · go_simp
          refine (M1.out _).mono ?_
          rintro e w' ⟨rfl, b⟩
          exact ⟨rfl, hW.trans (b.mono hW.size)⟩
        clear hK K
        simp only [Act.put, List.setIfInBounds_toArray, List.set_cons_zero, List.set_cons_succ]
        refine wpQuiet_step (fun K hK => ?_)
        rw [if_pos (by rfl)]
        refine ⟨vec dn, fun W' hW => ?_, hK _ ?_⟩
        · go_simp
          refine (M2.out _).mono ?_
          rintro e w' ⟨rfl, b⟩
          exact ⟨rfl, hW.trans (b.mono hW.size)⟩
        clear hK K
        simp only [Act.put, List.setIfInBounds_toArray, List.set_cons_zero, List.set_cons_succ]
        refine wpQuiet_nil ?_
        intro ws0 hW9
        clear z_P c_P0 c_P1 c_P2 c_P3 z_S c_S0 c_S1 c_S2 c_S3
        replace X_P := X_P.keep hW9
        replace X_X := X_X.keep hW9
        replace X_S := X_S.keep hW9
        replace BW := hid (BW.out.trans (hW9.mono BW.out.size))
        clear hW9
        have z_S := X_S.lt
        have c_S0 := X_S.cell (i := 0) rfl
        have f_S0 := X_S.frozen 0
        have c_S1 := X_S.cell (i := 1) rfl
        have f_S1 := X_S.frozen 1
        have c_S2 := X_S.cell (i := 2) rfl
        have f_S2 := X_S.frozen 2
        have c_S3 := X_S.cell (i := 3) rfl
        have f_S3 := X_S.frozen 3
        go_wp2
        obtain ⟨v11, hs9⟩ : ∃ q, ((((ws0.setCell ⟨bS, 0, none⟩ (.int .u64 (limb dn 0 : Int))).setCell ⟨bS, 1, none⟩ (.int .u64 (limb dn 1 : Int))).setCell ⟨bS, 2, none⟩ (.int .u64 (limb dn 2 : Int))).setCell ⟨bS, 3, none⟩ (.int .u64 (limb dn 3 : Int))) = q := ⟨_, rfl⟩
        have O9 : Only (fun k => k = bS) ws0 v11 := by rw [← hs9]; exact only_set4 _ _ _ _ _ _
        have S9 : Blk v11 (bS) 29 [.int .u64 (limb dn 0 : Int), .int .u64 (limb dn 1 : Int), .int .u64 (limb dn 2 : Int), .int .u64 (limb dn 3 : Int)] := by rw [← hs9]; exact X_S.set4 (.int .u64 (limb dn 0 : Int)) (.int .u64 (limb dn 1 : Int)) (.int .u64 (limb dn 2 : Int)) (.int .u64 (limb dn 3 : Int))
        rw [hs9]
        clear hs9
        clear z_S c_S0 f_S0 c_S1 f_S1 c_S2 f_S2 c_S3 f_S3
        replace X_P := X_P.only O9 (show ¬ (bF + 1 = bS) by omega)
        replace X_X := X_X.only O9 (show ¬ (bX = bS) by omega)
        replace BW := hid (BW.out.trans (O9.below (fun k h => by cases h; omega) BW.out.size))
        replace X_S := S9
        clear O9 S9
        rw [← HDN.out] at X_S
        go_roundw
        case rel => exact ⟨k + 1, by omega, by go_num, X_P, X_X, X_S, BW.out⟩
        case measure => simp [intOf]; omega
      · skip
        obtain rfl : n = k := by omega
        clear hlt
        have T := hid (T0.out.below BW.out (Nat.le_refl _))
        have z_P := X_P.lt
        have c_P0 := X_P.cell (i := 0) rfl
        have c_P1 := X_P.cell (i := 1) rfl
        have c_P2 := X_P.cell (i := 2) rfl
        have c_P3 := X_P.cell (i := 3) rfl
        have z_X := X_X.lt
        have c_X0 := X_X.cell (i := 0) rfl
        have c_X1 := X_X.cell (i := 1) rfl
        have c_X2 := X_X.cell (i := 2) rfl
        have c_X3 := X_X.cell (i := 3) rfl
        have z_S := X_S.lt
        have c_S0 := X_S.cell (i := 0) rfl
        have c_S1 := X_S.cell (i := 1) rfl
        have c_S2 := X_S.cell (i := 2) rfl
        have c_S3 := X_S.cell (i := 3) rfl
        go_upto_region 15 with (fail)
        go_region_held3 (fun w' => ∀ b o, b < v10.heap.size → w'.cell? ⟨b, o, none⟩ = v10.cell? ⟨b, o, none⟩) ((intro b o h; first | with_reducible exact c2 b o h | with_reducible exact c1 b o h | with_reducible exact cell_drew | with_reducible exact cell_drew.trans (cell_alloc h) | (with_reducible refine (cell_alloc (by (try simp); omega)).trans ?_; first | with_reducible exact c2 b o h | with_reducible exact c1 b o h | with_reducible exact cell_drew) | with_reducible exact (below_set4 H2.out (by omega) _ _ _ _).cell (p := ⟨b, o, none⟩) h | with_reducible exact (below_set4 H1.out (by omega) _ _ _ _).cell (p := ⟨b, o, none⟩) h)) (first | (go_at_call 24; refine (FC9.out rb1).mono ?_; rintro e rb2 ⟨rfl, b9⟩; have H2 : Hid (Below v10.heap.size v10 rb2) := hid H1.out.trans (b9.mono H1.out.size); clear b9; have c2 := bcell H2.out; have z2 := H2.out.size) | (go_at_call 9; refine (alive9_any v10.drew T.out).mono ?_; rintro e rb1 ⟨rfl, b9⟩; have H1 : Hid (Below v10.heap.size v10 rb1) := hid (Below.drew (Below.refl _ v10)).trans b9; clear b9; have c1 := bcell H1.out; have z1 := H1.out.size))
        have hH9 := H2.out
        clear z_P c_P0 c_P1 c_P2 c_P3 z_X c_X0 c_X1 c_X2 c_X3 z_S c_S0 c_S1 c_S2 c_S3
        replace X_P := X_P.keep hH9
        replace X_X := X_X.keep hH9
        replace X_S := X_S.keep hH9
        replace BW := hid (BW.out.trans (hH9.mono BW.out.size))
        clear hH9
        clear H1 c1 z1 H2 c2 z2
        go_wp2
        go_ret
        exact ⟨rfl, BW0.out.trans (BW.out.mono BW0.out.size)⟩
  · skip
    have hdn : ((n : Int) != (m : Int)) = true := by simp; omega
    have D1 := hid (fun (W : World) (v u : Value) (h : NumSl W v (us.map (frm (fP b)))) (h2 : NumSl W u (ws.map (frm (fP b)))) => dot_bad b v u us ws W h h2 (by rw [HL1.out]; omega) (by rw [HL2.out]; omega) (by rw [HL1.out, HL2.out]; exact e))
    rw [← vec_zero] at D1
    have heq := fun W : World => eq9_el 0 0 0 0 W
    go_enter Tryd.func6, Tryd.ntmps6
    go_wp2_with fail
    refine (get9_any b _ T.out).mono ?_
    rintro e v3 ⟨rfl, b9⟩
    replace T := hid (T.out.keep b9)
    replace BW := hid (BW.out.trans (b9.mono BW.out.size))
    clear b9
    go_wp2_with fail
    obtain ⟨v4, hv9⟩ : ∃ v, ((v3.alloc (.cells #[.int .i64 (fID b), .int .u64 (limb (fP b) 0 : Int), .int .u64 (limb (fP b) 1 : Int), .int .u64 (limb (fP b) 2 : Int), .int .u64 (limb (fP b) 3 : Int), .int .u64 (fI b : Int), .int .u64 (limb (fO b) 0 : Int), .int .u64 (limb (fO b) 1 : Int), .int .u64 (limb (fO b) 2 : Int), .int .u64 (limb (fO b) 3 : Int), .int .u64 (limb (fS b) 0 : Int), .int .u64 (limb (fS b) 1 : Int), .int .u64 (limb (fS b) 2 : Int), .int .u64 (limb (fS b) 3 : Int)] 32)).alloc (.cells #[.int .u64 (limb (fP b) 0 : Int), .int .u64 (limb (fP b) 1 : Int), .int .u64 (limb (fP b) 2 : Int), .int .u64 (limb (fP b) 3 : Int)] 29)) = v := ⟨_, rfl⟩
    have hG9 : Below v3.heap.size v3 v4 := by rw [← hv9]; go_grown
    have X_F : Blk v4 (v3.heap.size) 32 [.int .i64 (fID b), .int .u64 (limb (fP b) 0 : Int), .int .u64 (limb (fP b) 1 : Int), .int .u64 (limb (fP b) 2 : Int), .int .u64 (limb (fP b) 3 : Int), .int .u64 (fI b : Int), .int .u64 (limb (fO b) 0 : Int), .int .u64 (limb (fO b) 1 : Int), .int .u64 (limb (fO b) 2 : Int), .int .u64 (limb (fO b) 3 : Int), .int .u64 (limb (fS b) 0 : Int), .int .u64 (limb (fS b) 1 : Int), .int .u64 (limb (fS b) 2 : Int), .int .u64 (limb (fS b) 3 : Int)] := by rw [← hv9]; exact Blk.alloc (Blk.new rfl) _
    have X_P : Blk v4 (v3.heap.size + 1) 29 [.int .u64 (limb (fP b) 0 : Int), .int .u64 (limb (fP b) 1 : Int), .int .u64 (limb (fP b) 2 : Int), .int .u64 (limb (fP b) 3 : Int)] := by rw [← hv9]; exact Blk.new (by simp)
    obtain ⟨bF, hb9⟩ : ∃ k, v3.heap.size = k := ⟨_, rfl⟩
    rw [hb9] at X_F
    rw [hb9] at X_P
    have g_bF : w.heap.size ≤ bF := by rw [← hb9]; exact BW.out.size
    replace T := hid (T.out.keep hG9)
    replace BW := hid (BW.out.trans (hG9.mono BW.out.size))
    clear hG9
    rw [hv9]
    try rw [hb9]
    clear hv9 hb9
    refine (VC1.out _ (HS.out.below BW.out)).mono ?_
    rintro e v5 ⟨vv, vx, rfl, ho, ho2, b9⟩
    obtain ⟨ac1, cc1, rfl, _, _, _⟩ := owns_form ho2
    obtain ⟨av1, cv1, rfl, _, _, _⟩ := owns_form ho
    have N_v1 := hid (nums_own (xs := us) (by rw [HL1.out]; exact ho) (small9 HV1.out))
    have N_c1 := hid (nums_own (xs := us.map (frm (fP b))) (by rw [List.length_map, HL1.out]; exact ho2) (small9 (forms9 b _)))
    clear ho ho2
    replace X_F := X_F.keep b9
    replace X_P := X_P.keep b9
    replace T := hid (T.out.keep b9)
    replace BW := hid (BW.out.trans (b9.mono BW.out.size))
    clear b9
    have z_P := X_P.lt
    have c_P0 := X_P.cell (i := 0) rfl
    have c_P1 := X_P.cell (i := 1) rfl
    have c_P2 := X_P.cell (i := 2) rfl
    have c_P3 := X_P.cell (i := 3) rfl
    go_wp2_with fail
    clear z_P c_P0 c_P1 c_P2 c_P3
    refine (VC2.out _ (HU.out.below BW.out)).mono ?_
    rintro e v6 ⟨vv, vx, rfl, ho, ho2, b9⟩
    obtain ⟨ac2, cc2, rfl, _, _, _⟩ := owns_form ho2
    obtain ⟨av2, cv2, rfl, _, _, _⟩ := owns_form ho
    have N_v2 := hid (nums_own (xs := ws) (by rw [HL2.out]; exact ho) (small9 HV2.out))
    have N_c2 := hid (nums_own (xs := ws.map (frm (fP b))) (by rw [List.length_map, HL2.out]; exact ho2) (small9 (forms9 b _)))
    clear ho ho2
    replace X_F := X_F.keep b9
    replace X_P := X_P.keep b9
    replace N_v1 := hid (N_v1.out.below b9)
    replace N_c1 := hid (N_c1.out.below b9)
    replace T := hid (T.out.keep b9)
    replace BW := hid (BW.out.trans (b9.mono BW.out.size))
    clear b9
    have z_F := X_F.lt
    have c_F0 := X_F.cell (i := 0) rfl
    have c_F1 := X_F.cell (i := 1) rfl
    have c_F2 := X_F.cell (i := 2) rfl
    have c_F3 := X_F.cell (i := 3) rfl
    have c_F4 := X_F.cell (i := 4) rfl
    have c_F5 := X_F.cell (i := 5) rfl
    have c_F6 := X_F.cell (i := 6) rfl
    have c_F7 := X_F.cell (i := 7) rfl
    have c_F8 := X_F.cell (i := 8) rfl
    have c_F9 := X_F.cell (i := 9) rfl
    have c_F10 := X_F.cell (i := 10) rfl
    have c_F11 := X_F.cell (i := 11) rfl
    have c_F12 := X_F.cell (i := 12) rfl
    have c_F13 := X_F.cell (i := 13) rfl
    go_wp2_with fail
    refine (D1.out _ _ _ N_c1.out N_c2.out).mono ?_
    rintro e v7 ⟨rfl, b9⟩
    clear z_F c_F0 c_F1 c_F2 c_F3 c_F4 c_F5 c_F6 c_F7 c_F8 c_F9 c_F10 c_F11 c_F12 c_F13
    replace X_F := X_F.keep b9
    replace X_P := X_P.keep b9
    replace N_v1 := hid (N_v1.out.below b9)
    replace N_c1 := hid (N_c1.out.below b9)
    replace N_v2 := hid (N_v2.out.below b9)
    replace N_c2 := hid (N_c2.out.below b9)
    replace T := hid (T.out.keep b9)
    replace BW := hid (BW.out.trans (b9.mono BW.out.size))
    clear b9
    clear N_c1 N_c2
    go_wp2_with fail
    obtain ⟨v8, hv9⟩ : ∃ v, (v7.alloc (.cells #[.int .u64 0, .int .u64 0, .int .u64 0, .int .u64 0] 30)) = v := ⟨_, rfl⟩
    have hG9 : Below v7.heap.size v7 v8 := by rw [← hv9]; go_grown
    have X_X : Blk v8 (v7.heap.size) 30 [.int .u64 0, .int .u64 0, .int .u64 0, .int .u64 0] := by rw [← hv9]; exact Blk.new rfl
    obtain ⟨bX, hb9⟩ : ∃ k, v7.heap.size = k := ⟨_, rfl⟩
    rw [hb9] at X_X
    have g_bX : w.heap.size ≤ bX := by rw [← hb9]; exact BW.out.size
    have q_F_bX : bF < bX := by rw [← hb9]; exact X_F.lt
    have q_P_bX : bF + 1 < bX := by rw [← hb9]; exact X_P.lt
    replace X_F := X_F.keep hG9
    replace X_P := X_P.keep hG9
    replace N_v1 := hid (N_v1.out.below hG9)
    replace N_v2 := hid (N_v2.out.below hG9)
    replace T := hid (T.out.keep hG9)
    replace BW := hid (BW.out.trans (hG9.mono BW.out.size))
    clear hG9
    rw [hv9]
    try rw [hb9]
    clear hv9 hb9
    refine (alive9_any _ T.out).mono ?_
    rintro e v9 ⟨rfl, b9⟩
    replace X_F := X_F.keep b9
    replace X_P := X_P.keep b9
    replace X_X := X_X.keep b9
    replace N_v1 := hid (N_v1.out.below b9)
    replace N_v2 := hid (N_v2.out.below b9)
    replace T := hid (T.out.keep b9)
    replace BW := hid (BW.out.trans (b9.mono BW.out.size))
    clear b9
    have z_X := X_X.lt
    have c_X0 := X_X.cell (i := 0) rfl
    have c_X1 := X_X.cell (i := 1) rfl
    have c_X2 := X_X.cell (i := 2) rfl
    have c_X3 := X_X.cell (i := 3) rfl
    go_wp2
    go_ret
    exact ⟨rfl, BW.out⟩
end Go.Proofs.YthdjjogdjabflaaDoor
