/-
  DegreeAccepts: the values of a polynomial fit with its number of coefficients, and with fewer points than that any values do.
-/
import Derived.Test.YtogenbggjodcnaaDoorAlive10
import Derived.Test.YtogenbggjodcnaaDoorRFit10
import Derived.Deep.RegionHeld3
namespace Go.Proofs.YtogenbggjodcnaaDoor
open Go.RowKit

attribute [local go_sem] Oper.semAt_some
theorem info_l6 : (Tryd.prog.info? 29).map (fun i => (i.zero, i.size, i.bytes)) = some (some (.agg #[.int .u64 0, .int .u64 0, .int .u64 0, .int .u64 0]), 4, 32) := by kernel_rfl
theorem chkx_take {xs : List Int} (h : chkx xs = 0) (q : Nat) : chkx (xs.take q) = 0 := by
  obtain ⟨h1, h2⟩ := chkx_zero h
  exact (chkx_nodup (fun x hx => h1 x (List.mem_of_mem_take hx))).1 (h2.sublist (List.take_sublist _ _))
/-- Enough coefficients. -/
theorem acc_few (b : Bool) {ns ys : List Nat} {m q : Nat} (hq : ns.length = q) (h : q ≤ m) : bmk (itp (fP b) ns ys q) (m : Int) = 18446744073709551615 := by
  subst hq
  have hp := fP_two b
  have hl : (itp (fP b) ns ys ns.length).length = ns.length := itp_len (by omega) ns ys _ (Nat.le_refl _)
  exact bmk_yes fun i hi hk => by rw [hl] at hi; omega
theorem acc_all (b : Bool) {ns es vs : List Nat} (hx : ∀ x ∈ ns, x < fP b) (hd : ns.Nodup) (hv : ∀ y ∈ vs, y < fP b) (he : ∀ j, j < ns.length → es.getD j 0 = evm (fP b) (ns.getD j 0) vs) : bmk (itp (fP b) ns es ns.length) (vs.length : Int) = 18446744073709551615 := by
  have hp := fP_two b
  by_cases h : vs.length ≤ ns.length
  · rw [itp_poly (fer_b b) hp hx hd hv h he]
    refine bmk_yes fun i hi hk => ?_
    rw [List.getD_eq_getElem?_getD, List.getElem?_append_right (by omega), List.getElem?_replicate]
    split <;> rfl
  · exact acc_few b rfl (by omega)
set_option maxRecDepth 100000 in
set_option maxHeartbeats 8000000 in
theorem daccepts_law (b : Bool) (v u : Value) (xs : List Int) (ls : List Nat) (w : World) (hT : Tab w) (hS : IntSl w v xs) (hU : NumSl w u ls) (hcap : ∀ a n c, v = .slice a n c → n ≤ c) :
    Calls Tryd.prog 5 #[.bool b, v, u] w (Ret (.bool true) w) := by
  have BW := hid (Below.refl w.heap.size w)
  have T := hid hT
  clear hT
  have HS := hid hS
  obtain ⟨sa, sc, rfl, _⟩ := hS
  obtain ⟨n, hn⟩ : ∃ n, xs.length = n := ⟨_, rfl⟩
  rw [hn] at HS ⊢
  have HN := hid hn
  have HU := hid hU
  obtain ⟨su, cu, rfl, _, _⟩ := hU
  obtain ⟨m, hm⟩ : ∃ n, ls.length = n := ⟨_, rfl⟩
  rw [hm] at HU ⊢
  rw [hn] at hcap
  have hsc := hcap _ _ _ rfl
  clear hcap
  by_cases h6 : 5 < n
  · skip
    go_enter Tryd.func5, Tryd.ntmps5
    go_wp2_with fail
    refine (alive10_any _ T.out).mono ?_
    rintro e v1 ⟨rfl, b9⟩
    replace T := hid (T.out.keep b9)
    replace BW := hid (BW.out.trans (b9.mono BW.out.size))
    clear b9
    go_wp2
    go_ret
    exact ⟨rfl, BW.out⟩
  by_cases h7 : 5 < m
  · skip
    go_enter Tryd.func5, Tryd.ntmps5
    go_wp2_with fail
    refine (alive10_any _ T.out).mono ?_
    rintro e v2 ⟨rfl, b9⟩
    replace T := hid (T.out.keep b9)
    replace BW := hid (BW.out.trans (b9.mono BW.out.size))
    clear b9
    go_wp2
    go_ret
    exact ⟨rfl, BW.out⟩
  have hlx : xs.length < 1000000 := by omega
  have RCC := hid (fun (W : World) (h : IntSl W (.slice sa n sc) xs) => rlcheck_any (.slice sa n sc) xs W h hlx)
  have hp2 := fP_two b
  have hpb := fP_lt b
  by_cases hc : chkx xs = 0
  · skip
    rw [hc] at RCC
    have HALL := hid (chkx_zero hc).1
    have hdn := (chkx_zero hc).2
    have HAT := hid (fun (i : Nat) (x : Int) (h : xs[i]? = some x) => pts_at h)
    have hlt9 := pts_lt HALL.out (show 255 < fP b by cases b <;> decide)
    have hnod := pts_nodup HALL.out hdn
    have hlen9 := pts_len xs
    have VC := hid (fun (W : World) (h : NumSl W (.slice su m cu) ls) => values_any (fP b) (.slice su m cu) ls W hpb (by omega) h (by omega))
    unfold RetVals at VC
    obtain ⟨vs, hvs⟩ : ∃ z, ls.map (mulm (fP b) 1) = z := ⟨_, rfl⟩
    have HLV : Hid (vs.length = m) := hid (by rw [← hvs, List.length_map, hm])
    have HVL : Hid (∀ y ∈ vs, y < fP b) := hid (by intro y hy; rw [← hvs] at hy; obtain ⟨z, _, rfl⟩ := List.mem_map.1 hy; exact mulm_lt _ _ (by omega))
    rw [hvs, hm] at VC
    clear hvs
    obtain ⟨q, hq⟩ : ∃ q, min m n = q := ⟨_, rfl⟩
    have hqm : q ≤ m := by omega
    have hqn : q ≤ n := by omega
    have F0 := fun (es : List Nat) (hes : es.length = n) => (fun (W : World) (v u : Value) (h : IntSl W v xs) (h2 : NumSl W u (es.map (frm (fP b)))) => fits_ok b v u xs es (m : Int) W h h2 (by omega) hc (by rw [hes, hn]))
    have F2 := hid (fun (W : World) (v u : Value) (h : IntSl W v (xs.take q)) (h2 : NumSl W u ((vs.take q).map (frm (fP b)))) => fits_ok b v u (xs.take q) (vs.take q) (m : Int) W h h2 (by rw [List.length_take]; omega) (chkx_take hc q) (by rw [List.length_take, List.length_take, HLV.out, hn]; omega))
    rw [pts_take, List.length_take, hn, Nat.min_eq_left hqn, acc_few b (by rw [List.length_take, hlen9, hn]; omega) hqm] at F2
    obtain ⟨ns, hns⟩ : ∃ ns, pts xs = ns := ⟨_, rfl⟩
    rw [hns] at F0 HAT hlt9 hnod hlen9
    rw [hn] at F0 hlen9
    have hEL : ((ns.map (fun y => evm (fP b) y vs)).length = n) := by rw [List.length_map, hlen9]
    have hEG : ∀ j, j < ns.length → (ns.map (fun y => evm (fP b) y vs)).getD j 0 = evm (fP b) (ns.getD j 0) vs := fun j hj => by rw [List.getD_eq_getElem?_getD, List.getElem?_map, List.getD_eq_getElem?_getD, List.getElem?_eq_getElem (by omega)]; rfl
    have hAA := acc_all b hlt9 hnod HVL.out hEG
    rw [hlen9, HLV.out] at hAA
    have F1 := hid (F0 _ hEL)
    rw [hAA] at F1
    clear F0 hAA hEG hlt9 hnod hdn
    have HEA := hid (fun (k : Nat) (x : Int) (h : xs[k]? = some x) => (show (ns.map (fun y => evm (fP b) y vs))[k]? = some (evm (fP b) x.toNat vs) by rw [← hns]; unfold pts; rw [List.map_map, List.getElem?_map, h]; rfl))
    obtain ⟨es, hes⟩ : ∃ es, ns.map (fun y => evm (fP b) y vs) = es := ⟨_, rfl⟩
    rw [hes] at hEL F1 HEA
    have HEL := hid hEL
    have HN := hid hn
    rw [show ((18446744073709551615 : Nat) : Int) = 18446744073709551615 from rfl] at F1 F2
    have e1 : (if (n : Int) < (m : Int) then (n : Int) else (m : Int)) = (q : Int) := by split <;> omega
    have e2 : (if (m : Int) < (n : Int) then (m : Int) else (n : Int)) = (q : Int) := by split <;> omega
    have e3 : (if (m : Int) ≤ (n : Int) then (m : Int) else (n : Int)) = (q : Int) := by split <;> omega
    have e4 : (if m < n then (m : Int) else (n : Int)) = (q : Int) := by split <;> omega
    have e5 : (if n < m then (n : Int) else (m : Int)) = (q : Int) := by split <;> omega
    have HE := hid (And.intro e1 (And.intro e2 (And.intro e3 (And.intro e4 e5))))
    have HST := hid (HS.out.take (m := q) (by rw [hn]; exact hqn))
    have hqi : (0 : Int) ≤ (q : Int) := by omega
    have hqs : (q : Int) ≤ (sc : Int) := by omega
    have HQM := hid hqm
    clear hc hlx hn hm hns hlen9 hEL hes hq e1 e2 e3 e4 e5
    obtain ⟨i0, hi, hz0, hz1, hz2⟩ := info_parts info_l6
    go_enter Tryd.func5, Tryd.ntmps5
    go_wp2_with fail
    refine (RCC.out _ (HS.out.below BW.out)).mono ?_
    rintro e v3 ⟨rfl, b9⟩
    replace T := hid (T.out.keep b9)
    replace BW := hid (BW.out.trans (b9.mono BW.out.size))
    clear b9
    go_wp2_with fail
    refine (get10_any b _ T.out).mono ?_
    rintro e v4 ⟨rfl, b9⟩
    replace T := hid (T.out.keep b9)
    replace BW := hid (BW.out.trans (b9.mono BW.out.size))
    clear b9
    go_wp2_with fail
    obtain ⟨v5, hv9⟩ : ∃ v, ((v4.alloc (.cells #[.int .i64 (fID b), .int .u64 (limb (fP b) 0 : Int), .int .u64 (limb (fP b) 1 : Int), .int .u64 (limb (fP b) 2 : Int), .int .u64 (limb (fP b) 3 : Int), .int .u64 (fI b : Int), .int .u64 (limb (fO b) 0 : Int), .int .u64 (limb (fO b) 1 : Int), .int .u64 (limb (fO b) 2 : Int), .int .u64 (limb (fO b) 3 : Int), .int .u64 (limb (fS b) 0 : Int), .int .u64 (limb (fS b) 1 : Int), .int .u64 (limb (fS b) 2 : Int), .int .u64 (limb (fS b) 3 : Int)] 31)).alloc (.cells #[.int .u64 (limb (fP b) 0 : Int), .int .u64 (limb (fP b) 1 : Int), .int .u64 (limb (fP b) 2 : Int), .int .u64 (limb (fP b) 3 : Int)] 28)) = v := ⟨_, rfl⟩
    have hG9 : Below v4.heap.size v4 v5 := by rw [← hv9]; go_grown
    have X_F : Blk v5 (v4.heap.size) 31 [.int .i64 (fID b), .int .u64 (limb (fP b) 0 : Int), .int .u64 (limb (fP b) 1 : Int), .int .u64 (limb (fP b) 2 : Int), .int .u64 (limb (fP b) 3 : Int), .int .u64 (fI b : Int), .int .u64 (limb (fO b) 0 : Int), .int .u64 (limb (fO b) 1 : Int), .int .u64 (limb (fO b) 2 : Int), .int .u64 (limb (fO b) 3 : Int), .int .u64 (limb (fS b) 0 : Int), .int .u64 (limb (fS b) 1 : Int), .int .u64 (limb (fS b) 2 : Int), .int .u64 (limb (fS b) 3 : Int)] := by rw [← hv9]; exact Blk.alloc (Blk.new rfl) _
    have X_P : Blk v5 (v4.heap.size + 1) 28 [.int .u64 (limb (fP b) 0 : Int), .int .u64 (limb (fP b) 1 : Int), .int .u64 (limb (fP b) 2 : Int), .int .u64 (limb (fP b) 3 : Int)] := by rw [← hv9]; exact Blk.new (by simp)
    obtain ⟨bF, hb9⟩ : ∃ k, v4.heap.size = k := ⟨_, rfl⟩
    rw [hb9] at X_F
    rw [hb9] at X_P
    have g_bF : w.heap.size ≤ bF := by rw [← hb9]; exact BW.out.size
    replace T := hid (T.out.keep hG9)
    replace BW := hid (BW.out.trans (hG9.mono BW.out.size))
    clear hG9
    rw [hv9]
    try rw [hb9]
    clear hv9 hb9
    refine (VC.out _ (HU.out.below BW.out)).mono ?_
    rintro e v6 ⟨vv, vx, rfl, ho, ho2, b9⟩
    obtain ⟨ac, cc, rfl, hcc, _, _⟩ := owns_form ho2
    obtain ⟨av, cv, rfl, _, _, _⟩ := owns_form ho
    have N_v := hid (nums_own (xs := vs) (by rw [HLV.out]; exact ho) (small9 HVL.out))
    have N_c := hid (nums_own (xs := vs.map (frm (fP b))) (by rw [List.length_map, HLV.out]; exact ho2) (small9 (forms9 b _)))
    clear ho ho2
    have hqc : (q : Int) ≤ (cc : Int) := by omega
    replace X_F := X_F.keep b9
    replace X_P := X_P.keep b9
    replace T := hid (T.out.keep b9)
    replace BW := hid (BW.out.trans (b9.mono BW.out.size))
    clear b9
    go_wp2
    go_loopw [11, 46] (fun y ix wr => ∃ (k : Nat) (z9 : Value), z9 = y ∧ k ≤ n ∧ ix = .int .i64 (k : Int) ∧ Below v6.heap.size v6 wr ∧ wr.ownsRow v6.heap.size 29 4 y k (nums ((es.map (frm (fP b))).take k))) (fun _ ix _ => n - (intOf ix).toNat)
    case atStart => exact ⟨0, _, rfl, Nat.zero_le _, rfl, Below.refl _ _, by simpa [nums] using World.ownsRow_nil _ _ _ _⟩
    case round =>
      obtain ⟨k, yv, rfl, hk9, rfl, hB, hO⟩ := hrel
      have HB := hid hB
      have N_y := hid hO
      clear hO
      obtain ⟨v7, hv9⟩ : ∃ v, v = wr := ⟨_, rfl⟩
      subst hv9
      replace X_F := X_F.keep hB
      replace X_P := X_P.keep hB
      replace N_v := hid (N_v.out.below hB)
      replace N_c := hid (N_c.out.below hB)
      replace T := hid (T.out.keep hB)
      replace BW := hid (BW.out.trans (hB.mono BW.out.size))
      clear hB
      by_cases hlt : k < n
      · skip
        obtain ⟨x, h9⟩ : ∃ x, xs[k]? = some x := ⟨xs[k]'(by rw [HN.out]; exact hlt), List.getElem?_eq_getElem _⟩
        obtain ⟨l_x, u_x⟩ := HALL.out x (List.mem_of_getElem? h9)
        have HP_x := hid (HAT.out _ _ h9)
        have H_x := hid h9
        clear h9
        obtain ⟨ga, oa, rfl, zd, d0⟩ := (HS.out.below BW.out).at H_x.out
        have hk0 : (0 : Int) ≤ (k : Int) := by omega
        have hkn : (k : Int) < (n : Int) := by omega
        have hb9 : 255 < fP b := by cases b <;> decide
        have hxl : x.toNat < fP b := by omega
        clear hb9
        have hea := HEA.out k x H_x.out
        have T1 := hid (take_next (show (es.map (frm (fP b)))[k]? = some (frm (fP b) (evm (fP b) x.toNat vs)) by rw [List.getElem?_map, hea]; rfl))
        have NV := N_v
        have P1 := hid (fun W : World => point_any x l_x u_x W)
        have EVC := hid (fun (W : World) (v : Value) (h : NumSl W v vs) => reval_any (fP b) x.toNat v vs W hpb (by omega) hxl h HVL.out (by rw [HLV.out]; omega))
        have P2 := hid (fun W : World => rform_any (fP b) (evm (fP b) x.toNat vs) hpb (by omega) (Nat.lt_trans (evm_lt _ _ (by omega)) hpb) W)
        obtain ⟨ev, hev⟩ : ∃ z, evm (fP b) x.toNat vs = z := ⟨_, rfl⟩
        rw [hev] at EVC P2 T1
        obtain ⟨ef, hef⟩ : ∃ z, frm (fP b) ev = z := ⟨_, rfl⟩
        rw [hef] at P2 T1
        obtain ⟨xt, hxt⟩ : ∃ z, x.toNat = z := ⟨_, rfl⟩
        rw [hxt] at P1 EVC
        clear hef hev hxt hea hxl
        have z_P := X_P.lt
        have c_P0 := X_P.cell (i := 0) rfl
        have c_P1 := X_P.cell (i := 1) rfl
        have c_P2 := X_P.cell (i := 2) rfl
        have c_P3 := X_P.cell (i := 3) rfl
        go_wp2_with fail
        refine wp_region_soft1 (C := fun W' => Below v7.heap.size v7 W') 7 (by kernel_rfl) (by kernel_rfl) (by decide) (by kernel_rfl) (by kernel_rfl) (by kernel_rfl) (by kernel_rfl) (by kernel_rfl) (fun _ _ _ h => h) (Or.inl ⟨by rfl, fun _ => rfl⟩) ((Below.refl _ _).drew) ?_
        simp only [List.take_succ_cons, List.take_zero, List.drop_succ_cons, List.drop_zero]
        simp only [Act.put, List.setIfInBounds_toArray, List.set_cons_zero, List.set_cons_succ]
        refine wpQuiet_step (fun K hK => ?_)
        rw [if_pos (by rfl)]
        refine ⟨vec (fP b), fun W' hW => ?_, hK _ ?_⟩
        · have e_0 := (hW.cell (p := ⟨bF + 1, 0, none⟩) z_P).trans c_P0
          have e_1 := (hW.cell (p := ⟨bF + 1, 1, none⟩) z_P).trans c_P1
          have e_2 := (hW.cell (p := ⟨bF + 1, 2, none⟩) z_P).trans c_P2
          have e_3 := (hW.cell (p := ⟨bF + 1, 3, none⟩) z_P).trans c_P3
          go_simp
        clear hK K
        simp only [Act.put, List.setIfInBounds_toArray, List.set_cons_zero, List.set_cons_succ]
        refine wpQuiet_step (fun K hK => ?_)
        rw [if_pos (by rfl)]
        refine ⟨vec (fP b), fun W' hW => ?_, hK _ ?_⟩
        · have e_0 := (hW.cell (p := ⟨bF + 1, 0, none⟩) z_P).trans c_P0
          have e_1 := (hW.cell (p := ⟨bF + 1, 1, none⟩) z_P).trans c_P1
          have e_2 := (hW.cell (p := ⟨bF + 1, 2, none⟩) z_P).trans c_P2
          have e_3 := (hW.cell (p := ⟨bF + 1, 3, none⟩) z_P).trans c_P3
          go_simp
        clear hK K
        simp only [Act.put, List.setIfInBounds_toArray, List.set_cons_zero, List.set_cons_succ]
        refine wpQuiet_step (fun K hK => ?_)
        rw [if_pos (by rfl)]
        refine ⟨.slice av m cv, fun W' hW => ?_, hK _ ?_⟩
        · go_simp
        clear hK K
        simp only [Act.put, List.setIfInBounds_toArray, List.set_cons_zero, List.set_cons_succ]
        refine wpQuiet_step (fun K hK => ?_)
        rw [if_pos (by rfl)]
        refine ⟨.int .i64 x, fun W' hW => ?_, hK _ ?_⟩
        · go_simp
        clear hK K
        simp only [Act.put, List.setIfInBounds_toArray, List.set_cons_zero, List.set_cons_succ]
        refine wpQuiet_step (fun K hK => ?_)
        rw [if_pos (by rfl)]
        refine ⟨vec xt, fun W' hW => ?_, hK _ ?_⟩
        · go_simp
          refine (P1.out _).mono ?_
          rintro e w' ⟨rfl, b⟩
          exact ⟨rfl, hW.trans (b.mono hW.size)⟩
        clear hK K
        simp only [Act.put, List.setIfInBounds_toArray, List.set_cons_zero, List.set_cons_succ]
        refine wpQuiet_step (fun K hK => ?_)
        rw [if_pos (by rfl)]
        refine ⟨vec ev, fun W' hW => ?_, hK _ ?_⟩
        · go_simp
          refine (EVC.out _ _ (NV.out.below hW)).mono ?_
          rintro e w' ⟨rfl, b⟩
          exact ⟨rfl, hW.trans (b.mono hW.size)⟩
        clear hK K
        simp only [Act.put, List.setIfInBounds_toArray, List.set_cons_zero, List.set_cons_succ]
        refine wpQuiet_step (fun K hK => ?_)
        rw [if_pos (by rfl)]
        refine ⟨vec ef, fun W' hW => ?_, hK _ ?_⟩
        · go_simp
          refine (P2.out _).mono ?_
          rintro e w' ⟨rfl, b⟩
          exact ⟨rfl, hW.trans (b.mono hW.size)⟩
        clear hK K
        simp only [Act.put, List.setIfInBounds_toArray, List.set_cons_zero, List.set_cons_succ]
        refine wpQuiet_nil ?_
        intro ws0 hW9
        clear z_P c_P0 c_P1 c_P2 c_P3
        replace N_y := hid (owns_keep N_y.out hW9)
        replace X_F := X_F.keep hW9
        replace X_P := X_P.keep hW9
        replace N_v := hid (N_v.out.below hW9)
        replace N_c := hid (N_c.out.below hW9)
        replace T := hid (T.out.keep hW9)
        replace HB := hid (HB.out.trans (hW9.mono HB.out.size))
        replace BW := hid (BW.out.trans (hW9.mono BW.out.size))
        clear hW9
        go_wp2_with (at_builtin; refine wpList_append_own _ rfl _ _ 34 rfl v6.heap.size 29 i0 _ 4 32 Tryd.underlying34 hi hz0 hz1 hz2 rfl (by decide) _ k _ rfl (N_y.out.alloc _) ⟨ws0.heap.size, 0, none⟩ 1 1 (limbs ef) rfl rfl (Blk.news (t := 29) (Blk.new (by simp))) (by simp [Value.oneCell']) (by unfold maxLen; omega) (by omega) (by have := HB.out.size; simp; omega) ?_; intro vq6 w2 ho hg2 _)
        have B2 := hid (Below.grown (HB.out.alloc HB.out.size _) hg2 (by have := HB.out.size; simp; omega) (fun j hj => by have := (N_y.out.lt j hj).1; omega))
        have ho' : w2.ownsRow v6.heap.size 29 4 vq6 (k + 1) (nums ((es.map (frm (fP b))).take (k + 1))) := by rw [T1.out, nums_snoc]; exact ho
        go_roundw
        case rel => exact ⟨k + 1, _, rfl, by omega, by go_num, B2.out, ho'⟩
        case measure => simp [intOf]; omega
      · skip
        obtain rfl : n = k := by omega
        clear hlt HB
        have hys := N_y.out
        rw [List.take_of_length_le (by rw [List.length_map, HEL.out]; exact Nat.le_refl _)] at hys
        obtain ⟨ay, cy, rfl, _, _, _⟩ := owns_form hys
        have N_ys := hid (nums_own (xs := (es.map (frm (fP b)))) (by rw [List.length_map, HEL.out]; exact hys) (small9 (forms9 b es)))
        clear hys N_y N_v
        have z_F := X_F.lt
        have c_F0 := X_F.cell (i := 0) rfl
        have c_F1 := X_F.cell (i := 1) rfl
        have c_F2 := X_F.cell (i := 2) rfl
        have c_F3 := X_F.cell (i := 3) rfl
        have c_F4 := X_F.cell (i := 4) rfl
        have c_F5 := X_F.cell (i := 5) rfl
        have c_F6 := X_F.cell (i := 6) rfl
        have c_F7 := X_F.cell (i := 7) rfl
        have c_F8 := X_F.cell (i := 8) rfl
        have c_F9 := X_F.cell (i := 9) rfl
        have c_F10 := X_F.cell (i := 10) rfl
        have c_F11 := X_F.cell (i := 11) rfl
        have c_F12 := X_F.cell (i := 12) rfl
        have c_F13 := X_F.cell (i := 13) rfl
        go_wp2_with fail
        refine (F1.out _ _ _ (HS.out.below BW.out) N_ys.out).mono ?_
        rintro e v8 ⟨rfl, b9⟩
        clear z_F c_F0 c_F1 c_F2 c_F3 c_F4 c_F5 c_F6 c_F7 c_F8 c_F9 c_F10 c_F11 c_F12 c_F13
        replace X_F := X_F.keep b9
        replace X_P := X_P.keep b9
        replace N_ys := hid (N_ys.out.below b9)
        replace N_c := hid (N_c.out.below b9)
        replace T := hid (T.out.keep b9)
        replace BW := hid (BW.out.trans (b9.mono BW.out.size))
        clear b9
        clear N_ys
        obtain ⟨e1, e2, e3, e4, e5⟩ := HE.out
        go_upto_region 13 with (fail)
        clear e1 e2 e3 e4 e5
        have N_t := hid (N_c.out.take (m := q) (by rw [List.length_map, HLV.out]; exact HQM.out))
        rw [← List.map_take] at N_t
        have z_F := X_F.lt
        have c_F0 := X_F.cell (i := 0) rfl
        have c_F1 := X_F.cell (i := 1) rfl
        have c_F2 := X_F.cell (i := 2) rfl
        have c_F3 := X_F.cell (i := 3) rfl
        have c_F4 := X_F.cell (i := 4) rfl
        have c_F5 := X_F.cell (i := 5) rfl
        have c_F6 := X_F.cell (i := 6) rfl
        have c_F7 := X_F.cell (i := 7) rfl
        have c_F8 := X_F.cell (i := 8) rfl
        have c_F9 := X_F.cell (i := 9) rfl
        have c_F10 := X_F.cell (i := 10) rfl
        have c_F11 := X_F.cell (i := 11) rfl
        have c_F12 := X_F.cell (i := 12) rfl
        have c_F13 := X_F.cell (i := 13) rfl
        go_wp2_with fail
        go_region_held3 (fun w' => ∀ b o, b < v8.heap.size → w'.cell? ⟨b, o, none⟩ = v8.cell? ⟨b, o, none⟩) ((intro b o h; first | with_reducible exact c1 b o h | with_reducible exact cell_drew | with_reducible exact cell_drew.trans (cell_alloc h) | (with_reducible refine (cell_alloc (by (try simp); omega)).trans ?_; first | with_reducible exact c1 b o h | with_reducible exact cell_drew) | with_reducible exact (below_set4 H1.out (by omega) _ _ _ _).cell (p := ⟨b, o, none⟩) h)) (first | (go_at_call 17; refine (F2.out _ _ _ ((HST.out.below BW.out).below (by first | with_reducible exact Below.drew (Below.refl _ _) | with_reducible exact Below.drew ((Below.refl _ _).alloc (Nat.le_refl _) _))) (N_t.out.below (by first | with_reducible exact Below.drew (Below.refl _ _) | with_reducible exact Below.drew ((Below.refl _ _).alloc (Nat.le_refl _) _)))).mono ?_; rintro e rb1 ⟨rfl, b9⟩; have H1 : Hid (Below v8.heap.size v8 rb1) := hid (Below.drew (Below.refl _ v8)).trans b9; clear b9; have c1 := bcell H1.out; have z1 := H1.out.size))
        have hH9 := H1.out
        clear z_F c_F0 c_F1 c_F2 c_F3 c_F4 c_F5 c_F6 c_F7 c_F8 c_F9 c_F10 c_F11 c_F12 c_F13
        replace X_F := X_F.keep hH9
        replace X_P := X_P.keep hH9
        replace N_c := hid (N_c.out.below hH9)
        replace T := hid (T.out.keep hH9)
        replace BW := hid (BW.out.trans (hH9.mono BW.out.size))
        clear hH9
        clear H1 c1 z1
        go_wp2_with fail
        refine (alive10_any _ T.out).mono ?_
        rintro e v9 ⟨rfl, b9⟩
        replace X_F := X_F.keep b9
        replace X_P := X_P.keep b9
        replace N_c := hid (N_c.out.below b9)
        replace T := hid (T.out.keep b9)
        replace BW := hid (BW.out.trans (b9.mono BW.out.size))
        clear b9
        go_wp2
        go_ret
        exact ⟨rfl, BW.out⟩
  · skip
    obtain ⟨c, hc9⟩ : ∃ c, chkx xs = c := ⟨_, rfl⟩
    rw [hc9] at hc RCC
    have hd : (c != 0) = true := by simp [hc]
    clear hc hc9 hlx hn hm
    go_enter Tryd.func5, Tryd.ntmps5
    go_wp2_with fail
    refine (RCC.out _ (HS.out.below BW.out)).mono ?_
    rintro e v3 ⟨rfl, b9⟩
    replace T := hid (T.out.keep b9)
    replace BW := hid (BW.out.trans (b9.mono BW.out.size))
    clear b9
    go_wp2_with fail
    refine (alive10_any _ T.out).mono ?_
    rintro e v4 ⟨rfl, b9⟩
    replace T := hid (T.out.keep b9)
    replace BW := hid (BW.out.trans (b9.mono BW.out.size))
    clear b9
    go_wp2
    go_ret
    exact ⟨rfl, BW.out⟩
end Go.Proofs.YtogenbggjodcnaaDoor
