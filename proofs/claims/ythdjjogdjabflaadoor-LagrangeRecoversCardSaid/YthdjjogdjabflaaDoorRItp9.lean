/-
  The reference's polynomial through the points.
-/
import Derived.Test.YthdjjogdjabflaaDoorRWt9
import Derived.Test.YthdjjogdjabflaaDoorMas9
import Derived.Test.YthdjjogdjabflaaDoorSl08
import Derived.Deep.RegionHeld3
namespace Go.Proofs.YthdjjogdjabflaaDoor
open Go.RowKit Go.Shelf

attribute [local go_sem] Oper.semAt_some
set_option maxRecDepth 100000 in
theorem run_madev (w : World) (n : Nat) (hn : n < 1000000) : ∃ wq, (Instr.makeSlice 39 (.int .i64 (n : Int)) (.int .i64 (n : Int))).run Tryd.prog w = .ok (.slice (some ⟨w.heap.size, 0, none⟩) n n) wq ∧ RowF wq w.heap.size 29 w.heap.size n n (fun _ => 0) ∧ w.grownBy wq none := by
  obtain ⟨i0, hi, hz0, hz1, hz2⟩ := info_parts info_w9
  obtain ⟨wq, hmk, hoq, hgq⟩ := run_make_full (P := Tryd.prog) w w.heap.size 39 29 i0 _ 4 Tryd.underlying39 hi hz0 hz1 .i64 .i64 n (by rw [hz2]; omega) (by unfold maxLen; omega) (Nat.le_refl _)
  exact ⟨wq, hmk, ⟨_, hoq, FRow.zero n _ (by rw [Array.length_toList]; exact size_madeCells _ _) (fun j i hj hi => made_zeros n j i hj hi)⟩, hgq⟩
/-- The polynomial of the point i, by the first k of the other points. -/
noncomputable def ipt (p : Nat) (ns ys : List Nat) (i k : Nat) : List Nat := flV p [fac p ns ys i] (oth (ns.take k) i)
theorem ipt_zero (p : Nat) (ns ys : List Nat) (i : Nat) : ipt p ns ys i 0 = [fac p ns ys i] := by unfold ipt; rw [oth_zero]; rfl
theorem ipt_next {p : Nat} {ns : List Nat} {i k : Nat} (ys : List Nat) (hk : k < ns.length) (hne : k ≠ i) : ipt p ns ys i (k + 1) = pmulV p (ipt p ns ys i k) [subm p 0 (ns.getD k 0), 1] := by unfold ipt; rw [oth_next hk hne, flV_snoc]; rfl
theorem ipt_skip {p : Nat} {ns : List Nat} {i k : Nat} (ys : List Nat) (hk : k < ns.length) (he : k = i) : ipt p ns ys i (k + 1) = ipt p ns ys i k := by unfold ipt; rw [oth_skip hk he]
theorem ipt_all {p : Nat} {ns ys : List Nat} {n : Nat} (h : ns.length ≤ n) (i : Nat) : paddV p (itp p ns ys i) (ipt p ns ys i n) = itp p ns ys (i + 1) := by unfold ipt; rw [oth_all h]; rfl
theorem ipt_lt {p : Nat} (hp : 0 < p) (ns ys : List Nat) (i k : Nat) : ∀ x ∈ ipt p ns ys i k, x < p := flV_lt hp _ (by simp) (fun x hx => by rw [List.mem_singleton.1 hx]; exact mulm_lt _ _ hp)
theorem ipt_len {p : Nat} (hp : 0 < p) (ns ys : List Nat) (i k : Nat) : (ipt p ns ys i k).length ≤ ns.length + 1 := by
  unfold ipt
  rw [flV_len hp _ (by simp)]
  have : (oth (ns.take k) i).length ≤ ns.length := by
    unfold oth
    rw [List.length_eraseIdx]
    split <;> simp <;> omega
  simp; omega
theorem nums_two9 {s : Nat} : nums [s, 1] = limbs s ++ [.int .u64 1, .int .u64 0, .int .u64 0, .int .u64 0] := by
  have h := vec_one
  simp only [vec, Value.agg.injEq, Array.mk.injEq] at h
  show limbs s ++ (limbs 1 ++ []) = _
  rw [List.append_nil]
  exact congrArg _ h.symm
theorem rep_get (n t : Nat) : (List.replicate n 0).getD t 0 = 0 := by
  rw [List.getD_eq_getElem?_getD, List.getElem?_replicate]; split <;> rfl
set_option maxRecDepth 100000 in
set_option maxHeartbeats 4000000 in
theorem ritp_any (b : Bool) (v u : Value) (xs : List Int) (ys : List Nat) (w : World) (hS : IntSl w v xs) (hU : NumSl w u ys) (hy : ∀ y ∈ ys, y < fP b) (hl : xs.length < 10000) (he : xs.length = ys.length) (hall : ∀ x ∈ xs, 1 ≤ x ∧ x ≤ 255) :
    Calls Tryd.prog 20 #[vec (fP b), v, u] w (RetSl (itp (fP b) (pts xs) ys xs.length) w) := by
  have BW := hid (Below.refl w.heap.size w)
  have HU := hid hU
  have HY := hid hy
  obtain ⟨au, cu, rfl, _, _⟩ := hU
  have RWC := hid (fun (W : World) (h : IntSl W v xs) => rweights_any b v xs W h (by omega) hall)
  rw [← he] at HU ⊢
  have HE := hid he
  clear he hy
  have HS := hid hS
  obtain ⟨sa, sc, rfl, _⟩ := hS
  have HALL := hid hall
  have hlen := pts_len xs
  have hlt := pts_lt hall (show 255 < fP b by cases b <;> decide)
  have HAT := hid (fun (i : Nat) (x : Int) (h : xs[i]? = some x) => pts_at h)
  obtain ⟨ns, hns⟩ : ∃ ns, pts xs = ns := ⟨_, rfl⟩
  rw [hns] at hlen hlt HAT RWC ⊢
  obtain ⟨n, hn⟩ : ∃ n, xs.length = n := ⟨_, rfl⟩
  rw [hn] at hlen hl HS ⊢
  have HN := hid hn
  have HL := hid hlen
  have HLT := hid hlt
  clear hns hn hlen hlt hall
  have hp2 := fP_two b
  have hpb := fP_lt b
  unfold RetNums at RWC
  rw [wgs_len, HL.out] at RWC
  rw [HN.out] at RWC HE
  have EIL := hid (fun k (h : k ≤ n) => itp_len (p := fP b) (by omega) ns ys k (by rw [HL.out]; exact h))
  have ADC := hid (fun (W : World) (v1 v2 : Value) (i : Nat) (hi : i ≤ n) (h1 : NumSl W v1 (itp (fP b) ns ys i)) (h2 : NumSl W v2 (ipt (fP b) ns ys i n)) => rpadd_sl (fP b) v1 v2 (itp (fP b) ns ys i) (ipt (fP b) ns ys i n) W hpb (by omega) h1 h2 (hid (itp_lt (by omega) ns ys i)) (hid (ipt_lt (by omega) ns ys i n)) (by rw [EIL.out i hi, HL.out]; omega) (by have := ipt_len (p := fP b) (by omega) ns ys i n; rw [HL.out] at this; omega))
  go_enter Tryd.func20, Tryd.ntmps20
  go_wp2_with fail
  obtain ⟨v1, hv9⟩ : ∃ v, (w.alloc (.cells #[.int .u64 (limb (fP b) 0 : Int), .int .u64 (limb (fP b) 1 : Int), .int .u64 (limb (fP b) 2 : Int), .int .u64 (limb (fP b) 3 : Int)] 29)) = v := ⟨_, rfl⟩
  have hG9 : Below w.heap.size w v1 := by rw [← hv9]; go_grown
  have X_P : Blk v1 (w.heap.size) 29 [.int .u64 (limb (fP b) 0 : Int), .int .u64 (limb (fP b) 1 : Int), .int .u64 (limb (fP b) 2 : Int), .int .u64 (limb (fP b) 3 : Int)] := by rw [← hv9]; exact Blk.new rfl
  obtain ⟨bP, hb9⟩ : ∃ k, w.heap.size = k := ⟨_, rfl⟩
  rw [hb9] at X_P
  have g_bP : w.heap.size ≤ bP := by rw [← hb9]; exact BW.out.size
  replace BW := hid (BW.out.trans (hG9.mono BW.out.size))
  clear hG9
  rw [hv9]
  try rw [hb9]
  clear hv9 hb9
  refine (RWC.out _ (HS.out.below BW.out)).mono ?_
  rintro e v2 ⟨vw, rfl, ho, b9⟩
  obtain ⟨aw, cw, rfl, _, _, _⟩ := owns_form ho
  have N_w := hid (nums_own (xs := wgs (fP b) ns) (by rw [wgs_len, HL.out]; exact ho) (small9 (wgs_lt (by omega) ns)))
  clear ho
  replace X_P := X_P.keep b9
  replace BW := hid (BW.out.trans (b9.mono BW.out.size))
  clear b9
  have N_w9 : Hid (NumSl v2 (.slice aw n cw) (wgs (fP b) ns)) := N_w
  replace N_w := N_w9
  obtain ⟨wq_o, hmk_o, hR_o, hgq_o⟩ := run_madev v2 n (by omega)
  go_wp2
  have b9 : Below v2.heap.size v2 wq_o := Below.grown (Below.refl _ _) hgq_o (Nat.le_refl _) (fun j hj => by cases hj)
  obtain ⟨go, hg9⟩ : ∃ q, v2.heap.size = q := ⟨_, rfl⟩
  have lt9 : v2.heap.size ≤ go := by omega
  have q_P_go : bP < go := Nat.lt_of_lt_of_le X_P.lt lt9
  have z0_go : w.heap.size ≤ go := Nat.le_trans BW.out.size lt9
  have R_o := hid (hR_o.mono BW.out.size)
  rw [hg9] at R_o
  try rw [hg9]
  clear hR_o hgq_o hmk_o hg9 lt9
  replace X_P := X_P.keep b9
  replace N_w := hid (N_w.out.below b9)
  replace BW := hid (BW.out.trans (b9.mono BW.out.size))
  clear b9
  have N_o : NumSl wq_o (.slice (some ⟨go, 0, none⟩) n n) (itp (fP b) ns ys 0) := R_o.out.sl (by rw [EIL.out 0 (Nat.zero_le _), HL.out]) (fun i _ => by show 0 = (List.replicate ns.length 0).getD i 0; rw [rep_get]) (small9 (itp_lt (by omega) ns ys 0))
  clear R_o
  go_loopw [8, 9] (fun y ix wr => ∃ i : Nat, i ≤ n ∧ ix = .int .i64 (i : Int) ∧ Blk wr (bP) 29 [.int .u64 (limb (fP b) 0 : Int), .int .u64 (limb (fP b) 1 : Int), .int .u64 (limb (fP b) 2 : Int), .int .u64 (limb (fP b) 3 : Int)] ∧ NumSl wr (.slice aw n cw) (wgs (fP b) ns) ∧ Below w.heap.size w wr ∧ ∃ z9 : Value, z9 = y ∧ NumSl wr z9 (itp (fP b) ns ys i)) (fun _ ix _ => n - (intOf ix).toNat)
  case atStart => exact ⟨0, Nat.zero_le _, rfl, X_P, N_w.out, BW.out, _, rfl, N_o⟩
  case round =>
    clear X_P N_w BW
    obtain ⟨i, hk_i, rfl, X_P, n9_w, b9, hm_i⟩ := hrel
    obtain ⟨v4, hv9⟩ : ∃ v, v = wr := ⟨_, rfl⟩
    subst hv9
    have N_w := hid n9_w
    clear n9_w
    have BW := hid b9
    clear b9
    have HM_i := hid hm_i
    clear hm_i
    by_cases hi : i < n
    · skip
      obtain ⟨yo, rfl, hN9⟩ := HM_i.out
      have N_o := hid hN9
      clear hN9 HM_i
      have hi0 : (0 : Int) ≤ (i : Int) := by omega
      have hin : (i : Int) < (n : Int) := by omega
      obtain ⟨yv, hyv⟩ : ∃ x, ys[i]? = some x := ⟨ys[i]'(by rw [← HE.out]; exact hi), List.getElem?_eq_getElem _⟩
      have HYV := hid hyv
      have hwv : (wgs (fP b) ns)[i]? = some (wgt (fP b) ns i) := wgs_at (by rw [HL.out]; exact hi)
      have HWV := hid hwv
      have M1 := hid (fun W : World => rmul_any (fP b) (wgt (fP b) ns i) yv hpb (wgs_lt (by omega) ns _ (List.mem_of_getElem? hwv)) (Nat.lt_trans (HY.out yv (List.mem_of_getElem? hyv)) hpb) W)
      have EF : mulm (fP b) (wgt (fP b) ns i) yv = fac (fP b) ns ys i := by unfold fac; rw [getD_some hyv]
      rw [EF] at M1
      have HFB : Hid (∀ y ∈ [fac (fP b) ns ys i], y < B256) := hid (small9 (b := b) (fun x hx => by rw [List.mem_singleton.1 hx]; exact mulm_lt _ _ (by omega)))
      clear EF hwv hyv
      obtain ⟨wv, hwv⟩ : ∃ z, wgt (fP b) ns i = z := ⟨_, rfl⟩
      rw [hwv] at M1 HWV
      clear hwv
      have HIZ := hid (ipt_zero (fP b) ns ys i)
      obtain ⟨fv, hfv⟩ : ∃ z, fac (fP b) ns ys i = z := ⟨_, rfl⟩
      rw [hfv] at M1 HFB HIZ
      clear hfv
      obtain ⟨gw, ow, rfl, zw, d0, d1, d2, d3⟩ := N_w.out.at4 HWV.out
      obtain ⟨gy, oy, rfl, zy, q0, q1, q2, q3⟩ := (HU.out.below BW.out).at4 HYV.out
      have z_P := X_P.lt
      have c_P0 := X_P.cell (i := 0) rfl
      have c_P1 := X_P.cell (i := 1) rfl
      have c_P2 := X_P.cell (i := 2) rfl
      have c_P3 := X_P.cell (i := 3) rfl
      go_upto_region 6 with (fail)
      go_wp2_with fail
      go_region_held3 (fun w' => ∀ b o, b < v4.heap.size → w'.cell? ⟨b, o, none⟩ = v4.cell? ⟨b, o, none⟩) ((intro b o h; first | with_reducible exact c1 b o h | with_reducible exact cell_drew | with_reducible exact cell_drew.trans (cell_alloc h) | (with_reducible refine (cell_alloc (by (try simp); omega)).trans ?_; first | with_reducible exact c1 b o h | with_reducible exact cell_drew) | with_reducible exact (below_set4 H1.out (by omega) _ _ _ _).cell (p := ⟨b, o, none⟩) h)) (first | (go_at_call 23; refine (M1.out _).mono ?_; rintro e ra1 ⟨rfl, b9⟩; have H1 : Hid (Below v4.heap.size v4 ra1) := hid (Below.drew (Below.refl _ v4)).trans b9; clear b9; have c1 := bcell H1.out; have z1 := H1.out.size))
      have hH9 := H1.out
      clear z_P c_P0 c_P1 c_P2 c_P3
      replace X_P := X_P.keep hH9
      replace N_w := hid (N_w.out.below hH9)
      replace N_o := hid (N_o.out.below hH9)
      replace BW := hid (BW.out.trans (hH9.mono BW.out.size))
      clear hH9
      clear H1 c1 z1
      clear d0 d1 d2 d3 q0 q1 q2 q3 zw zy
      go_wp2
      obtain ⟨v5, hv9⟩ : ∃ v, (ra1.alloc (.cells #[.int .u64 (limb fv 0 : Int), .int .u64 (limb fv 1 : Int), .int .u64 (limb fv 2 : Int), .int .u64 (limb fv 3 : Int)] 29)) = v := ⟨_, rfl⟩
      have hG9 : Below ra1.heap.size ra1 v5 := by rw [← hv9]; go_grown
      have X_C : Blk v5 (ra1.heap.size) 29 [.int .u64 (limb fv 0 : Int), .int .u64 (limb fv 1 : Int), .int .u64 (limb fv 2 : Int), .int .u64 (limb fv 3 : Int)] := by rw [← hv9]; exact Blk.new rfl
      obtain ⟨bC, hb9⟩ : ∃ k, ra1.heap.size = k := ⟨_, rfl⟩
      rw [hb9] at X_C
      have g_bC : w.heap.size ≤ bC := by rw [← hb9]; exact BW.out.size
      have q_P_bC : bP < bC := by rw [← hb9]; exact X_P.lt
      replace X_P := X_P.keep hG9
      replace N_w := hid (N_w.out.below hG9)
      replace N_o := hid (N_o.out.below hG9)
      replace BW := hid (BW.out.trans (hG9.mono BW.out.size))
      clear hG9
      rw [hv9]
      try rw [hb9]
      clear hv9 hb9
      have N_c : NumSl v5 (.slice (some ⟨bC, 0, none⟩) 1 1) (ipt (fP b) ns ys i 0) := by rw [HIZ.out]; exact blk_nums (t := 29) (by exact X_C) HFB.out
      clear X_C
      go_loopw [10, 11] (fun y ix wr => ∃ k : Nat, k ≤ n ∧ ix = .int .i64 (k : Int) ∧ Blk wr (bP) 29 [.int .u64 (limb (fP b) 0 : Int), .int .u64 (limb (fP b) 1 : Int), .int .u64 (limb (fP b) 2 : Int), .int .u64 (limb (fP b) 3 : Int)] ∧ NumSl wr (.slice (some ⟨gw, ow, none⟩) n cw) (wgs (fP b) ns) ∧ NumSl wr yo (itp (fP b) ns ys i) ∧ Below w.heap.size w wr ∧ ∃ z9 : Value, z9 = y ∧ NumSl wr z9 (ipt (fP b) ns ys i k)) (fun _ ix _ => n - (intOf ix).toNat)
      case atStart => exact ⟨0, Nat.zero_le _, rfl, X_P, N_w.out, N_o.out, BW.out, _, rfl, N_c⟩
      case round =>
        clear X_P N_w N_o BW
        obtain ⟨k, hk_k, rfl, X_P, n9_w, n9_o, b9, hm_k⟩ := hrel
        obtain ⟨v6, hv9⟩ : ∃ v, v = wr := ⟨_, rfl⟩
        subst hv9
        have N_w := hid n9_w
        clear n9_w
        have N_o := hid n9_o
        clear n9_o
        have BW := hid b9
        clear b9
        have HM_k := hid hm_k
        clear hm_k
        by_cases hk : k < n
        · skip
          obtain ⟨yc, rfl, hN9⟩ := HM_k.out
          have N_c := hid hN9
          clear hN9 HM_k
          have hk0 : (0 : Int) ≤ (k : Int) := by omega
          have hkn : (k : Int) < (n : Int) := by omega
          by_cases e : k = i
          · skip
            have hd : ((k : Int) != (i : Int)) = false := by simp [e]
            have ES := hid (ipt_skip (p := fP b) (ns := ns) ys (by rw [HL.out]; exact hk) e)
            clear e
            go_wp2
            go_roundw
            case rel => exact ⟨k + 1, by omega, by go_num, X_P, N_w.out, N_o.out, BW.out, _, rfl, by rw [ES.out]; exact N_c.out⟩
            case measure => simp [intOf]; omega
          · skip
            have hd : ((k : Int) != (i : Int)) = true := by simp; omega
            have EN := hid (ipt_next (p := fP b) (ns := ns) ys (by rw [HL.out]; exact hk) e)
            clear e
            obtain ⟨z, h9⟩ : ∃ x, xs[k]? = some x := ⟨xs[k]'(by rw [HN.out]; exact hk), List.getElem?_eq_getElem _⟩
            obtain ⟨l_z, u_z⟩ := HALL.out z (List.mem_of_getElem? h9)
            have HP_z := hid (HAT.out _ _ h9)
            have H_z := hid h9
            clear h9
            obtain ⟨ga, oa, rfl, _, _⟩ := (HS.out.below BW.out).at H_z.out
            have HXK := hid (HLT.out _ (getD_mem (show k < ns.length by rw [HL.out]; exact hk)))
            rw [HP_z.out] at HXK EN
            have P2 := hid (fun W : World => point_any z l_z u_z W)
            have M1 := hid (fun W : World => rsubm_any (fP b) 0 z.toNat hpb (by omega) HXK.out W)
            rw [← vec_zero] at M1
            obtain ⟨df, hdf⟩ : ∃ y, subm (fP b) 0 z.toNat = y := ⟨_, rfl⟩
            have HDL : Hid (∀ y ∈ [df, 1], y < fP b) := hid (fun y hy => by rcases List.mem_cons.1 hy with h | h; rw [h, ← hdf]; exact subm_lt _ _ (by omega); rw [List.mem_singleton.1 h]; omega)
            have HDB := hid (small9 HDL.out)
            rw [hdf] at M1 EN
            have MC := hid (fun (W : World) (v2 : Value) (h1 : NumSl W yc (ipt (fP b) ns ys i k)) (h2 : NumSl W v2 [df, 1]) => rpmul_sl (fP b) yc v2 (ipt (fP b) ns ys i k) [df, 1] W hpb (by omega) h1 h2 (hid (ipt_lt (by omega) ns ys i k)) HDL (by have := ipt_len (p := fP b) (by omega) ns ys i k; rw [HL.out] at this; omega) (by simp))
            rw [← EN.out] at MC
            clear EN hdf
            obtain ⟨zt, hzt⟩ : ∃ y, z.toNat = y := ⟨_, rfl⟩
            rw [hzt] at P2 M1
            clear hzt
            obtain ⟨g9, o9, e9, zq, q0⟩ := (HS.out.below BW.out).at H_z.out
            cases e9
            have z_P := X_P.lt
            have c_P0 := X_P.cell (i := 0) rfl
            have c_P1 := X_P.cell (i := 1) rfl
            have c_P2 := X_P.cell (i := 2) rfl
            have c_P3 := X_P.cell (i := 3) rfl
            go_upto_region 11 with (fail)
            go_wp2_with fail
            go_region_held3 (fun w' => ∀ b o, b < v6.heap.size → w'.cell? ⟨b, o, none⟩ = v6.cell? ⟨b, o, none⟩) ((intro b o h; first | with_reducible exact c3 b o h | with_reducible exact c2 b o h | with_reducible exact c1 b o h | with_reducible exact cell_drew | with_reducible exact cell_drew.trans (cell_alloc h) | (with_reducible refine (cell_alloc (by (try simp); omega)).trans ?_; first | with_reducible exact c3 b o h | with_reducible exact c2 b o h | with_reducible exact c1 b o h | with_reducible exact cell_drew) | with_reducible exact (below_set4 H3.out (by omega) _ _ _ _).cell (p := ⟨b, o, none⟩) h | with_reducible exact (below_set4 H2.out (by omega) _ _ _ _).cell (p := ⟨b, o, none⟩) h | with_reducible exact (below_set4 H1.out (by omega) _ _ _ _).cell (p := ⟨b, o, none⟩) h)) (first | (go_at_call 51; refine (MC.out _ _ (N_c.out.below (H2.out.alloc H2.out.size _)) (blk_nums (t := 29) (by rw [nums_two9]; exact Blk.new rfl) HDB.out)).mono ?_; rintro e rb3 ⟨vp, rfl, hp, b9⟩; have H3 : Hid (Below v6.heap.size v6 rb3) := hid (by first | exact H2.out.trans (b9.mono H2.out.size) | exact (H2.out.alloc H2.out.size _).trans (b9.mono (by have := H2.out.size; simp; omega))); have hp := hid hp; clear b9; have c3 := bcell H3.out; have z3 := H3.out.size) | (go_at_call 34; refine (M1.out _).mono ?_; rintro e rb2 ⟨rfl, b9⟩; have H2 : Hid (Below v6.heap.size v6 rb2) := hid H1.out.trans (b9.mono H1.out.size); clear b9; have c2 := bcell H2.out; have z2 := H2.out.size) | (go_at_call 26; refine (P2.out _).mono ?_; rintro e rb1 ⟨rfl, b9⟩; have H1 : Hid (Below v6.heap.size v6 rb1) := hid (Below.drew (Below.refl _ v6)).trans b9; clear b9; have c1 := bcell H1.out; have z1 := H1.out.size))
            have hH9 := H3.out
            clear zq q0 z_P c_P0 c_P1 c_P2 c_P3
            replace X_P := X_P.keep hH9
            replace N_w := hid (N_w.out.below hH9)
            replace N_o := hid (N_o.out.below hH9)
            replace BW := hid (BW.out.trans (hH9.mono BW.out.size))
            clear hH9
            clear H1 c1 z1 H2 c2 z2 H3 c3 z3
            clear N_c
            go_wp2
            go_roundw
            case rel => exact ⟨k + 1, by omega, by go_num, X_P, N_w.out, N_o.out, BW.out, _, rfl, hp.out⟩
            case measure => simp [intOf]; omega
        · skip
          obtain rfl : n = k := by omega
          clear hk
          obtain ⟨yc, rfl, hN9⟩ := HM_k.out
          have N_c := hid hN9
          clear hN9 HM_k
          have z_P := X_P.lt
          have c_P0 := X_P.cell (i := 0) rfl
          have c_P1 := X_P.cell (i := 1) rfl
          have c_P2 := X_P.cell (i := 2) rfl
          have c_P3 := X_P.cell (i := 3) rfl
          go_wp2_with fail
          refine (ADC.out _ _ _ i (by omega) N_o.out N_c.out).mono ?_
          rintro e v7 ⟨vn, rfl, hn9, b9⟩
          rw [ipt_all (Nat.le_of_eq HL.out)] at hn9
          clear N_o N_c
          clear z_P c_P0 c_P1 c_P2 c_P3
          replace X_P := X_P.keep b9
          replace N_w := hid (N_w.out.below b9)
          replace BW := hid (BW.out.trans (b9.mono BW.out.size))
          clear b9
          go_wp2
          go_roundw
          case rel => exact ⟨i + 1, by omega, by go_num, X_P, N_w.out, BW.out, _, rfl, hn9⟩
          case measure => simp [intOf]; omega
    · skip
      obtain rfl : n = i := by omega
      clear hi
      obtain ⟨yo, rfl, hN9⟩ := HM_i.out
      have N_o := hid hN9
      clear hN9 HM_i
      go_wp2
      refine bodyPost_ret (by simp only [results, Tryd.results20]; go_simp; try rfl) rfl ?_
      exact ⟨_, rfl, N_o.out, BW.out⟩
end Go.Proofs.YthdjjogdjabflaaDoor
