/-
  The reference's weights.
-/
import Derived.Test.YthdjjogdjabflaaDoorWt9
import Derived.Test.YthdjjogdjabflaaDoorRefV
namespace Go.Proofs.YthdjjogdjabflaaDoor
open Go.RowKit

attribute [local go_sem] Oper.semAt_some
theorem info_w9 : (Tryd.prog.info? 29).map (fun i => (i.zero, i.size, i.bytes)) = some (some (.agg #[.int .u64 0, .int .u64 0, .int .u64 0, .int .u64 0]), 4, 32) := by kernel_rfl
set_option maxRecDepth 100000 in
set_option maxHeartbeats 4000000 in
theorem rweights_any (b : Bool) (v : Value) (xs : List Int) (w : World) (hS : IntSl w v xs) (hl : xs.length < 1000000) (hall : ∀ x ∈ xs, 1 ≤ x ∧ x ≤ 255) :
    Calls Tryd.prog 16 #[vec (fP b), v] w (RetNums 29 (wgs (fP b) (pts xs)) w) := by
  have BW := hid (Below.refl w.heap.size w)
  have HS := hid hS
  obtain ⟨sa, sc, rfl, _⟩ := hS
  have HALL := hid hall
  have hlen := pts_len xs
  have hlt := pts_lt hall (show 255 < fP b by cases b <;> decide)
  have HAT := hid (fun (i : Nat) (x : Int) (h : xs[i]? = some x) => pts_at h)
  obtain ⟨ns, hns⟩ : ∃ ns, pts xs = ns := ⟨_, rfl⟩
  rw [hns] at hlen hlt HAT ⊢
  obtain ⟨n, hn⟩ : ∃ n, xs.length = n := ⟨_, rfl⟩
  rw [hn] at hlen hl HS ⊢
  have HN := hid hn
  have HL := hid hlen
  have HLT := hid hlt
  clear hns hn hlen hlt hall
  have hp2 := fP_two b
  have hpb := fP_lt b
  unfold RetNums
  rw [wgs_len, HL.out]
  obtain ⟨i0, hi, hz0, hz1, hz2⟩ := info_parts info_w9
  have RO := hid (fun W : World => (rone_any W).mono (R' := Ret (vec 1) W) (by rintro e w' ⟨rfl, rfl⟩; exact ⟨rfl, (Below.refl _ _).alloc (Nat.le_refl _) _⟩))
  go_enter Tryd.func16, Tryd.ntmps16
  go_upto_region 1 with (fail)
  obtain ⟨v1, hv9⟩ : ∃ v, (w.alloc (.cells #[.int .u64 (limb (fP b) 0 : Int), .int .u64 (limb (fP b) 1 : Int), .int .u64 (limb (fP b) 2 : Int), .int .u64 (limb (fP b) 3 : Int)] 29)) = v := ⟨_, rfl⟩
  have hG9 : Below w.heap.size w v1 := by rw [← hv9]; go_grown
  have X_P : Blk v1 (w.heap.size) 29 [.int .u64 (limb (fP b) 0 : Int), .int .u64 (limb (fP b) 1 : Int), .int .u64 (limb (fP b) 2 : Int), .int .u64 (limb (fP b) 3 : Int)] := by rw [← hv9]; exact Blk.new rfl
  obtain ⟨bP, hb9⟩ : ∃ k, w.heap.size = k := ⟨_, rfl⟩
  rw [hb9] at X_P
  have g_bP : w.heap.size ≤ bP := by rw [← hb9]; exact BW.out.size
  replace BW := hid (BW.out.trans (hG9.mono BW.out.size))
  clear hG9
  rw [hv9]
  try rw [hb9]
  clear hv9 hb9
  go_wp2
  have BW0 := BW
  have XP0 := X_P
  replace HS := hid (HS.out.below BW.out)
  clear BW X_P
  go_loopw [5, 6] (fun y ix wr => ∃ (i : Nat) (z9 : Value), z9 = y ∧ i ≤ n ∧ ix = .int .i64 (i : Int) ∧ Below v1.heap.size v1 wr ∧ wr.ownsRow v1.heap.size 29 4 y i (nums ((wgs (fP b) ns).take i))) (fun _ ix _ => n - (intOf ix).toNat)
  case atStart => exact ⟨0, _, rfl, Nat.zero_le _, rfl, Below.refl _ _, by simpa [nums] using World.ownsRow_nil _ _ _ _⟩
  case round =>
    obtain ⟨i, yv, rfl, hk, rfl, hB, hO⟩ := hrel
    have BW := hid hB
    have N_y := hid hO
    have X_P := XP0.keep hB
    clear hB hO
    obtain ⟨v2, hv9⟩ : ∃ v, v = wr := ⟨_, rfl⟩
    subst hv9
    by_cases hi9 : i < n
    · skip
      obtain ⟨x, h9⟩ : ∃ x, xs[i]? = some x := ⟨xs[i]'(by rw [HN.out]; exact hi9), List.getElem?_eq_getElem _⟩
      obtain ⟨l_x, u_x⟩ := HALL.out x (List.mem_of_getElem? h9)
      have HP_x := hid (HAT.out _ _ h9)
      have H_x := hid h9
      clear h9
      obtain ⟨ga, oa, rfl, _, _⟩ := (HS.out.below BW.out).at H_x.out
      have hi0 : (0 : Int) ≤ (i : Int) := by omega
      have hin : (i : Int) < (n : Int) := by omega
      go_wp2_with fail
      refine (RO.out _).mono ?_
      rintro e v3 ⟨rfl, b9⟩
      replace N_y := hid (owns_keep N_y.out b9)
      replace X_P := X_P.keep b9
      replace BW := hid (BW.out.trans (b9.mono BW.out.size))
      clear b9
      go_wp2
      obtain ⟨v4, hv9⟩ : ∃ v, (v3.alloc (.cells #[.int .u64 (limb (1) 0 : Int), .int .u64 (limb (1) 1 : Int), .int .u64 (limb (1) 2 : Int), .int .u64 (limb (1) 3 : Int)] 29)) = v := ⟨_, rfl⟩
      have hG9 : Below v3.heap.size v3 v4 := by rw [← hv9]; go_grown
      have X_D : Blk v4 (v3.heap.size) 29 [.int .u64 (limb (1) 0 : Int), .int .u64 (limb (1) 1 : Int), .int .u64 (limb (1) 2 : Int), .int .u64 (limb (1) 3 : Int)] := by rw [← hv9]; exact Blk.new rfl
      obtain ⟨bD, hb9⟩ : ∃ k, v3.heap.size = k := ⟨_, rfl⟩
      rw [hb9] at X_D
      have g_bD : v1.heap.size ≤ bD := by rw [← hb9]; exact BW.out.size
      have q_P_bD : bP < bD := by rw [← hb9]; exact X_P.lt
      have q_y_D := fun k hk => (N_y.out.lt k hk).2
      rw [hb9] at q_y_D
      replace N_y := hid (owns_keep N_y.out hG9)
      replace X_P := X_P.keep hG9
      replace BW := hid (BW.out.trans (hG9.mono BW.out.size))
      clear hG9
      rw [hv9]
      try rw [hb9]
      clear hv9 hb9
      have X_D0 : Blk v4 (bD) 29 [.int .u64 (limb (wdn (fP b) ns i 0) 0 : Int), .int .u64 (limb (wdn (fP b) ns i 0) 1 : Int), .int .u64 (limb (wdn (fP b) ns i 0) 2 : Int), .int .u64 (limb (wdn (fP b) ns i 0) 3 : Int)] := by rw [wdn_zero]; exact X_D
      go_loopw [8] (fun ix wr => ∃ k : Nat, k ≤ n ∧ ix = .int .i64 (k : Int) ∧ Blk wr (bP) 29 [.int .u64 (limb (fP b) 0 : Int), .int .u64 (limb (fP b) 1 : Int), .int .u64 (limb (fP b) 2 : Int), .int .u64 (limb (fP b) 3 : Int)] ∧ Blk wr (bD) 29 [.int .u64 (limb (wdn (fP b) ns i k) 0 : Int), .int .u64 (limb (wdn (fP b) ns i k) 1 : Int), .int .u64 (limb (wdn (fP b) ns i k) 2 : Int), .int .u64 (limb (wdn (fP b) ns i k) 3 : Int)] ∧ wr.ownsRow v1.heap.size 29 4 yv i (nums ((wgs (fP b) ns).take i)) ∧ Below v1.heap.size v1 wr) (fun ix _ => n - (intOf ix).toNat)
      case atStart => exact ⟨0, Nat.zero_le _, rfl, X_P, X_D0, N_y.out, BW.out⟩
      case round =>
        clear X_P X_D N_y BW
        obtain ⟨k, hk_k, rfl, X_P, X_D, n9_y, b9⟩ := hrel
        obtain ⟨v5, hv9⟩ : ∃ v, v = wr := ⟨_, rfl⟩
        subst hv9
        have N_y := hid n9_y
        clear n9_y
        have BW := hid b9
        clear b9
        by_cases hk : k < n
        · skip
          have hk0 : (0 : Int) ≤ (k : Int) := by omega
          have hkn : (k : Int) < (n : Int) := by omega
          by_cases e : k = i
          · skip
            have hd : ((k : Int) != (i : Int)) = false := by simp [e]
            have ES := hid (wdn_skip (p := fP b) (xs := ns) (by rw [HL.out]; exact hk) e)
            clear e
            go_wp2
            go_roundw
            case rel => exact ⟨k + 1, by omega, by go_num, X_P, by rw [ES.out]; exact X_D, N_y.out, BW.out⟩
            case measure => simp [intOf]; omega
          · skip
            have hd : ((k : Int) != (i : Int)) = true := by simp; omega
            have EN := hid (wdn_next (p := fP b) (xs := ns) (by rw [HL.out]; exact hk) e)
            clear e
            obtain ⟨z, h9⟩ : ∃ x, xs[k]? = some x := ⟨xs[k]'(by rw [HN.out]; exact hk), List.getElem?_eq_getElem _⟩
            obtain ⟨l_z, u_z⟩ := HALL.out z (List.mem_of_getElem? h9)
            have HP_z := hid (HAT.out _ _ h9)
            have H_z := hid h9
            clear h9
            have HXI := hid (HLT.out _ (getD_mem (show i < ns.length by rw [HL.out]; exact hi9)))
            have HXK := hid (HLT.out _ (getD_mem (show k < ns.length by rw [HL.out]; exact hk)))
            rw [HP_x.out, HP_z.out] at EN
            rw [HP_x.out] at HXI
            rw [HP_z.out] at HXK
            have P1 := hid (fun W : World => point_any x l_x u_x W)
            have P2 := hid (fun W : World => point_any z l_z u_z W)
            have M1 := hid (fun W : World => rsubm_any (fP b) x.toNat z.toNat hpb HXI.out HXK.out W)
            have M2 := hid (fun W : World => rmul_any (fP b) (wdn (fP b) ns i k) (subm (fP b) x.toNat z.toNat) hpb (wdn_lt (by omega) _ _ _) (Nat.lt_trans (subm_lt _ _ (by omega)) hpb) W)
            rw [← EN.out] at M2
            obtain ⟨dk, hdk⟩ : ∃ y, wdn (fP b) ns i k = y := ⟨_, rfl⟩
            rw [hdk] at M2 X_D
            clear hdk
            obtain ⟨dn, hdn⟩ : ∃ y, wdn (fP b) ns i (k + 1) = y := ⟨_, rfl⟩
            rw [hdn] at M2
            have HDN := hid hdn
            obtain ⟨df, hdf⟩ : ∃ y, subm (fP b) x.toNat z.toNat = y := ⟨_, rfl⟩
            rw [hdf] at M1 M2
            obtain ⟨xt, hxt⟩ : ∃ y, x.toNat = y := ⟨_, rfl⟩
            obtain ⟨zt, hzt⟩ : ∃ y, z.toNat = y := ⟨_, rfl⟩
            rw [hxt] at P1 M1
            rw [hzt] at P2 M1
            clear hdn hdf hxt hzt EN
            obtain ⟨g9, o9, e9, zd, d0⟩ := (HS.out.below BW.out).at H_x.out
            cases e9
            obtain ⟨g9, o9, e9, zq, q0⟩ := (HS.out.below BW.out).at H_z.out
            cases e9
            have z_P := X_P.lt
            have c_P0 := X_P.cell (i := 0) rfl
            have c_P1 := X_P.cell (i := 1) rfl
            have c_P2 := X_P.cell (i := 2) rfl
            have c_P3 := X_P.cell (i := 3) rfl
            have z_D := X_D.lt
            have c_D0 := X_D.cell (i := 0) rfl
            have c_D1 := X_D.cell (i := 1) rfl
            have c_D2 := X_D.cell (i := 2) rfl
            have c_D3 := X_D.cell (i := 3) rfl
            go_wp2_with fail
            refine wp_region_soft (C := fun W' => Below v5.heap.size v5 W') 15 (by kernel_rfl) (by kernel_rfl) ((Below.refl _ _).drew) ?_
            simp only [List.take_succ_cons, List.take_zero, List.drop_succ_cons, List.drop_zero]
            refine wpQuiet_step (fun K hK => ?_)
            rw [if_pos (by rfl)]
            refine ⟨vec (fP b), fun W' hW => ?_, hK _ ?_⟩
            · have e_0 := (hW.cell (p := ⟨bP, 0, none⟩) z_P).trans c_P0
              have e_1 := (hW.cell (p := ⟨bP, 1, none⟩) z_P).trans c_P1
              have e_2 := (hW.cell (p := ⟨bP, 2, none⟩) z_P).trans c_P2
              have e_3 := (hW.cell (p := ⟨bP, 3, none⟩) z_P).trans c_P3
              go_simp
            clear hK K
            simp only [Act.put, List.setIfInBounds_toArray, List.set_cons_zero, List.set_cons_succ]
            refine wpQuiet_step (fun K hK => ?_)
            rw [if_pos (by rfl)]
            refine ⟨vec dk, fun W' hW => ?_, hK _ ?_⟩
            · have e_0 := (hW.cell (p := ⟨bD, 0, none⟩) z_D).trans c_D0
              have e_1 := (hW.cell (p := ⟨bD, 1, none⟩) z_D).trans c_D1
              have e_2 := (hW.cell (p := ⟨bD, 2, none⟩) z_D).trans c_D2
              have e_3 := (hW.cell (p := ⟨bD, 3, none⟩) z_D).trans c_D3
              go_simp
            clear hK K
            simp only [Act.put, List.setIfInBounds_toArray, List.set_cons_zero, List.set_cons_succ]
            refine wpQuiet_step (fun K hK => ?_)
            rw [if_pos (by rfl)]
            refine ⟨vec (fP b), fun W' hW => ?_, hK _ ?_⟩
            · have e_0 := (hW.cell (p := ⟨bP, 0, none⟩) z_P).trans c_P0
              have e_1 := (hW.cell (p := ⟨bP, 1, none⟩) z_P).trans c_P1
              have e_2 := (hW.cell (p := ⟨bP, 2, none⟩) z_P).trans c_P2
              have e_3 := (hW.cell (p := ⟨bP, 3, none⟩) z_P).trans c_P3
              go_simp
            clear hK K
            simp only [Act.put, List.setIfInBounds_toArray, List.set_cons_zero, List.set_cons_succ]
            refine wpQuiet_step (fun K hK => ?_)
            rw [if_pos (by rfl)]
            refine ⟨.slice (some ⟨ga, oa, none⟩) n sc, fun W' hW => ?_, hK _ ?_⟩
            · go_simp
            clear hK K
            simp only [Act.put, List.setIfInBounds_toArray, List.set_cons_zero, List.set_cons_succ]
            refine wpQuiet_step (fun K hK => ?_)
            rw [if_pos (by rfl)]
            refine ⟨.int .i64 (i : Int), fun W' hW => ?_, hK _ ?_⟩
            · go_simp
            clear hK K
            simp only [Act.put, List.setIfInBounds_toArray, List.set_cons_zero, List.set_cons_succ]
            refine wpQuiet_step (fun K hK => ?_)
            rw [if_pos (by rfl)]
            refine ⟨.pointer (some ⟨ga, oa + i, none⟩), fun W' hW => ?_, hK _ ?_⟩
            · go_simp
            clear hK K
            simp only [Act.put, List.setIfInBounds_toArray, List.set_cons_zero, List.set_cons_succ]
            refine wpQuiet_step (fun K hK => ?_)
            rw [if_pos (by rfl)]
            refine ⟨.int .i64 x, fun W' hW => ?_, hK _ ?_⟩
            · have e_0 := (hW.cell (p := ⟨ga, oa + i, none⟩) zd).trans d0
              go_simp
            clear hK K
            simp only [Act.put, List.setIfInBounds_toArray, List.set_cons_zero, List.set_cons_succ]
            refine wpQuiet_step (fun K hK => ?_)
            rw [if_pos (by rfl)]
            refine ⟨vec xt, fun W' hW => ?_, hK _ ?_⟩
            · go_simp
              refine (P1.out _).mono ?_
              rintro e w' ⟨rfl, b⟩
              exact ⟨rfl, hW.trans (b.mono hW.size)⟩
            clear hK K
            simp only [Act.put, List.setIfInBounds_toArray, List.set_cons_zero, List.set_cons_succ]
            refine wpQuiet_step (fun K hK => ?_)
            rw [if_pos (by rfl)]
            refine ⟨.slice (some ⟨ga, oa, none⟩) n sc, fun W' hW => ?_, hK _ ?_⟩
            · go_simp
            clear hK K
            simp only [Act.put, List.setIfInBounds_toArray, List.set_cons_zero, List.set_cons_succ]
            refine wpQuiet_step (fun K hK => ?_)
            rw [if_pos (by rfl)]
            refine ⟨.int .i64 (k : Int), fun W' hW => ?_, hK _ ?_⟩
            · go_simp
            clear hK K
            simp only [Act.put, List.setIfInBounds_toArray, List.set_cons_zero, List.set_cons_succ]
            refine wpQuiet_step (fun K hK => ?_)
            rw [if_pos (by rfl)]
            refine ⟨.pointer (some ⟨ga, oa + k, none⟩), fun W' hW => ?_, hK _ ?_⟩
            · go_simp
            clear hK K
            simp only [Act.put, List.setIfInBounds_toArray, List.set_cons_zero, List.set_cons_succ]
            refine wpQuiet_step (fun K hK => ?_)
            rw [if_pos (by rfl)]
            refine ⟨.int .i64 z, fun W' hW => ?_, hK _ ?_⟩
            · have e_0 := (hW.cell (p := ⟨ga, oa + k, none⟩) zq).trans q0
              go_simp
            clear hK K
            simp only [Act.put, List.setIfInBounds_toArray, List.set_cons_zero, List.set_cons_succ]
            refine wpQuiet_step (fun K hK => ?_)
            rw [if_pos (by rfl)]
            refine ⟨vec zt, fun W' hW => ?_, hK _ ?_⟩
            · go_simp
              refine (P2.out _).mono ?_
              rintro e w' ⟨rfl, b⟩
              exact ⟨rfl, hW.trans (b.mono hW.size)⟩
            clear hK K
            simp only [Act.put, List.setIfInBounds_toArray, List.set_cons_zero, List.set_cons_succ]
            refine wpQuiet_step (fun K hK => ?_)
            rw [if_pos (by rfl)]
            refine ⟨vec df, fun W' hW => ?_, hK _ ?_⟩
            · go_simp
              refine (M1.out _).mono ?_
              rintro e w' ⟨rfl, b⟩
              exact ⟨rfl, hW.trans (b.mono hW.size)⟩
            clear hK K
            simp only [Act.put, List.setIfInBounds_toArray, List.set_cons_zero, List.set_cons_succ]
            refine wpQuiet_step (fun K hK => ?_)
            rw [if_pos (by rfl)]
            refine ⟨vec dn, fun W' hW => ?_, hK _ ?_⟩
            · go_simp
              refine (M2.out _).mono ?_
              rintro e w' ⟨rfl, b⟩
              exact ⟨rfl, hW.trans (b.mono hW.size)⟩
            clear hK K
            simp only [Act.put, List.setIfInBounds_toArray, List.set_cons_zero, List.set_cons_succ]
            refine wpQuiet_nil ?_
            intro ws0 hW9
            clear zd d0 zq q0 z_P c_P0 c_P1 c_P2 c_P3 z_D c_D0 c_D1 c_D2 c_D3
            replace N_y := hid (owns_keep N_y.out hW9)
            replace X_P := X_P.keep hW9
            replace X_D := X_D.keep hW9
            replace BW := hid (BW.out.trans (hW9.mono BW.out.size))
            clear hW9
            have z_D := X_D.lt
            have c_D0 := X_D.cell (i := 0) rfl
            have f_D0 := X_D.frozen 0
            have c_D1 := X_D.cell (i := 1) rfl
            have f_D1 := X_D.frozen 1
            have c_D2 := X_D.cell (i := 2) rfl
            have f_D2 := X_D.frozen 2
            have c_D3 := X_D.cell (i := 3) rfl
            have f_D3 := X_D.frozen 3
            go_wp2
            obtain ⟨v6, hs9⟩ : ∃ q, ((((ws0.setCell ⟨bD, 0, none⟩ (.int .u64 (limb dn 0 : Int))).setCell ⟨bD, 1, none⟩ (.int .u64 (limb dn 1 : Int))).setCell ⟨bD, 2, none⟩ (.int .u64 (limb dn 2 : Int))).setCell ⟨bD, 3, none⟩ (.int .u64 (limb dn 3 : Int))) = q := ⟨_, rfl⟩
            have O9 : Only (fun k => k = bD) ws0 v6 := by rw [← hs9]; exact only_set4 _ _ _ _ _ _
            have S9 : Blk v6 (bD) 29 [.int .u64 (limb dn 0 : Int), .int .u64 (limb dn 1 : Int), .int .u64 (limb dn 2 : Int), .int .u64 (limb dn 3 : Int)] := by rw [← hs9]; exact X_D.set4 (.int .u64 (limb dn 0 : Int)) (.int .u64 (limb dn 1 : Int)) (.int .u64 (limb dn 2 : Int)) (.int .u64 (limb dn 3 : Int))
            rw [hs9]
            clear hs9
            clear z_D c_D0 f_D0 c_D1 f_D1 c_D2 f_D2 c_D3 f_D3
            replace X_P := X_P.only O9 (show ¬ (bP = bD) by omega)
            replace N_y := hid (owns_only N_y.out O9 (fun k hk => by have := hk; have := q_y_D k hk; omega))
            replace BW := hid (BW.out.trans (O9.below (fun k h => by cases h; omega) BW.out.size))
            replace X_D := S9
            clear O9 S9
            rw [← HDN.out] at X_D
            go_roundw
            case rel => exact ⟨k + 1, by omega, by go_num, X_P, X_D, N_y.out, BW.out⟩
            case measure => simp [intOf]; omega
        · skip
          obtain rfl : n = k := by omega
          clear hk
          have RI := hid (fun W : World => rinv_any (fP b) (wdn (fP b) ns i n) hpb (by omega) (wdn_lt (by omega) _ _ _) W)
          have EI : powm (fP b) (wdn (fP b) ns i n) (fP b - 2) = wgt (fP b) ns i := by unfold wgt; rw [show wdn (fP b) ns i n = den (fP b) (ns.getD i 0) (oth ns i) by unfold wdn; rw [oth_all (by rw [HL.out]; exact Nat.le_refl _)]]; rfl
          rw [EI] at RI
          clear EI
          obtain ⟨dk, hdk⟩ : ∃ y, wdn (fP b) ns i n = y := ⟨_, rfl⟩
          rw [hdk] at RI X_D
          clear hdk
          have T1 := hid (take_next (wgs_at (p := fP b) (show i < ns.length by rw [HL.out]; exact hi9)))
          obtain ⟨z, hz⟩ : ∃ z, wgt (fP b) ns i = z := ⟨_, rfl⟩
          rw [hz] at RI T1
          clear hz
          have z_P := X_P.lt
          have c_P0 := X_P.cell (i := 0) rfl
          have c_P1 := X_P.cell (i := 1) rfl
          have c_P2 := X_P.cell (i := 2) rfl
          have c_P3 := X_P.cell (i := 3) rfl
          have z_D := X_D.lt
          have c_D0 := X_D.cell (i := 0) rfl
          have c_D1 := X_D.cell (i := 1) rfl
          have c_D2 := X_D.cell (i := 2) rfl
          have c_D3 := X_D.cell (i := 3) rfl
          go_wp2_with (first
            | (go_at_call 46; refine (RI.out _).mono ?_; rintro e w1 ⟨rfl, b1⟩; have B1 := hid (BW.out.trans (b1.mono BW.out.size)); have O6a := hid (owns_keep N_y.out b1); clear b1)
            | (at_builtin; refine wpList_append_own _ rfl _ _ 39 rfl v1.heap.size 29 i0 _ 4 32 Tryd.underlying39 hi hz0 hz1 hz2 rfl (by decide) _ i _ rfl (O6a.out.alloc _) ⟨w1.heap.size, 0, none⟩ 1 1 (limbs z) rfl rfl (Blk.news (t := 29) (Blk.new (by simp))) (by simp [Value.oneCell']) (by unfold maxLen; omega) (by omega) (by have := B1.out.size; simp; omega) ?_; intro v6 w2 ho hg2 _))
          have B2 := hid (Below.grown (B1.out.alloc B1.out.size _) hg2 (by have := B1.out.size; simp; omega) (fun j hj => by have := (O6a.out.lt j hj).1; omega))
          have ho' : w2.ownsRow v1.heap.size 29 4 v6 (i + 1) (nums ((wgs (fP b) ns).take (i + 1))) := by rw [T1.out, nums_snoc]; exact ho
          go_roundw
          case rel => exact ⟨i + 1, _, rfl, by omega, by go_num, B2.out, ho'⟩
          case measure => simp [intOf]; omega
    · skip
      obtain rfl : n = i := by omega
      go_wp2
      refine bodyPost_ret (by simp only [results, Tryd.results16]; go_simp; try rfl) rfl ?_
      exact ⟨_, rfl, by have q := N_y.out; rw [List.take_of_length_le (by rw [wgs_len, HL.out]; exact Nat.le_refl _)] at q; exact owns_mono q BW0.out.size, BW0.out.trans (BW.out.mono BW0.out.size)⟩
end Go.Proofs.YthdjjogdjabflaaDoor
