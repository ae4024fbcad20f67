/-
  The reference of weights, coefficients and Lagrange polynomials.
-/
import Derived.Test.YtogenbggjodcnaaDoorLagA
import Derived.Test.YtogenbggjodcnaaDoorRefV
import Derived.Test.YtogenbggjodcnaaDoorLagB
import Derived.Test.YtogenbggjodcnaaDoorSl08
import Derived.Deep.RegionHeld3
/-
  The reference's weights.
-/
namespace Go.Proofs.YtogenbggjodcnaaDoor
open Go.RowKit

attribute [local go_sem] Oper.semAt_some
theorem info_w9 : (Tryd.prog.info? 28).map (fun i => (i.zero, i.size, i.bytes)) = some (some (.agg #[.int .u64 0, .int .u64 0, .int .u64 0, .int .u64 0]), 4, 32) := by kernel_rfl
set_option maxRecDepth 100000 in
set_option maxHeartbeats 4000000 in
theorem rweights_any (b : Bool) (v : Value) (xs : List Int) (w : World) (hS : IntSl w v xs) (hl : xs.length < 1000000) (hall : ∀ x ∈ xs, 1 ≤ x ∧ x ≤ 255) :
    Calls Tryd.prog 98 #[vec (fP b), v] w (RetNums 28 (wgs (fP b) (pts xs)) w) := by
  have BW := hid (Below.refl w.heap.size w)
  have HS := hid hS
  obtain ⟨sa, sc, rfl, _⟩ := hS
  have HALL := hid hall
  have hlen := pts_len xs
  have hlt := pts_lt hall (show 255 < fP b by cases b <;> decide)
  have HAT := hid (fun (i : Nat) (x : Int) (h : xs[i]? = some x) => pts_at h)
  obtain ⟨ns, hns⟩ : ∃ ns, pts xs = ns := ⟨_, rfl⟩
  rw [hns] at hlen hlt HAT ⊢
  obtain ⟨n, hn⟩ : ∃ n, xs.length = n := ⟨_, rfl⟩
  rw [hn] at hlen hl HS ⊢
  have HN := hid hn
  have HL := hid hlen
  have HLT := hid hlt
  clear hns hn hlen hlt hall
  have hp2 := fP_two b
  have hpb := fP_lt b
  unfold RetNums
  rw [wgs_len, HL.out]
  obtain ⟨i0, hi, hz0, hz1, hz2⟩ := info_parts info_w9
  have RO := hid (fun W : World => (rone_any W).mono (R' := Ret (vec 1) W) (by rintro e w' ⟨rfl, rfl⟩; exact ⟨rfl, (Below.refl _ _).alloc (Nat.le_refl _) _⟩))
  go_enter Tryd.func98, Tryd.ntmps98
  go_upto_region 1 with (fail)
  obtain ⟨v1, hv9⟩ : ∃ v, (w.alloc (.cells #[.int .u64 (limb (fP b) 0 : Int), .int .u64 (limb (fP b) 1 : Int), .int .u64 (limb (fP b) 2 : Int), .int .u64 (limb (fP b) 3 : Int)] 28)) = v := ⟨_, rfl⟩
  have hG9 : Below w.heap.size w v1 := by rw [← hv9]; go_grown
  have X_P : Blk v1 (w.heap.size) 28 [.int .u64 (limb (fP b) 0 : Int), .int .u64 (limb (fP b) 1 : Int), .int .u64 (limb (fP b) 2 : Int), .int .u64 (limb (fP b) 3 : Int)] := by rw [← hv9]; exact Blk.new rfl
  obtain ⟨bP, hb9⟩ : ∃ k, w.heap.size = k := ⟨_, rfl⟩
  rw [hb9] at X_P
  have g_bP : w.heap.size ≤ bP := by rw [← hb9]; exact BW.out.size
  replace BW := hid (BW.out.trans (hG9.mono BW.out.size))
  clear hG9
  rw [hv9]
  try rw [hb9]
  clear hv9 hb9
  go_wp2
  have BW0 := BW
  have XP0 := X_P
  replace HS := hid (HS.out.below BW.out)
  clear BW X_P
  go_loopw [5, 6] (fun y ix wr => ∃ (i : Nat) (z9 : Value), z9 = y ∧ i ≤ n ∧ ix = .int .i64 (i : Int) ∧ Below v1.heap.size v1 wr ∧ wr.ownsRow v1.heap.size 28 4 y i (nums ((wgs (fP b) ns).take i))) (fun _ ix _ => n - (intOf ix).toNat)
  case atStart => exact ⟨0, _, rfl, Nat.zero_le _, rfl, Below.refl _ _, by simpa [nums] using World.ownsRow_nil _ _ _ _⟩
  case round =>
    obtain ⟨i, yv, rfl, hk, rfl, hB, hO⟩ := hrel
    have BW := hid hB
    have N_y := hid hO
    have X_P := XP0.keep hB
    clear hB hO
    obtain ⟨v2, hv9⟩ : ∃ v, v = wr := ⟨_, rfl⟩
    subst hv9
    by_cases hi9 : i < n
    · skip
      obtain ⟨x, h9⟩ : ∃ x, xs[i]? = some x := ⟨xs[i]'(by rw [HN.out]; exact hi9), List.getElem?_eq_getElem _⟩
      obtain ⟨l_x, u_x⟩ := HALL.out x (List.mem_of_getElem? h9)
      have HP_x := hid (HAT.out _ _ h9)
      have H_x := hid h9
      clear h9
      obtain ⟨ga, oa, rfl, _, _⟩ := (HS.out.below BW.out).at H_x.out
      have hi0 : (0 : Int) ≤ (i : Int) := by omega
      have hin : (i : Int) < (n : Int) := by omega
      go_wp2_with fail
      refine (RO.out _).mono ?_
      rintro e v3 ⟨rfl, b9⟩
      replace N_y := hid (owns_keep N_y.out b9)
      replace X_P := X_P.keep b9
      replace BW := hid (BW.out.trans (b9.mono BW.out.size))
      clear b9
      go_wp2
      obtain ⟨v4, hv9⟩ : ∃ v, (v3.alloc (.cells #[.int .u64 (limb (1) 0 : Int), .int .u64 (limb (1) 1 : Int), .int .u64 (limb (1) 2 : Int), .int .u64 (limb (1) 3 : Int)] 28)) = v := ⟨_, rfl⟩
      have hG9 : Below v3.heap.size v3 v4 := by rw [← hv9]; go_grown
      have X_D : Blk v4 (v3.heap.size) 28 [.int .u64 (limb (1) 0 : Int), .int .u64 (limb (1) 1 : Int), .int .u64 (limb (1) 2 : Int), .int .u64 (limb (1) 3 : Int)] := by rw [← hv9]; exact Blk.new rfl
      obtain ⟨bD, hb9⟩ : ∃ k, v3.heap.size = k := ⟨_, rfl⟩
      rw [hb9] at X_D
      have g_bD : v1.heap.size ≤ bD := by rw [← hb9]; exact BW.out.size
      have q_P_bD : bP < bD := by rw [← hb9]; exact X_P.lt
      have q_y_D := fun k hk => (N_y.out.lt k hk).2
      rw [hb9] at q_y_D
      replace N_y := hid (owns_keep N_y.out hG9)
      replace X_P := X_P.keep hG9
      replace BW := hid (BW.out.trans (hG9.mono BW.out.size))
      clear hG9
      rw [hv9]
      try rw [hb9]
      clear hv9 hb9
      have X_D0 : Blk v4 (bD) 28 [.int .u64 (limb (wdn (fP b) ns i 0) 0 : Int), .int .u64 (limb (wdn (fP b) ns i 0) 1 : Int), .int .u64 (limb (wdn (fP b) ns i 0) 2 : Int), .int .u64 (limb (wdn (fP b) ns i 0) 3 : Int)] := by rw [wdn_zero]; exact X_D
      go_loopw [8] (fun ix wr => ∃ k : Nat, k ≤ n ∧ ix = .int .i64 (k : Int) ∧ Blk wr (bP) 28 [.int .u64 (limb (fP b) 0 : Int), .int .u64 (limb (fP b) 1 : Int), .int .u64 (limb (fP b) 2 : Int), .int .u64 (limb (fP b) 3 : Int)] ∧ Blk wr (bD) 28 [.int .u64 (limb (wdn (fP b) ns i k) 0 : Int), .int .u64 (limb (wdn (fP b) ns i k) 1 : Int), .int .u64 (limb (wdn (fP b) ns i k) 2 : Int), .int .u64 (limb (wdn (fP b) ns i k) 3 : Int)] ∧ wr.ownsRow v1.heap.size 28 4 yv i (nums ((wgs (fP b) ns).take i)) ∧ Below v1.heap.size v1 wr) (fun ix _ => n - (intOf ix).toNat)
      case atStart => exact ⟨0, Nat.zero_le _, rfl, X_P, X_D0, N_y.out, BW.out⟩
      case round =>
        clear X_P X_D N_y BW
        obtain ⟨k, hk_k, rfl, X_P, X_D, n9_y, b9⟩ := hrel
        obtain ⟨v5, hv9⟩ : ∃ v, v = wr := ⟨_, rfl⟩
        subst hv9
        have N_y := hid n9_y
        clear n9_y
        have BW := hid b9
        clear b9
        by_cases hk : k < n
        · skip
          have hk0 : (0 : Int) ≤ (k : Int) := by omega
          have hkn : (k : Int) < (n : Int) := by omega
          by_cases e : k = i
          · skip
            have hd : ((k : Int) != (i : Int)) = false := by simp [e]
            have ES := hid (wdn_skip (p := fP b) (xs := ns) (by rw [HL.out]; exact hk) e)
            clear e
            go_wp2
            go_roundw
            case rel => exact ⟨k + 1, by omega, by go_num, X_P, by rw [ES.out]; exact X_D, N_y.out, BW.out⟩
            case measure => simp [intOf]; omega
          · skip
            have hd : ((k : Int) != (i : Int)) = true := by simp; omega
            have EN := hid (wdn_next (p := fP b) (xs := ns) (by rw [HL.out]; exact hk) e)
            clear e
            obtain ⟨z, h9⟩ : ∃ x, xs[k]? = some x := ⟨xs[k]'(by rw [HN.out]; exact hk), List.getElem?_eq_getElem _⟩
            obtain ⟨l_z, u_z⟩ := HALL.out z (List.mem_of_getElem? h9)
            have HP_z := hid (HAT.out _ _ h9)
            have H_z := hid h9
            clear h9
            have HXI := hid (HLT.out _ (getD_mem (show i < ns.length by rw [HL.out]; exact hi9)))
            have HXK := hid (HLT.out _ (getD_mem (show k < ns.length by rw [HL.out]; exact hk)))
            rw [HP_x.out, HP_z.out] at EN
            rw [HP_x.out] at HXI
            rw [HP_z.out] at HXK
            have P1 := hid (fun W : World => point_any x l_x u_x W)
            have P2 := hid (fun W : World => point_any z l_z u_z W)
            have M1 := hid (fun W : World => rsubm_any (fP b) x.toNat z.toNat hpb HXI.out HXK.out W)
            have M2 := hid (fun W : World => rmul_any (fP b) (wdn (fP b) ns i k) (subm (fP b) x.toNat z.toNat) hpb (wdn_lt (by omega) _ _ _) (Nat.lt_trans (subm_lt _ _ (by omega)) hpb) W)
            rw [← EN.out] at M2
            obtain ⟨dk, hdk⟩ : ∃ y, wdn (fP b) ns i k = y := ⟨_, rfl⟩
            rw [hdk] at M2 X_D
            clear hdk
            obtain ⟨dn, hdn⟩ : ∃ y, wdn (fP b) ns i (k + 1) = y := ⟨_, rfl⟩
            rw [hdn] at M2
            have HDN := hid hdn
            obtain ⟨df, hdf⟩ : ∃ y, subm (fP b) x.toNat z.toNat = y := ⟨_, rfl⟩
            rw [hdf] at M1 M2
            obtain ⟨xt, hxt⟩ : ∃ y, x.toNat = y := ⟨_, rfl⟩
            obtain ⟨zt, hzt⟩ : ∃ y, z.toNat = y := ⟨_, rfl⟩
            rw [hxt] at P1 M1
            rw [hzt] at P2 M1
            clear hdn hdf hxt hzt EN
            obtain ⟨g9, o9, e9, zd, d0⟩ := (HS.out.below BW.out).at H_x.out
            cases e9
            obtain ⟨g9, o9, e9, zq, q0⟩ := (HS.out.below BW.out).at H_z.out
            cases e9
            have z_P := X_P.lt
            have c_P0 := X_P.cell (i := 0) rfl
            have c_P1 := X_P.cell (i := 1) rfl
            have c_P2 := X_P.cell (i := 2) rfl
            have c_P3 := X_P.cell (i := 3) rfl
            have z_D := X_D.lt
            have c_D0 := X_D.cell (i := 0) rfl
            have c_D1 := X_D.cell (i := 1) rfl
            have c_D2 := X_D.cell (i := 2) rfl
            have c_D3 := X_D.cell (i := 3) rfl
            go_wp2_with fail
            refine wp_region_soft (C := fun W' => Below v5.heap.size v5 W') 15 (by kernel_rfl) (by kernel_rfl) ((Below.refl _ _).drew) ?_
            simp only [List.take_succ_cons, List.take_zero, List.drop_succ_cons, List.drop_zero]
            refine wpQuiet_step (fun K hK => ?_)
            rw [if_pos (by rfl)]
            refine ⟨vec (fP b), fun W' hW => ?_, hK _ ?_⟩
            · have e_0 := (hW.cell (p := ⟨bP, 0, none⟩) z_P).trans c_P0
              have e_1 := (hW.cell (p := ⟨bP, 1, none⟩) z_P).trans c_P1
              have e_2 := (hW.cell (p := ⟨bP, 2, none⟩) z_P).trans c_P2
              have e_3 := (hW.cell (p := ⟨bP, 3, none⟩) z_P).trans c_P3
              go_simp
            clear hK K
            simp only [Act.put, List.setIfInBounds_toArray, List.set_cons_zero, List.set_cons_succ]
            refine wpQuiet_step (fun K hK => ?_)
            rw [if_pos (by rfl)]
            refine ⟨vec dk, fun W' hW => ?_, hK _ ?_⟩
            · have e_0 := (hW.cell (p := ⟨bD, 0, none⟩) z_D).trans c_D0
              have e_1 := (hW.cell (p := ⟨bD, 1, none⟩) z_D).trans c_D1
              have e_2 := (hW.cell (p := ⟨bD, 2, none⟩) z_D).trans c_D2
              have e_3 := (hW.cell (p := ⟨bD, 3, none⟩) z_D).trans c_D3
              go_simp
            clear hK K
            simp only [Act.put, List.setIfInBounds_toArray, List.set_cons_zero, List.set_cons_succ]
            refine wpQuiet_step (fun K hK => ?_)
            rw [if_pos (by rfl)]
            refine ⟨vec (fP b), fun W' hW => ?_, hK _ ?_⟩
            · have e_0 := (hW.cell (p := ⟨bP, 0, none⟩) z_P).trans c_P0
              have e_1 := (hW.cell (p := ⟨bP, 1, none⟩) z_P).trans c_P1
              have e_2 := (hW.cell (p := ⟨bP, 2, none⟩) z_P).trans c_P2
              have e_3 := (hW.cell (p := ⟨bP, 3, none⟩) z_P).trans c_P3
              go_simp
            clear hK K
            simp only [Act.put, List.setIfInBounds_toArray, List.set_cons_zero, List.set_cons_succ]
            refine wpQuiet_step (fun K hK => ?_)
            rw [if_pos (by rfl)]
            refine ⟨.slice (some ⟨ga, oa, none⟩) n sc, fun W' hW => ?_, hK _ ?_⟩
            · go_simp
            clear hK K
            simp only [Act.put, List.setIfInBounds_toArray, List.set_cons_zero, List.set_cons_succ]
            refine wpQuiet_step (fun K hK => ?_)
            rw [if_pos (by rfl)]
            refine ⟨.int .i64 (i : Int), fun W' hW => ?_, hK _ ?_⟩
            · go_simp
            clear hK K
            simp only [Act.put, List.setIfInBounds_toArray, List.set_cons_zero, List.set_cons_succ]
            refine wpQuiet_step (fun K hK => ?_)
            rw [if_pos (by rfl)]
            refine ⟨.pointer (some ⟨ga, oa + i, none⟩), fun W' hW => ?_, hK _ ?_⟩
            · go_simp
            clear hK K
            simp only [Act.put, List.setIfInBounds_toArray, List.set_cons_zero, List.set_cons_succ]
            refine wpQuiet_step (fun K hK => ?_)
            rw [if_pos (by rfl)]
            refine ⟨.int .i64 x, fun W' hW => ?_, hK _ ?_⟩
            · have e_0 := (hW.cell (p := ⟨ga, oa + i, none⟩) zd).trans d0
              go_simp
            clear hK K
            simp only [Act.put, List.setIfInBounds_toArray, List.set_cons_zero, List.set_cons_succ]
            refine wpQuiet_step (fun K hK => ?_)
            rw [if_pos (by rfl)]
            refine ⟨vec xt, fun W' hW => ?_, hK _ ?_⟩
            · go_simp
              refine (P1.out _).mono ?_
              rintro e w' ⟨rfl, b⟩
              exact ⟨rfl, hW.trans (b.mono hW.size)⟩
            clear hK K
            simp only [Act.put, List.setIfInBounds_toArray, List.set_cons_zero, List.set_cons_succ]
            refine wpQuiet_step (fun K hK => ?_)
            rw [if_pos (by rfl)]
            refine ⟨.slice (some ⟨ga, oa, none⟩) n sc, fun W' hW => ?_, hK _ ?_⟩
            · go_simp
            clear hK K
            simp only [Act.put, List.setIfInBounds_toArray, List.set_cons_zero, List.set_cons_succ]
            refine wpQuiet_step (fun K hK => ?_)
            rw [if_pos (by rfl)]
            refine ⟨.int .i64 (k : Int), fun W' hW => ?_, hK _ ?_⟩
            · go_simp
            clear hK K
            simp only [Act.put, List.setIfInBounds_toArray, List.set_cons_zero, List.set_cons_succ]
            refine wpQuiet_step (fun K hK => ?_)
            rw [if_pos (by rfl)]
            refine ⟨.pointer (some ⟨ga, oa + k, none⟩), fun W' hW => ?_, hK _ ?_⟩
            · go_simp
            clear hK K
            simp only [Act.put, List.setIfInBounds_toArray, List.set_cons_zero, List.set_cons_succ]
            refine wpQuiet_step (fun K hK => ?_)
            rw [if_pos (by rfl)]
            refine ⟨.int .i64 z, fun W' hW => ?_, hK _ ?_⟩
            · have e_0 := (hW.cell (p := ⟨ga, oa + k, none⟩) zq).trans q0
              go_simp
            clear hK K
            simp only [Act.put, List.setIfInBounds_toArray, List.set_cons_zero, List.set_cons_succ]
            refine wpQuiet_step (fun K hK => ?_)
            rw [if_pos (by rfl)]
            refine ⟨vec zt, fun W' hW => ?_, hK _ ?_⟩
            · go_simp
              refine (P2.out _).mono ?_
              rintro e w' ⟨rfl, b⟩
              exact ⟨rfl, hW.trans (b.mono hW.size)⟩
            clear hK K
            simp only [Act.put, List.setIfInBounds_toArray, List.set_cons_zero, List.set_cons_succ]
            refine wpQuiet_step (fun K hK => ?_)
            rw [if_pos (by rfl)]
            refine ⟨vec df, fun W' hW => ?_, hK _ ?_⟩
            · go_simp
              refine (M1.out _).mono ?_
              rintro e w' ⟨rfl, b⟩
              exact ⟨rfl, hW.trans (b.mono hW.size)⟩
            clear hK K
            simp only [Act.put, List.setIfInBounds_toArray, List.set_cons_zero, List.set_cons_succ]
            refine wpQuiet_step (fun K hK => ?_)
            rw [if_pos (by rfl)]
            refine ⟨vec dn, fun W' hW => ?_, hK _ ?_⟩
            · go_simp
              refine (M2.out _).mono ?_
              rintro e w' ⟨rfl, b⟩
              exact ⟨rfl, hW.trans (b.mono hW.size)⟩
            clear hK K
            simp only [Act.put, List.setIfInBounds_toArray, List.set_cons_zero, List.set_cons_succ]
            refine wpQuiet_nil ?_
            intro ws0 hW9
            clear zd d0 zq q0 z_P c_P0 c_P1 c_P2 c_P3 z_D c_D0 c_D1 c_D2 c_D3
            replace N_y := hid (owns_keep N_y.out hW9)
            replace X_P := X_P.keep hW9
            replace X_D := X_D.keep hW9
            replace BW := hid (BW.out.trans (hW9.mono BW.out.size))
            clear hW9
            have z_D := X_D.lt
            have c_D0 := X_D.cell (i := 0) rfl
            have f_D0 := X_D.frozen 0
            have c_D1 := X_D.cell (i := 1) rfl
            have f_D1 := X_D.frozen 1
            have c_D2 := X_D.cell (i := 2) rfl
            have f_D2 := X_D.frozen 2
            have c_D3 := X_D.cell (i := 3) rfl
            have f_D3 := X_D.frozen 3
            go_wp2
            obtain ⟨v6, hs9⟩ : ∃ q, ((((ws0.setCell ⟨bD, 0, none⟩ (.int .u64 (limb dn 0 : Int))).setCell ⟨bD, 1, none⟩ (.int .u64 (limb dn 1 : Int))).setCell ⟨bD, 2, none⟩ (.int .u64 (limb dn 2 : Int))).setCell ⟨bD, 3, none⟩ (.int .u64 (limb dn 3 : Int))) = q := ⟨_, rfl⟩
            have O9 : Only (fun k => k = bD) ws0 v6 := by rw [← hs9]; exact only_set4 _ _ _ _ _ _
            have S9 : Blk v6 (bD) 28 [.int .u64 (limb dn 0 : Int), .int .u64 (limb dn 1 : Int), .int .u64 (limb dn 2 : Int), .int .u64 (limb dn 3 : Int)] := by rw [← hs9]; exact X_D.set4 (.int .u64 (limb dn 0 : Int)) (.int .u64 (limb dn 1 : Int)) (.int .u64 (limb dn 2 : Int)) (.int .u64 (limb dn 3 : Int))
            rw [hs9]
            clear hs9
            clear z_D c_D0 f_D0 c_D1 f_D1 c_D2 f_D2 c_D3 f_D3
            replace X_P := X_P.only O9 (show ¬ (bP = bD) by omega)
            replace N_y := hid (owns_only N_y.out O9 (fun k hk => by have := hk; have := q_y_D k hk; omega))
            replace BW := hid (BW.out.trans (O9.below (fun k h => by cases h; omega) BW.out.size))
            replace X_D := S9
            clear O9 S9
            rw [← HDN.out] at X_D
            go_roundw
            case rel => exact ⟨k + 1, by omega, by go_num, X_P, X_D, N_y.out, BW.out⟩
            case measure => simp [intOf]; omega
        · skip
          obtain rfl : n = k := by omega
          clear hk
          have RI := hid (fun W : World => rinv_any (fP b) (wdn (fP b) ns i n) hpb (by omega) (wdn_lt (by omega) _ _ _) W)
          have EI : powm (fP b) (wdn (fP b) ns i n) (fP b - 2) = wgt (fP b) ns i := by unfold wgt; rw [show wdn (fP b) ns i n = den (fP b) (ns.getD i 0) (oth ns i) by unfold wdn; rw [oth_all (by rw [HL.out]; exact Nat.le_refl _)]]; rfl
          rw [EI] at RI
          clear EI
          obtain ⟨dk, hdk⟩ : ∃ y, wdn (fP b) ns i n = y := ⟨_, rfl⟩
          rw [hdk] at RI X_D
          clear hdk
          have T1 := hid (take_next (wgs_at (p := fP b) (show i < ns.length by rw [HL.out]; exact hi9)))
          obtain ⟨z, hz⟩ : ∃ z, wgt (fP b) ns i = z := ⟨_, rfl⟩
          rw [hz] at RI T1
          clear hz
          have z_P := X_P.lt
          have c_P0 := X_P.cell (i := 0) rfl
          have c_P1 := X_P.cell (i := 1) rfl
          have c_P2 := X_P.cell (i := 2) rfl
          have c_P3 := X_P.cell (i := 3) rfl
          have z_D := X_D.lt
          have c_D0 := X_D.cell (i := 0) rfl
          have c_D1 := X_D.cell (i := 1) rfl
          have c_D2 := X_D.cell (i := 2) rfl
          have c_D3 := X_D.cell (i := 3) rfl
          go_wp2_with (first
            | (go_at_call 77; refine (RI.out _).mono ?_; rintro e w1 ⟨rfl, b1⟩; have B1 := hid (BW.out.trans (b1.mono BW.out.size)); have O6a := hid (owns_keep N_y.out b1); clear b1)
            | (at_builtin; refine wpList_append_own _ rfl _ _ 23 rfl v1.heap.size 28 i0 _ 4 32 Tryd.underlying23 hi hz0 hz1 hz2 rfl (by decide) _ i _ rfl (O6a.out.alloc _) ⟨w1.heap.size, 0, none⟩ 1 1 (limbs z) rfl rfl (Blk.news (t := 28) (Blk.new (by simp))) (by simp [Value.oneCell']) (by unfold maxLen; omega) (by omega) (by have := B1.out.size; simp; omega) ?_; intro v6 w2 ho hg2 _))
          have B2 := hid (Below.grown (B1.out.alloc B1.out.size _) hg2 (by have := B1.out.size; simp; omega) (fun j hj => by have := (O6a.out.lt j hj).1; omega))
          have ho' : w2.ownsRow v1.heap.size 28 4 v6 (i + 1) (nums ((wgs (fP b) ns).take (i + 1))) := by rw [T1.out, nums_snoc]; exact ho
          go_roundw
          case rel => exact ⟨i + 1, _, rfl, by omega, by go_num, B2.out, ho'⟩
          case measure => simp [intOf]; omega
    · skip
      obtain rfl : n = i := by omega
      go_wp2
      refine bodyPost_ret (by simp only [results, Tryd.results98]; go_simp; try rfl) rfl ?_
      exact ⟨_, rfl, by have q := N_y.out; rw [List.take_of_length_le (by rw [wgs_len, HL.out]; exact Nat.le_refl _)] at q; exact owns_mono q BW0.out.size, BW0.out.trans (BW.out.mono BW0.out.size)⟩
end Go.Proofs.YtogenbggjodcnaaDoor
/-
  The reference's coefficients for the value at zero.
-/
namespace Go.Proofs.YtogenbggjodcnaaDoor
open Go.RowKit

attribute [local go_sem] Oper.semAt_some
/-- The weight of i times the first k of the other points' negations. -/
noncomputable def zpt (p : Nat) (ns : List Nat) (i k : Nat) : Nat := negs p (wgt p ns i) (oth (ns.take k) i)
theorem zpt_zero (p : Nat) (ns : List Nat) (i : Nat) : zpt p ns i 0 = wgt p ns i := by unfold zpt; rw [oth_zero]; rfl
theorem zpt_next {p : Nat} {ns : List Nat} {i k : Nat} (hk : k < ns.length) (hne : k ≠ i) : zpt p ns i (k + 1) = mulm p (zpt p ns i k) (subm p 0 (ns.getD k 0)) := by unfold zpt; rw [oth_next hk hne, negs_snoc]
theorem zpt_skip {p : Nat} {ns : List Nat} {i k : Nat} (hk : k < ns.length) (he : k = i) : zpt p ns i (k + 1) = zpt p ns i k := by unfold zpt; rw [oth_skip hk he]
theorem zpt_lt {p : Nat} (hp : 0 < p) (ns : List Nat) (i k : Nat) : zpt p ns i k < p := negs_lt hp _ (invm_lt _ hp)
theorem zpt_all {p : Nat} {ns : List Nat} {n : Nat} (h : ns.length ≤ n) (i : Nat) : zpt p ns i n = zco p ns i := by unfold zpt; rw [oth_all h]; rfl
theorem over_none9 {f g : Nat → Nat} {n : Nat} : ∀ t, t < n → (fun u => if u < 0 then f u else g u) t = g t := fun t _ => by simp
theorem put_first {f g : Nat → Nat} {i a n : Nat} (h : a = g i) : ∀ t, t < n → (fun u => if u = i then a else (if u < i then f u else g u)) t = (fun u => if u < i then f u else g u) t := fun t _ => by
  by_cases e : t = i
  · subst e; simp [h]
  · simp [e]
theorem put_again {g : Nat → Nat} {i a r n : Nat} : ∀ t, t < n → (fun u => if u = i then r else g u) t = (fun u => if u = i then r else (fun u => if u = i then a else g u) u) t := fun t _ => by
  by_cases h : t = i <;> simp [h]
end Go.Proofs.YtogenbggjodcnaaDoor
/-
  The reference's polynomial through the points.
-/
namespace Go.Proofs.YtogenbggjodcnaaDoor
open Go.RowKit Go.Shelf

attribute [local go_sem] Oper.semAt_some
set_option maxRecDepth 100000 in
theorem run_madev (w : World) (n : Nat) (hn : n < 1000000) : ∃ wq, (Instr.makeSlice 23 (.int .i64 (n : Int)) (.int .i64 (n : Int))).run Tryd.prog w = .ok (.slice (some ⟨w.heap.size, 0, none⟩) n n) wq ∧ RowF wq w.heap.size 28 w.heap.size n n (fun _ => 0) ∧ w.grownBy wq none := by
  obtain ⟨i0, hi, hz0, hz1, hz2⟩ := info_parts info_w9
  obtain ⟨wq, hmk, hoq, hgq⟩ := run_make_full (P := Tryd.prog) w w.heap.size 23 28 i0 _ 4 Tryd.underlying23 hi hz0 hz1 .i64 .i64 n (by rw [hz2]; omega) (by unfold maxLen; omega) (Nat.le_refl _)
  exact ⟨wq, hmk, ⟨_, hoq, FRow.zero n _ (by rw [Array.length_toList]; exact size_madeCells _ _) (fun j i hj hi => made_zeros n j i hj hi)⟩, hgq⟩
/-- The polynomial of the point i, by the first k of the other points. -/
noncomputable def ipt (p : Nat) (ns ys : List Nat) (i k : Nat) : List Nat := flV p [fac p ns ys i] (oth (ns.take k) i)
theorem ipt_zero (p : Nat) (ns ys : List Nat) (i : Nat) : ipt p ns ys i 0 = [fac p ns ys i] := by unfold ipt; rw [oth_zero]; rfl
theorem ipt_next {p : Nat} {ns : List Nat} {i k : Nat} (ys : List Nat) (hk : k < ns.length) (hne : k ≠ i) : ipt p ns ys i (k + 1) = pmulV p (ipt p ns ys i k) [subm p 0 (ns.getD k 0), 1] := by unfold ipt; rw [oth_next hk hne, flV_snoc]; rfl
theorem ipt_skip {p : Nat} {ns : List Nat} {i k : Nat} (ys : List Nat) (hk : k < ns.length) (he : k = i) : ipt p ns ys i (k + 1) = ipt p ns ys i k := by unfold ipt; rw [oth_skip hk he]
theorem ipt_all {p : Nat} {ns ys : List Nat} {n : Nat} (h : ns.length ≤ n) (i : Nat) : paddV p (itp p ns ys i) (ipt p ns ys i n) = itp p ns ys (i + 1) := by unfold ipt; rw [oth_all h]; rfl
theorem ipt_lt {p : Nat} (hp : 0 < p) (ns ys : List Nat) (i k : Nat) : ∀ x ∈ ipt p ns ys i k, x < p := flV_lt hp _ (by simp) (fun x hx => by rw [List.mem_singleton.1 hx]; exact mulm_lt _ _ hp)
theorem ipt_len {p : Nat} (hp : 0 < p) (ns ys : List Nat) (i k : Nat) : (ipt p ns ys i k).length ≤ ns.length + 1 := by
  unfold ipt
  rw [flV_len hp _ (by simp)]
  have : (oth (ns.take k) i).length ≤ ns.length := by
    unfold oth
    rw [List.length_eraseIdx]
    split <;> simp <;> omega
  simp; omega
theorem nums_two9 {s : Nat} : nums [s, 1] = limbs s ++ [.int .u64 1, .int .u64 0, .int .u64 0, .int .u64 0] := by
  have h := vec_one
  simp only [vec, Value.agg.injEq, Array.mk.injEq] at h
  show limbs s ++ (limbs 1 ++ []) = _
  rw [List.append_nil]
  exact congrArg _ h.symm
theorem rep_get (n t : Nat) : (List.replicate n 0).getD t 0 = 0 := by
  rw [List.getD_eq_getElem?_getD, List.getElem?_replicate]; split <;> rfl
set_option maxRecDepth 100000 in
set_option maxHeartbeats 4000000 in
theorem ritp_any (b : Bool) (v u : Value) (xs : List Int) (ys : List Nat) (w : World) (hS : IntSl w v xs) (hU : NumSl w u ys) (hy : ∀ y ∈ ys, y < fP b) (hl : xs.length < 10000) (he : xs.length = ys.length) (hall : ∀ x ∈ xs, 1 ≤ x ∧ x ≤ 255) :
    Calls Tryd.prog 60 #[vec (fP b), v, u] w (RetSl (itp (fP b) (pts xs) ys xs.length) w) := by
  have BW := hid (Below.refl w.heap.size w)
  have HU := hid hU
  have HY := hid hy
  obtain ⟨au, cu, rfl, _, _⟩ := hU
  have RWC := hid (fun (W : World) (h : IntSl W v xs) => rweights_any b v xs W h (by omega) hall)
  rw [← he] at HU ⊢
  have HE := hid he
  clear he hy
  have HS := hid hS
  obtain ⟨sa, sc, rfl, _⟩ := hS
  have HALL := hid hall
  have hlen := pts_len xs
  have hlt := pts_lt hall (show 255 < fP b by cases b <;> decide)
  have HAT := hid (fun (i : Nat) (x : Int) (h : xs[i]? = some x) => pts_at h)
  obtain ⟨ns, hns⟩ : ∃ ns, pts xs = ns := ⟨_, rfl⟩
  rw [hns] at hlen hlt HAT RWC ⊢
  obtain ⟨n, hn⟩ : ∃ n, xs.length = n := ⟨_, rfl⟩
  rw [hn] at hlen hl HS ⊢
  have HN := hid hn
  have HL := hid hlen
  have HLT := hid hlt
  clear hns hn hlen hlt hall
  have hp2 := fP_two b
  have hpb := fP_lt b
  unfold RetNums at RWC
  rw [wgs_len, HL.out] at RWC
  rw [HN.out] at RWC HE
  have EIL := hid (fun k (h : k ≤ n) => itp_len (p := fP b) (by omega) ns ys k (by rw [HL.out]; exact h))
  have ADC := hid (fun (W : World) (v1 v2 : Value) (i : Nat) (hi : i ≤ n) (h1 : NumSl W v1 (itp (fP b) ns ys i)) (h2 : NumSl W v2 (ipt (fP b) ns ys i n)) => rpadd_sl (fP b) v1 v2 (itp (fP b) ns ys i) (ipt (fP b) ns ys i n) W hpb (by omega) h1 h2 (hid (itp_lt (by omega) ns ys i)) (hid (ipt_lt (by omega) ns ys i n)) (by rw [EIL.out i hi, HL.out]; omega) (by have := ipt_len (p := fP b) (by omega) ns ys i n; rw [HL.out] at this; omega))
  go_enter Tryd.func60, Tryd.ntmps60
  go_wp2_with fail
  obtain ⟨v1, hv9⟩ : ∃ v, (w.alloc (.cells #[.int .u64 (limb (fP b) 0 : Int), .int .u64 (limb (fP b) 1 : Int), .int .u64 (limb (fP b) 2 : Int), .int .u64 (limb (fP b) 3 : Int)] 28)) = v := ⟨_, rfl⟩
  have hG9 : Below w.heap.size w v1 := by rw [← hv9]; go_grown
  have X_P : Blk v1 (w.heap.size) 28 [.int .u64 (limb (fP b) 0 : Int), .int .u64 (limb (fP b) 1 : Int), .int .u64 (limb (fP b) 2 : Int), .int .u64 (limb (fP b) 3 : Int)] := by rw [← hv9]; exact Blk.new rfl
  obtain ⟨bP, hb9⟩ : ∃ k, w.heap.size = k := ⟨_, rfl⟩
  rw [hb9] at X_P
  have g_bP : w.heap.size ≤ bP := by rw [← hb9]; exact BW.out.size
  replace BW := hid (BW.out.trans (hG9.mono BW.out.size))
  clear hG9
  rw [hv9]
  try rw [hb9]
  clear hv9 hb9
  refine (RWC.out _ (HS.out.below BW.out)).mono ?_
  rintro e v2 ⟨vw, rfl, ho, b9⟩
  obtain ⟨aw, cw, rfl, _, _, _⟩ := owns_form ho
  have N_w := hid (nums_own (xs := wgs (fP b) ns) (by rw [wgs_len, HL.out]; exact ho) (small9 (wgs_lt (by omega) ns)))
  clear ho
  replace X_P := X_P.keep b9
  replace BW := hid (BW.out.trans (b9.mono BW.out.size))
  clear b9
  have N_w9 : Hid (NumSl v2 (.slice aw n cw) (wgs (fP b) ns)) := N_w
  replace N_w := N_w9
  obtain ⟨wq_o, hmk_o, hR_o, hgq_o⟩ := run_madev v2 n (by omega)
  go_wp2
  have b9 : Below v2.heap.size v2 wq_o := Below.grown (Below.refl _ _) hgq_o (Nat.le_refl _) (fun j hj => by cases hj)
  obtain ⟨go, hg9⟩ : ∃ q, v2.heap.size = q := ⟨_, rfl⟩
  have lt9 : v2.heap.size ≤ go := by omega
  have q_P_go : bP < go := Nat.lt_of_lt_of_le X_P.lt lt9
  have z0_go : w.heap.size ≤ go := Nat.le_trans BW.out.size lt9
  have R_o := hid (hR_o.mono BW.out.size)
  rw [hg9] at R_o
  try rw [hg9]
  clear hR_o hgq_o hmk_o hg9 lt9
  replace X_P := X_P.keep b9
  replace N_w := hid (N_w.out.below b9)
  replace BW := hid (BW.out.trans (b9.mono BW.out.size))
  clear b9
  have N_o : NumSl wq_o (.slice (some ⟨go, 0, none⟩) n n) (itp (fP b) ns ys 0) := R_o.out.sl (by rw [EIL.out 0 (Nat.zero_le _), HL.out]) (fun i _ => by show 0 = (List.replicate ns.length 0).getD i 0; rw [rep_get]) (small9 (itp_lt (by omega) ns ys 0))
  clear R_o
  go_loopw [8, 9] (fun y ix wr => ∃ i : Nat, i ≤ n ∧ ix = .int .i64 (i : Int) ∧ Blk wr (bP) 28 [.int .u64 (limb (fP b) 0 : Int), .int .u64 (limb (fP b) 1 : Int), .int .u64 (limb (fP b) 2 : Int), .int .u64 (limb (fP b) 3 : Int)] ∧ NumSl wr (.slice aw n cw) (wgs (fP b) ns) ∧ Below w.heap.size w wr ∧ ∃ z9 : Value, z9 = y ∧ NumSl wr z9 (itp (fP b) ns ys i)) (fun _ ix _ => n - (intOf ix).toNat)
  case atStart => exact ⟨0, Nat.zero_le _, rfl, X_P, N_w.out, BW.out, _, rfl, N_o⟩
  case round =>
    clear X_P N_w BW
    obtain ⟨i, hk_i, rfl, X_P, n9_w, b9, hm_i⟩ := hrel
    obtain ⟨v4, hv9⟩ : ∃ v, v = wr := ⟨_, rfl⟩
    subst hv9
    have N_w := hid n9_w
    clear n9_w
    have BW := hid b9
    clear b9
    have HM_i := hid hm_i
    clear hm_i
    by_cases hi : i < n
    · skip
      obtain ⟨yo, rfl, hN9⟩ := HM_i.out
      have N_o := hid hN9
      clear hN9 HM_i
      have hi0 : (0 : Int) ≤ (i : Int) := by omega
      have hin : (i : Int) < (n : Int) := by omega
      obtain ⟨yv, hyv⟩ : ∃ x, ys[i]? = some x := ⟨ys[i]'(by rw [← HE.out]; exact hi), List.getElem?_eq_getElem _⟩
      have HYV := hid hyv
      have hwv : (wgs (fP b) ns)[i]? = some (wgt (fP b) ns i) := wgs_at (by rw [HL.out]; exact hi)
      have HWV := hid hwv
      have M1 := hid (fun W : World => rmul_any (fP b) (wgt (fP b) ns i) yv hpb (wgs_lt (by omega) ns _ (List.mem_of_getElem? hwv)) (Nat.lt_trans (HY.out yv (List.mem_of_getElem? hyv)) hpb) W)
      have EF : mulm (fP b) (wgt (fP b) ns i) yv = fac (fP b) ns ys i := by unfold fac; rw [getD_some hyv]
      rw [EF] at M1
      have HFB : Hid (∀ y ∈ [fac (fP b) ns ys i], y < B256) := hid (small9 (b := b) (fun x hx => by rw [List.mem_singleton.1 hx]; exact mulm_lt _ _ (by omega)))
      clear EF hwv hyv
      obtain ⟨wv, hwv⟩ : ∃ z, wgt (fP b) ns i = z := ⟨_, rfl⟩
      rw [hwv] at M1 HWV
      clear hwv
      have HIZ := hid (ipt_zero (fP b) ns ys i)
      obtain ⟨fv, hfv⟩ : ∃ z, fac (fP b) ns ys i = z := ⟨_, rfl⟩
      rw [hfv] at M1 HFB HIZ
      clear hfv
      obtain ⟨gw, ow, rfl, zw, d0, d1, d2, d3⟩ := N_w.out.at4 HWV.out
      obtain ⟨gy, oy, rfl, zy, q0, q1, q2, q3⟩ := (HU.out.below BW.out).at4 HYV.out
      have z_P := X_P.lt
      have c_P0 := X_P.cell (i := 0) rfl
      have c_P1 := X_P.cell (i := 1) rfl
      have c_P2 := X_P.cell (i := 2) rfl
      have c_P3 := X_P.cell (i := 3) rfl
      go_upto_region 6 with (fail)
      go_wp2_with fail
      go_region_held3 (fun w' => ∀ b o, b < v4.heap.size → w'.cell? ⟨b, o, none⟩ = v4.cell? ⟨b, o, none⟩) ((intro b o h; first | with_reducible exact c1 b o h | with_reducible exact cell_drew | with_reducible exact cell_drew.trans (cell_alloc h) | (with_reducible refine (cell_alloc (by (try simp); omega)).trans ?_; first | with_reducible exact c1 b o h | with_reducible exact cell_drew) | with_reducible exact (below_set4 H1.out (by omega) _ _ _ _).cell (p := ⟨b, o, none⟩) h)) (first | (go_at_call 54; refine (M1.out _).mono ?_; rintro e ra1 ⟨rfl, b9⟩; have H1 : Hid (Below v4.heap.size v4 ra1) := hid (Below.drew (Below.refl _ v4)).trans b9; clear b9; have c1 := bcell H1.out; have z1 := H1.out.size))
      have hH9 := H1.out
      clear z_P c_P0 c_P1 c_P2 c_P3
      replace X_P := X_P.keep hH9
      replace N_w := hid (N_w.out.below hH9)
      replace N_o := hid (N_o.out.below hH9)
      replace BW := hid (BW.out.trans (hH9.mono BW.out.size))
      clear hH9
      clear H1 c1 z1
      clear d0 d1 d2 d3 q0 q1 q2 q3 zw zy
      go_wp2
      obtain ⟨v5, hv9⟩ : ∃ v, (ra1.alloc (.cells #[.int .u64 (limb fv 0 : Int), .int .u64 (limb fv 1 : Int), .int .u64 (limb fv 2 : Int), .int .u64 (limb fv 3 : Int)] 28)) = v := ⟨_, rfl⟩
      have hG9 : Below ra1.heap.size ra1 v5 := by rw [← hv9]; go_grown
      have X_C : Blk v5 (ra1.heap.size) 28 [.int .u64 (limb fv 0 : Int), .int .u64 (limb fv 1 : Int), .int .u64 (limb fv 2 : Int), .int .u64 (limb fv 3 : Int)] := by rw [← hv9]; exact Blk.new rfl
      obtain ⟨bC, hb9⟩ : ∃ k, ra1.heap.size = k := ⟨_, rfl⟩
      rw [hb9] at X_C
      have g_bC : w.heap.size ≤ bC := by rw [← hb9]; exact BW.out.size
      have q_P_bC : bP < bC := by rw [← hb9]; exact X_P.lt
      replace X_P := X_P.keep hG9
      replace N_w := hid (N_w.out.below hG9)
      replace N_o := hid (N_o.out.below hG9)
      replace BW := hid (BW.out.trans (hG9.mono BW.out.size))
      clear hG9
      rw [hv9]
      try rw [hb9]
      clear hv9 hb9
      have N_c : NumSl v5 (.slice (some ⟨bC, 0, none⟩) 1 1) (ipt (fP b) ns ys i 0) := by rw [HIZ.out]; exact blk_nums (t := 28) (by exact X_C) HFB.out
      clear X_C
      go_loopw [10, 11] (fun y ix wr => ∃ k : Nat, k ≤ n ∧ ix = .int .i64 (k : Int) ∧ Blk wr (bP) 28 [.int .u64 (limb (fP b) 0 : Int), .int .u64 (limb (fP b) 1 : Int), .int .u64 (limb (fP b) 2 : Int), .int .u64 (limb (fP b) 3 : Int)] ∧ NumSl wr (.slice (some ⟨gw, ow, none⟩) n cw) (wgs (fP b) ns) ∧ NumSl wr yo (itp (fP b) ns ys i) ∧ Below w.heap.size w wr ∧ ∃ z9 : Value, z9 = y ∧ NumSl wr z9 (ipt (fP b) ns ys i k)) (fun _ ix _ => n - (intOf ix).toNat)
      case atStart => exact ⟨0, Nat.zero_le _, rfl, X_P, N_w.out, N_o.out, BW.out, _, rfl, N_c⟩
      case round =>
        clear X_P N_w N_o BW
        obtain ⟨k, hk_k, rfl, X_P, n9_w, n9_o, b9, hm_k⟩ := hrel
        obtain ⟨v6, hv9⟩ : ∃ v, v = wr := ⟨_, rfl⟩
        subst hv9
        have N_w := hid n9_w
        clear n9_w
        have N_o := hid n9_o
        clear n9_o
        have BW := hid b9
        clear b9
        have HM_k := hid hm_k
        clear hm_k
        by_cases hk : k < n
        · skip
          obtain ⟨yc, rfl, hN9⟩ := HM_k.out
          have N_c := hid hN9
          clear hN9 HM_k
          have hk0 : (0 : Int) ≤ (k : Int) := by omega
          have hkn : (k : Int) < (n : Int) := by omega
          by_cases e : k = i
          · skip
            have hd : ((k : Int) != (i : Int)) = false := by simp [e]
            have ES := hid (ipt_skip (p := fP b) (ns := ns) ys (by rw [HL.out]; exact hk) e)
            clear e
            go_wp2
            go_roundw
            case rel => exact ⟨k + 1, by omega, by go_num, X_P, N_w.out, N_o.out, BW.out, _, rfl, by rw [ES.out]; exact N_c.out⟩
            case measure => simp [intOf]; omega
          · skip
            have hd : ((k : Int) != (i : Int)) = true := by simp; omega
            have EN := hid (ipt_next (p := fP b) (ns := ns) ys (by rw [HL.out]; exact hk) e)
            clear e
            obtain ⟨z, h9⟩ : ∃ x, xs[k]? = some x := ⟨xs[k]'(by rw [HN.out]; exact hk), List.getElem?_eq_getElem _⟩
            obtain ⟨l_z, u_z⟩ := HALL.out z (List.mem_of_getElem? h9)
            have HP_z := hid (HAT.out _ _ h9)
            have H_z := hid h9
            clear h9
            obtain ⟨ga, oa, rfl, _, _⟩ := (HS.out.below BW.out).at H_z.out
            have HXK := hid (HLT.out _ (getD_mem (show k < ns.length by rw [HL.out]; exact hk)))
            rw [HP_z.out] at HXK EN
            have P2 := hid (fun W : World => point_any z l_z u_z W)
            have M1 := hid (fun W : World => rsubm_any (fP b) 0 z.toNat hpb (by omega) HXK.out W)
            rw [← vec_zero] at M1
            obtain ⟨df, hdf⟩ : ∃ y, subm (fP b) 0 z.toNat = y := ⟨_, rfl⟩
            have HDL : Hid (∀ y ∈ [df, 1], y < fP b) := hid (fun y hy => by rcases List.mem_cons.1 hy with h | h; rw [h, ← hdf]; exact subm_lt _ _ (by omega); rw [List.mem_singleton.1 h]; omega)
            have HDB := hid (small9 HDL.out)
            rw [hdf] at M1 EN
            have MC := hid (fun (W : World) (v2 : Value) (h1 : NumSl W yc (ipt (fP b) ns ys i k)) (h2 : NumSl W v2 [df, 1]) => rpmul_sl (fP b) yc v2 (ipt (fP b) ns ys i k) [df, 1] W hpb (by omega) h1 h2 (hid (ipt_lt (by omega) ns ys i k)) HDL (by have := ipt_len (p := fP b) (by omega) ns ys i k; rw [HL.out] at this; omega) (by simp))
            rw [← EN.out] at MC
            clear EN hdf
            obtain ⟨zt, hzt⟩ : ∃ y, z.toNat = y := ⟨_, rfl⟩
            rw [hzt] at P2 M1
            clear hzt
            obtain ⟨g9, o9, e9, zq, q0⟩ := (HS.out.below BW.out).at H_z.out
            cases e9
            have z_P := X_P.lt
            have c_P0 := X_P.cell (i := 0) rfl
            have c_P1 := X_P.cell (i := 1) rfl
            have c_P2 := X_P.cell (i := 2) rfl
            have c_P3 := X_P.cell (i := 3) rfl
            go_upto_region 11 with (fail)
            go_wp2_with fail
            go_region_held3 (fun w' => ∀ b o, b < v6.heap.size → w'.cell? ⟨b, o, none⟩ = v6.cell? ⟨b, o, none⟩) ((intro b o h; first | with_reducible exact c3 b o h | with_reducible exact c2 b o h | with_reducible exact c1 b o h | with_reducible exact cell_drew | with_reducible exact cell_drew.trans (cell_alloc h) | (with_reducible refine (cell_alloc (by (try simp); omega)).trans ?_; first | with_reducible exact c3 b o h | with_reducible exact c2 b o h | with_reducible exact c1 b o h | with_reducible exact cell_drew) | with_reducible exact (below_set4 H3.out (by omega) _ _ _ _).cell (p := ⟨b, o, none⟩) h | with_reducible exact (below_set4 H2.out (by omega) _ _ _ _).cell (p := ⟨b, o, none⟩) h | with_reducible exact (below_set4 H1.out (by omega) _ _ _ _).cell (p := ⟨b, o, none⟩) h)) (first | (go_at_call 78; refine (MC.out _ _ (N_c.out.below (H2.out.alloc H2.out.size _)) (blk_nums (t := 28) (by rw [nums_two9]; exact Blk.new rfl) HDB.out)).mono ?_; rintro e rb3 ⟨vp, rfl, hp, b9⟩; have H3 : Hid (Below v6.heap.size v6 rb3) := hid (by first | exact H2.out.trans (b9.mono H2.out.size) | exact (H2.out.alloc H2.out.size _).trans (b9.mono (by have := H2.out.size; simp; omega))); have hp := hid hp; clear b9; have c3 := bcell H3.out; have z3 := H3.out.size) | (go_at_call 74; refine (M1.out _).mono ?_; rintro e rb2 ⟨rfl, b9⟩; have H2 : Hid (Below v6.heap.size v6 rb2) := hid H1.out.trans (b9.mono H1.out.size); clear b9; have c2 := bcell H2.out; have z2 := H2.out.size) | (go_at_call 24; refine (P2.out _).mono ?_; rintro e rb1 ⟨rfl, b9⟩; have H1 : Hid (Below v6.heap.size v6 rb1) := hid (Below.drew (Below.refl _ v6)).trans b9; clear b9; have c1 := bcell H1.out; have z1 := H1.out.size))
            have hH9 := H3.out
            clear zq q0 z_P c_P0 c_P1 c_P2 c_P3
            replace X_P := X_P.keep hH9
            replace N_w := hid (N_w.out.below hH9)
            replace N_o := hid (N_o.out.below hH9)
            replace BW := hid (BW.out.trans (hH9.mono BW.out.size))
            clear hH9
            clear H1 c1 z1 H2 c2 z2 H3 c3 z3
            clear N_c
            go_wp2
            go_roundw
            case rel => exact ⟨k + 1, by omega, by go_num, X_P, N_w.out, N_o.out, BW.out, _, rfl, hp.out⟩
            case measure => simp [intOf]; omega
        · skip
          obtain rfl : n = k := by omega
          clear hk
          obtain ⟨yc, rfl, hN9⟩ := HM_k.out
          have N_c := hid hN9
          clear hN9 HM_k
          have z_P := X_P.lt
          have c_P0 := X_P.cell (i := 0) rfl
          have c_P1 := X_P.cell (i := 1) rfl
          have c_P2 := X_P.cell (i := 2) rfl
          have c_P3 := X_P.cell (i := 3) rfl
          go_wp2_with fail
          refine (ADC.out _ _ _ i (by omega) N_o.out N_c.out).mono ?_
          rintro e v7 ⟨vn, rfl, hn9, b9⟩
          rw [ipt_all (Nat.le_of_eq HL.out)] at hn9
          clear N_o N_c
          clear z_P c_P0 c_P1 c_P2 c_P3
          replace X_P := X_P.keep b9
          replace N_w := hid (N_w.out.below b9)
          replace BW := hid (BW.out.trans (b9.mono BW.out.size))
          clear b9
          go_wp2
          go_roundw
          case rel => exact ⟨i + 1, by omega, by go_num, X_P, N_w.out, BW.out, _, rfl, hn9⟩
          case measure => simp [intOf]; omega
    · skip
      obtain rfl : n = i := by omega
      clear hi
      obtain ⟨yo, rfl, hN9⟩ := HM_i.out
      have N_o := hid hN9
      clear hN9 HM_i
      go_wp2
      refine bodyPost_ret (by simp only [results, Tryd.results60]; go_simp; try rfl) rfl ?_
      exact ⟨_, rfl, N_o.out, BW.out⟩
end Go.Proofs.YtogenbggjodcnaaDoor
