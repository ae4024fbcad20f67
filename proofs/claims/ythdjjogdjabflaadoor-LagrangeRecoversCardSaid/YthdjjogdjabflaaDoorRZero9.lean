/-
  The reference's coefficients for the value at zero.
-/
import Derived.Test.YthdjjogdjabflaaDoorRWt9
import Derived.Test.YthdjjogdjabflaaDoorZero9
namespace Go.Proofs.YthdjjogdjabflaaDoor
open Go.RowKit

attribute [local go_sem] Oper.semAt_some
/-- The weight of i times the first k of the other points' negations. -/
noncomputable def zpt (p : Nat) (ns : List Nat) (i k : Nat) : Nat := negs p (wgt p ns i) (oth (ns.take k) i)
theorem zpt_zero (p : Nat) (ns : List Nat) (i : Nat) : zpt p ns i 0 = wgt p ns i := by unfold zpt; rw [oth_zero]; rfl
theorem zpt_next {p : Nat} {ns : List Nat} {i k : Nat} (hk : k < ns.length) (hne : k ≠ i) : zpt p ns i (k + 1) = mulm p (zpt p ns i k) (subm p 0 (ns.getD k 0)) := by unfold zpt; rw [oth_next hk hne, negs_snoc]
theorem zpt_skip {p : Nat} {ns : List Nat} {i k : Nat} (hk : k < ns.length) (he : k = i) : zpt p ns i (k + 1) = zpt p ns i k := by unfold zpt; rw [oth_skip hk he]
theorem zpt_lt {p : Nat} (hp : 0 < p) (ns : List Nat) (i k : Nat) : zpt p ns i k < p := negs_lt hp _ (invm_lt _ hp)
theorem zpt_all {p : Nat} {ns : List Nat} {n : Nat} (h : ns.length ≤ n) (i : Nat) : zpt p ns i n = zco p ns i := by unfold zpt; rw [oth_all h]; rfl
theorem over_none9 {f g : Nat → Nat} {n : Nat} : ∀ t, t < n → (fun u => if u < 0 then f u else g u) t = g t := fun t _ => by simp
theorem put_first {f g : Nat → Nat} {i a n : Nat} (h : a = g i) : ∀ t, t < n → (fun u => if u = i then a else (if u < i then f u else g u)) t = (fun u => if u < i then f u else g u) t := fun t _ => by
  by_cases e : t = i
  · subst e; simp [h]
  · simp [e]
theorem put_again {g : Nat → Nat} {i a r n : Nat} : ∀ t, t < n → (fun u => if u = i then r else g u) t = (fun u => if u = i then r else (fun u => if u = i then a else g u) u) t := fun t _ => by
  by_cases h : t = i <;> simp [h]
set_option maxRecDepth 100000 in
set_option maxHeartbeats 4000000 in
theorem rzero_any (b : Bool) (v : Value) (xs : List Int) (w : World) (hS : IntSl w v xs) (hl : xs.length < 1000000) (hall : ∀ x ∈ xs, 1 ≤ x ∧ x ≤ 255) :
    Calls Tryd.prog 17 #[vec (fP b), v] w (RetNums 29 (zcs (fP b) (pts xs)) w) := by
  have BW := hid (Below.refl w.heap.size w)
  have RWC := hid (fun (W : World) (h : IntSl W v xs) => rweights_any b v xs W h hl hall)
  have HS := hid hS
  obtain ⟨sa, sc, rfl, _⟩ := hS
  have HALL := hid hall
  have hlen := pts_len xs
  have hlt := pts_lt hall (show 255 < fP b by cases b <;> decide)
  have HAT := hid (fun (i : Nat) (x : Int) (h : xs[i]? = some x) => pts_at h)
  obtain ⟨ns, hns⟩ : ∃ ns, pts xs = ns := ⟨_, rfl⟩
  rw [hns] at hlen hlt HAT RWC ⊢
  obtain ⟨n, hn⟩ : ∃ n, xs.length = n := ⟨_, rfl⟩
  rw [hn] at hlen hl HS ⊢
  have HN := hid hn
  have HL := hid hlen
  have HLT := hid hlt
  clear hns hn hlen hlt hall
  have hp2 := fP_two b
  have hpb := fP_lt b
  skip
  unfold RetNums
  rw [zcs_len, HL.out]
  rw [HN.out] at RWC
  by_cases h0 : 0 < n
  · skip
    go_enter Tryd.func17, Tryd.ntmps17
    go_wp2_with fail
    obtain ⟨v1, hv9⟩ : ∃ v, (w.alloc (.cells #[.int .u64 (limb (fP b) 0 : Int), .int .u64 (limb (fP b) 1 : Int), .int .u64 (limb (fP b) 2 : Int), .int .u64 (limb (fP b) 3 : Int)] 29)) = v := ⟨_, rfl⟩
    have hG9 : Below w.heap.size w v1 := by rw [← hv9]; go_grown
    have X_P : Blk v1 (w.heap.size) 29 [.int .u64 (limb (fP b) 0 : Int), .int .u64 (limb (fP b) 1 : Int), .int .u64 (limb (fP b) 2 : Int), .int .u64 (limb (fP b) 3 : Int)] := by rw [← hv9]; exact Blk.new rfl
    obtain ⟨bP, hb9⟩ : ∃ k, w.heap.size = k := ⟨_, rfl⟩
    rw [hb9] at X_P
    have g_bP : w.heap.size ≤ bP := by rw [← hb9]; exact BW.out.size
    replace BW := hid (BW.out.trans (hG9.mono BW.out.size))
    clear hG9
    rw [hv9]
    try rw [hb9]
    clear hv9 hb9
    refine (RWC.out _ (HS.out.below BW.out)).mono ?_
    rintro e v2 ⟨vw, rfl, ho, b9⟩
    rw [wgs_len, HL.out] at ho
    obtain ⟨gw, cw, rfl, hR9⟩ := RowF.of ho (by rw [wgs_len, HL.out]) h0
    clear ho
    have lt9 := hR9.ge
    have q_P_gw : bP < gw := Nat.lt_of_lt_of_le X_P.lt lt9
    have z0_gw : w.heap.size ≤ gw := Nat.le_trans BW.out.size lt9
    have R_w := hid (hR9.mono BW.out.size)
    clear hR9 lt9
    replace X_P := X_P.keep b9
    replace BW := hid (BW.out.trans (b9.mono BW.out.size))
    clear b9
    go_wp2
    go_loopw [6] (fun ix wr => ∃ i : Nat, i ≤ n ∧ ix = .int .i64 (i : Int) ∧ Blk wr (bP) 29 [.int .u64 (limb (fP b) 0 : Int), .int .u64 (limb (fP b) 1 : Int), .int .u64 (limb (fP b) 2 : Int), .int .u64 (limb (fP b) 3 : Int)] ∧ RowF wr w.heap.size 29 gw n cw (fun t => if t < i then zco (fP b) ns t else (wgs (fP b) ns).getD t 0) ∧ Below w.heap.size w wr) (fun ix _ => n - (intOf ix).toNat)
    case atStart => exact ⟨0, Nat.zero_le _, rfl, X_P, (R_w.out.congr over_none9), BW.out⟩
    case round =>
      clear X_P R_w BW
      obtain ⟨i, hk_i, rfl, X_P, r9_w, b9⟩ := hrel
      obtain ⟨v3, hv9⟩ : ∃ v, v = wr := ⟨_, rfl⟩
      subst hv9
      have R_w := hid r9_w
      clear r9_w
      have BW := hid b9
      clear b9
      by_cases hi : i < n
      · skip
        have hi0 : (0 : Int) ≤ (i : Int) := by omega
        have hin : (i : Int) < (n : Int) := by omega
        have hwi : zpt (fP b) ns i 0 = (wgs (fP b) ns).getD i 0 := by rw [zpt_zero]; exact (getD_some (wgs_at (by rw [HL.out]; exact hi))).symm
        have HWI := hid hwi
        clear hwi
        go_wp2
        go_loopw [7] (fun ix wr => ∃ k : Nat, k ≤ n ∧ ix = .int .i64 (k : Int) ∧ Blk wr (bP) 29 [.int .u64 (limb (fP b) 0 : Int), .int .u64 (limb (fP b) 1 : Int), .int .u64 (limb (fP b) 2 : Int), .int .u64 (limb (fP b) 3 : Int)] ∧ RowF wr w.heap.size 29 gw n cw (fun t => if t = i then zpt (fP b) ns i k else (if t < i then zco (fP b) ns t else (wgs (fP b) ns).getD t 0)) ∧ Below w.heap.size w wr) (fun ix _ => n - (intOf ix).toNat)
        case atStart => exact ⟨0, Nat.zero_le _, rfl, X_P, (R_w.out.congr (put_first (f := fun t => zco (fP b) ns t) (g := fun t => (wgs (fP b) ns).getD t 0) HWI.out)), BW.out⟩
        case round =>
          clear X_P R_w BW
          obtain ⟨k, hk_k, rfl, X_P, r9_w, b9⟩ := hrel
          obtain ⟨v4, hv9⟩ : ∃ v, v = wr := ⟨_, rfl⟩
          subst hv9
          have R_w := hid r9_w
          clear r9_w
          have BW := hid b9
          clear b9
          by_cases hk : k < n
          · skip
            have hk0 : (0 : Int) ≤ (k : Int) := by omega
            have hkn : (k : Int) < (n : Int) := by omega
            by_cases e : k = i
            · skip
              have hd : ((k : Int) != (i : Int)) = false := by simp [e]
              have ES := hid (zpt_skip (p := fP b) (ns := ns) (by rw [HL.out]; exact hk) e)
              clear e
              go_wp2
              go_roundw
              case rel => exact ⟨k + 1, by omega, by go_num, X_P, R_w.out.congr (put_skip (by rw [ES.out])), BW.out⟩
              case measure => simp [intOf]; omega
            · skip
              have hd : ((k : Int) != (i : Int)) = true := by simp; omega
              have EN := hid (zpt_next (p := fP b) (ns := ns) (by rw [HL.out]; exact hk) e)
              clear e
              obtain ⟨z, h9⟩ : ∃ x, xs[k]? = some x := ⟨xs[k]'(by rw [HN.out]; exact hk), List.getElem?_eq_getElem _⟩
              obtain ⟨l_z, u_z⟩ := HALL.out z (List.mem_of_getElem? h9)
              have HP_z := hid (HAT.out _ _ h9)
              have H_z := hid h9
              clear h9
              obtain ⟨ga, oa, rfl, _, _⟩ := (HS.out.below BW.out).at H_z.out
              have HXK := hid (HLT.out _ (getD_mem (show k < ns.length by rw [HL.out]; exact hk)))
              rw [HP_z.out] at HXK
              rw [HP_z.out] at EN
              have P2 := hid (fun W : World => point_any z l_z u_z W)
              have M1 := hid (fun W : World => rsubm_any (fP b) 0 z.toNat hpb (by omega) HXK.out W)
              rw [← vec_zero] at M1
              have M2 := hid (fun W : World => rmul_any (fP b) (zpt (fP b) ns i k) (subm (fP b) 0 z.toNat) hpb (zpt_lt (by omega) _ _ _) (Nat.lt_trans (subm_lt _ _ (by omega)) hpb) W)
              rw [← EN.out] at M2
              obtain ⟨dk, hdk⟩ : ∃ y, zpt (fP b) ns i k = y := ⟨_, rfl⟩
              rw [hdk] at M2
              have HDK := hid hdk
              obtain ⟨dn, hdn⟩ : ∃ y, zpt (fP b) ns i (k + 1) = y := ⟨_, rfl⟩
              rw [hdn] at M2
              have HDN := hid hdn
              obtain ⟨df, hdf⟩ : ∃ y, subm (fP b) 0 z.toNat = y := ⟨_, rfl⟩
              rw [hdf] at M1 M2
              obtain ⟨zt, hzt⟩ : ∃ y, z.toNat = y := ⟨_, rfl⟩
              rw [hzt] at P2 M1
              clear hdn hdf hzt hdk EN
              obtain ⟨g9, o9, e9, zq, q0⟩ := (HS.out.below BW.out).at H_z.out
              cases e9
              have z_P := X_P.lt
              have c_P0 := X_P.cell (i := 0) rfl
              have c_P1 := X_P.cell (i := 1) rfl
              have c_P2 := X_P.cell (i := 2) rfl
              have c_P3 := X_P.cell (i := 3) rfl
              obtain ⟨d0, d1, d2, d3⟩ := R_w.out.cells (i := i) (v := dk) hi (by simp only [if_true]; exact HDK.out)
              have zd := R_w.out.lt
              have fd0 := R_w.out.frozen (i * 4)
              have fd1 := R_w.out.frozen (i * 4 + 1)
              have fd2 := R_w.out.frozen (i * 4 + 2)
              have fd3 := R_w.out.frozen (i * 4 + 3)
              go_wp2_with fail
              refine wp_region_soft (C := fun W' => Below v4.heap.size v4 W') 17 (by kernel_rfl) (by kernel_rfl) ((Below.refl _ _).drew) ?_
              simp only [List.take_succ_cons, List.take_zero, List.drop_succ_cons, List.drop_zero]
              refine wpQuiet_step (fun K hK => ?_)
              rw [if_pos (by rfl)]
              refine ⟨.slice (some ⟨gw, 0, none⟩) n cw, fun W' hW => ?_, hK _ ?_⟩
              · go_simp
              clear hK K
              simp only [Act.put, List.setIfInBounds_toArray, List.set_cons_zero, List.set_cons_succ]
              refine wpQuiet_step (fun K hK => ?_)
              rw [if_pos (by rfl)]
              refine ⟨.int .i64 (i : Int), fun W' hW => ?_, hK _ ?_⟩
              · go_simp
              clear hK K
              simp only [Act.put, List.setIfInBounds_toArray, List.set_cons_zero, List.set_cons_succ]
              refine wpQuiet_step (fun K hK => ?_)
              rw [if_pos (by rfl)]
              refine ⟨vec (fP b), fun W' hW => ?_, hK _ ?_⟩
              · have e_0 := (hW.cell (p := ⟨bP, 0, none⟩) z_P).trans c_P0
                have e_1 := (hW.cell (p := ⟨bP, 1, none⟩) z_P).trans c_P1
                have e_2 := (hW.cell (p := ⟨bP, 2, none⟩) z_P).trans c_P2
                have e_3 := (hW.cell (p := ⟨bP, 3, none⟩) z_P).trans c_P3
                go_simp
              clear hK K
              simp only [Act.put, List.setIfInBounds_toArray, List.set_cons_zero, List.set_cons_succ]
              refine wpQuiet_step (fun K hK => ?_)
              rw [if_pos (by rfl)]
              refine ⟨.slice (some ⟨gw, 0, none⟩) n cw, fun W' hW => ?_, hK _ ?_⟩
              · go_simp
              clear hK K
              simp only [Act.put, List.setIfInBounds_toArray, List.set_cons_zero, List.set_cons_succ]
              refine wpQuiet_step (fun K hK => ?_)
              rw [if_pos (by rfl)]
              refine ⟨.int .i64 (i : Int), fun W' hW => ?_, hK _ ?_⟩
              · go_simp
              clear hK K
              simp only [Act.put, List.setIfInBounds_toArray, List.set_cons_zero, List.set_cons_succ]
              refine wpQuiet_step (fun K hK => ?_)
              rw [if_pos (by rfl)]
              refine ⟨.pointer (some ⟨gw, i * 4, none⟩), fun W' hW => ?_, hK _ ?_⟩
              · go_simp
              clear hK K
              simp only [Act.put, List.setIfInBounds_toArray, List.set_cons_zero, List.set_cons_succ]
              refine wpQuiet_step (fun K hK => ?_)
              rw [if_pos (by rfl)]
              refine ⟨vec dk, fun W' hW => ?_, hK _ ?_⟩
              · have e_0 := (hW.cell (p := ⟨gw, i * 4, none⟩) zd).trans d0
                have e_1 := (hW.cell (p := ⟨gw, i * 4 + 1, none⟩) zd).trans d1
                have e_2 := (hW.cell (p := ⟨gw, i * 4 + 2, none⟩) zd).trans d2
                have e_3 := (hW.cell (p := ⟨gw, i * 4 + 3, none⟩) zd).trans d3
                go_simp
              clear hK K
              simp only [Act.put, List.setIfInBounds_toArray, List.set_cons_zero, List.set_cons_succ]
              refine wpQuiet_step (fun K hK => ?_)
              rw [if_pos (by rfl)]
              refine ⟨vec (fP b), fun W' hW => ?_, hK _ ?_⟩
              · have e_0 := (hW.cell (p := ⟨bP, 0, none⟩) z_P).trans c_P0
                have e_1 := (hW.cell (p := ⟨bP, 1, none⟩) z_P).trans c_P1
                have e_2 := (hW.cell (p := ⟨bP, 2, none⟩) z_P).trans c_P2
                have e_3 := (hW.cell (p := ⟨bP, 3, none⟩) z_P).trans c_P3
                go_simp
              clear hK K
              simp only [Act.put, List.setIfInBounds_toArray, List.set_cons_zero, List.set_cons_succ]
              refine wpQuiet_step (fun K hK => ?_)
              rw [if_pos (by rfl)]
              refine ⟨.agg #[.int .u64 0, .int .u64 0, .int .u64 0, .int .u64 0], fun W' hW => ?_, hK _ ?_⟩
              · go_simp
              clear hK K
              simp only [Act.put, List.setIfInBounds_toArray, List.set_cons_zero, List.set_cons_succ]
              refine wpQuiet_step (fun K hK => ?_)
              rw [if_pos (by rfl)]
              refine ⟨.slice (some ⟨ga, oa, none⟩) n sc, fun W' hW => ?_, hK _ ?_⟩
              · go_simp
              clear hK K
              simp only [Act.put, List.setIfInBounds_toArray, List.set_cons_zero, List.set_cons_succ]
              refine wpQuiet_step (fun K hK => ?_)
              rw [if_pos (by rfl)]
              refine ⟨.int .i64 (k : Int), fun W' hW => ?_, hK _ ?_⟩
              · go_simp
              clear hK K
              simp only [Act.put, List.setIfInBounds_toArray, List.set_cons_zero, List.set_cons_succ]
              refine wpQuiet_step (fun K hK => ?_)
              rw [if_pos (by rfl)]
              refine ⟨.pointer (some ⟨ga, oa + k, none⟩), fun W' hW => ?_, hK _ ?_⟩
              · go_simp
              clear hK K
              simp only [Act.put, List.setIfInBounds_toArray, List.set_cons_zero, List.set_cons_succ]
              refine wpQuiet_step (fun K hK => ?_)
              rw [if_pos (by rfl)]
              refine ⟨.int .i64 z, fun W' hW => ?_, hK _ ?_⟩
              · have e_0 := (hW.cell (p := ⟨ga, oa + k, none⟩) zq).trans q0
                go_simp
              clear hK K
              simp only [Act.put, List.setIfInBounds_toArray, List.set_cons_zero, List.set_cons_succ]
              refine wpQuiet_step (fun K hK => ?_)
              rw [if_pos (by rfl)]
              refine ⟨vec zt, fun W' hW => ?_, hK _ ?_⟩
              · go_simp
                refine (P2.out _).mono ?_
                rintro e w' ⟨rfl, b⟩
                exact ⟨rfl, hW.trans (b.mono hW.size)⟩
              clear hK K
              simp only [Act.put, List.setIfInBounds_toArray, List.set_cons_zero, List.set_cons_succ]
              refine wpQuiet_step (fun K hK => ?_)
              rw [if_pos (by rfl)]
              refine ⟨vec df, fun W' hW => ?_, hK _ ?_⟩
              · go_simp
                refine (M1.out _).mono ?_
                rintro e w' ⟨rfl, b⟩
                exact ⟨rfl, hW.trans (b.mono hW.size)⟩
              clear hK K
              simp only [Act.put, List.setIfInBounds_toArray, List.set_cons_zero, List.set_cons_succ]
              refine wpQuiet_step (fun K hK => ?_)
              rw [if_pos (by rfl)]
              refine ⟨vec dn, fun W' hW => ?_, hK _ ?_⟩
              · go_simp
                refine (M2.out _).mono ?_
                rintro e w' ⟨rfl, b⟩
                exact ⟨rfl, hW.trans (b.mono hW.size)⟩
              clear hK K
              simp only [Act.put, List.setIfInBounds_toArray, List.set_cons_zero, List.set_cons_succ]
              refine wpQuiet_step (fun K hK => ?_)
              rw [if_pos (by rfl)]
              refine ⟨.pointer (some ⟨gw, i * 4, none⟩), fun W' hW => ?_, hK _ ?_⟩
              · go_simp
              clear hK K
              simp only [Act.put, List.setIfInBounds_toArray, List.set_cons_zero, List.set_cons_succ]
              refine wpQuiet_nil ?_
              intro ws0 hW9
              clear zq q0 z_P c_P0 c_P1 c_P2 c_P3 d0 d1 d2 d3 zd fd0 fd1 fd2 fd3
              replace R_w := hid (R_w.out.keep hW9)
              replace X_P := X_P.keep hW9
              replace BW := hid (BW.out.trans (hW9.mono BW.out.size))
              clear hW9
              obtain ⟨d0, d1, d2, d3⟩ := R_w.out.cells (i := i) (v := dk) hi (by simp only [if_true]; exact HDK.out)
              have zd := R_w.out.lt
              have fd0 := R_w.out.frozen (i * 4)
              have fd1 := R_w.out.frozen (i * 4 + 1)
              have fd2 := R_w.out.frozen (i * 4 + 2)
              have fd3 := R_w.out.frozen (i * 4 + 3)
              go_wp2
              obtain ⟨v5, hs9⟩ : ∃ q, ((((ws0.setCell ⟨gw, i * 4, none⟩ (.int .u64 (limb dn 0 : Int))).setCell ⟨gw, i * 4 + 1, none⟩ (.int .u64 (limb dn 1 : Int))).setCell ⟨gw, i * 4 + 2, none⟩ (.int .u64 (limb dn 2 : Int))).setCell ⟨gw, i * 4 + 3, none⟩ (.int .u64 (limb dn 3 : Int))) = q := ⟨_, rfl⟩
              have O9 : Only (fun k => k = gw) ws0 v5 := by rw [← hs9]; exact only_row _ _ _ _ _ _ _
              have S9 : RowF v5 w.heap.size 29 gw n cw (fun t => if t = i then zpt (fP b) ns i (k + 1) else (if t < i then zco (fP b) ns t else (wgs (fP b) ns).getD t 0)) := by rw [← hs9]; exact (R_w.out.store hi dn).congr (fun u _ => by rw [← HDN.out]; by_cases h : u = i <;> simp only [h, if_true, if_false])
              rw [hs9]
              clear hs9
              clear d0 d1 d2 d3 zd fd0 fd1 fd2 fd3
              replace X_P := X_P.only O9 (show ¬ (bP = gw) by omega)
              replace BW := hid (BW.out.trans (O9.below (fun k h => by cases h; exact z0_gw) BW.out.size))
              replace R_w := hid S9
              clear O9 S9
              go_roundw
              case rel => exact ⟨k + 1, by omega, by go_num, X_P, R_w.out, BW.out⟩
              case measure => simp [intOf]; omega
          · skip
            obtain rfl : n = k := by omega
            clear hk
            go_wp2
            go_roundw
            case rel => exact ⟨i + 1, by omega, by go_num, X_P, R_w.out.congr (put_over (f := fun t => zco (fP b) ns t) (g := fun t => (wgs (fP b) ns).getD t 0) (zpt_all (Nat.le_of_eq HL.out) i).symm), BW.out⟩
            case measure => simp [intOf]; omega
      · skip
        obtain rfl : n = i := by omega
        clear hi
        go_wp2
        refine bodyPost_ret (by simp only [results, Tryd.results17]; go_simp; try rfl) rfl ?_
        exact ⟨_, rfl, R_w.out.ownl (by rw [zcs_len, HL.out]) (fun i h => by rw [getD_some (zcs_at (show i < ns.length by rw [HL.out]; exact h))]; simp [h]), BW.out⟩
  · skip
    have H00 : Hid (n = 0) := hid (by omega)
    clear h0
    go_enter Tryd.func17, Tryd.ntmps17
    go_wp2_with fail
    obtain ⟨v1, hv9⟩ : ∃ v, (w.alloc (.cells #[.int .u64 (limb (fP b) 0 : Int), .int .u64 (limb (fP b) 1 : Int), .int .u64 (limb (fP b) 2 : Int), .int .u64 (limb (fP b) 3 : Int)] 29)) = v := ⟨_, rfl⟩
    have hG9 : Below w.heap.size w v1 := by rw [← hv9]; go_grown
    have X_P : Blk v1 (w.heap.size) 29 [.int .u64 (limb (fP b) 0 : Int), .int .u64 (limb (fP b) 1 : Int), .int .u64 (limb (fP b) 2 : Int), .int .u64 (limb (fP b) 3 : Int)] := by rw [← hv9]; exact Blk.new rfl
    obtain ⟨bP, hb9⟩ : ∃ k, w.heap.size = k := ⟨_, rfl⟩
    rw [hb9] at X_P
    have g_bP : w.heap.size ≤ bP := by rw [← hb9]; exact BW.out.size
    replace BW := hid (BW.out.trans (hG9.mono BW.out.size))
    clear hG9
    rw [hv9]
    try rw [hb9]
    clear hv9 hb9
    refine (RWC.out _ (HS.out.below BW.out)).mono ?_
    rintro e v2 ⟨vw, rfl, ho, b9⟩
    rw [wgs_len, HL.out] at ho
    obtain ⟨aw, cw, rfl, _, _, _⟩ := owns_form ho
    have HO := hid (owns_mono ho BW.out.size)
    clear ho
    replace X_P := X_P.keep b9
    replace BW := hid (BW.out.trans (b9.mono BW.out.size))
    clear b9
    have HO9 := HO.out
    clear HO
    go_wp2
    go_loopw [6] (fun ix wr => ∃ i : Nat, i ≤ n ∧ ix = .int .i64 (i : Int) ∧ Blk wr (bP) 29 [.int .u64 (limb (fP b) 0 : Int), .int .u64 (limb (fP b) 1 : Int), .int .u64 (limb (fP b) 2 : Int), .int .u64 (limb (fP b) 3 : Int)] ∧ Below w.heap.size w wr ∧ wr.ownsRow w.heap.size 29 4 (.slice aw n cw) n (nums (wgs (fP b) ns))) (fun ix _ => n - (intOf ix).toNat)
    case atStart => exact ⟨0, Nat.zero_le _, rfl, X_P, BW.out, HO9⟩
    case round =>
      clear X_P BW
      obtain ⟨i, hk_i, rfl, X_P, b9, hm_i⟩ := hrel
      obtain ⟨v3, hv9⟩ : ∃ v, v = wr := ⟨_, rfl⟩
      subst hv9
      have BW := hid b9
      clear b9
      have HM_i := hid hm_i
      clear hm_i
      by_cases hi : i < n
      · skip
        exact absurd hi (by have := H00.out; omega)
      · skip
        obtain rfl : n = i := by omega
        clear hi
        have HO := HM_i
        clear HM_i
        go_wp2
        refine bodyPost_ret (by simp only [results, Tryd.results17]; go_simp; try rfl) rfl ?_
        exact ⟨_, rfl, by rw [show zcs (fP b) ns = wgs (fP b) ns from (List.length_eq_zero_iff.1 (by rw [zcs_len, HL.out]; exact H00.out)).trans (List.length_eq_zero_iff.1 (by rw [wgs_len, HL.out]; exact H00.out)).symm]; exact HO.out, BW.out⟩
end Go.Proofs.YthdjjogdjabflaaDoor
