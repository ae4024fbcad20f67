/-
  The examples of chapter 22 hold.
-/
import Derived.Test.YtogenbggjodcnaaDoorExpl22
import Derived.Test.YtogenbggjodcnaaDoorGet22
import Derived.Test.YtogenbggjodcnaaDoorElEq2
import Derived.Deep.RegionHeld3
namespace Go.Proofs.YtogenbggjodcnaaDoor
open Go.RowKit

attribute [local go_sem] Oper.semAt_some
theorem blk_ints22 {w : World} {b : Nat} {t : TypeId} {xs : List Int} (h : Blk w b t (xs.map fun x => .int .i64 x)) : IntSl w (.slice (some ⟨b, 0, none⟩) xs.length xs.length) xs :=
  ⟨_, _, rfl, .inr ⟨b, 0, rfl, fun j x hj => by rw [Nat.zero_add]; exact h.cell (by rw [List.getElem?_map, hj]; rfl)⟩⟩
theorem big22 (b : Bool) : 255 < fP b := by cases b <;> decide
theorem chk_1 : chkx [1] = 0 := (chkx_nodup (xs := [1]) (by intro x hx; rw [List.mem_singleton.1 hx]; omega)).1 (by simp)
theorem subm_neg1 {p : Nat} (hp : 2 < p) : subm p 0 1 = p - 1 := by rw [subm_eq, Nat.zero_add]; exact Nat.mod_eq_of_lt (by omega)
theorem invm_one22 {p : Nat} (hp : 2 < p) : invm p 1 = 1 := by
  unfold invm; rw [powm_eq, Nat.one_pow]; exact Nat.mod_eq_of_lt (by omega)
theorem van_1 (b : Bool) : vanV (fP b) (pts [1]) = [1, subm (fP b) 0 1] := by
  have hb := big22 b
  show pmulV (fP b) [1] [1, subm (fP b) 0 (invm (fP b) 1)] = _
  rw [invm_one22 (by omega), pmulV_cl (by omega) (by simp) (by simp)]
  have hs : subm (fP b) 0 1 < fP b := subm_lt _ _ (by omega)
  refine ext_nat ?_ fun t ht => ?_
  · rw [cl_len, pm_len _ _ (zl_ne (by simp)) (zl_ne (by simp)), zl_len, zl_len]; simp
  · rw [cl_len, pm_len _ _ (zl_ne (by simp)) (zl_ne (by simp)), zl_len, zl_len] at ht
    rw [cl_get, pm_get]
    match t, ht with
    | 0, _ => simp [zl, pc, cn_nat (show 1 < fP b by omega)]; exact cn_nat (show 1 < fP b by omega)
    | 1, _ => simp [zl, pc]; exact cn_nat hs
theorem shf_537 (b : Bool) : shfV (fP b) (pts [1]) [5, 3] 7 = [7, 1] := by
  have hb := big22 b
  have e1 : subm (fP b) 7 5 = 2 := by rw [subm_eq, show 7 + fP b - 5 = fP b + 2 by omega, Nat.add_mod_left]; exact Nat.mod_eq_of_lt (by omega)
  have e2 : mulm (fP b) 2 1 = 2 := by rw [mulm_eq]; exact Nat.mod_eq_of_lt (by omega)
  have e3 : mulm (fP b) 2 (subm (fP b) 0 1) = fP b - 2 := by rw [subm_neg1 (by omega), mulm_eq, show 2 * (fP b - 1) = fP b + (fP b - 2) by omega, Nat.add_mod_left]; exact Nat.mod_eq_of_lt (by omega)
  have e4 : addm (fP b) 5 2 = 7 := by rw [addm_eq]; exact Nat.mod_eq_of_lt (by omega)
  have e5 : addm (fP b) 3 (fP b - 2) = 1 := by rw [addm_eq, show 3 + (fP b - 2) = fP b + 1 by omega, Nat.add_mod_left]; exact Nat.mod_eq_of_lt (by omega)
  unfold shfV
  rw [van_1]
  show paddV (fP b) [5, 3] [mulm (fP b) (subm (fP b) 7 5) 1, mulm (fP b) (subm (fP b) 7 5) (subm (fP b) 0 1)] = _
  rw [e1, e2, e3]
  refine ext_nat (by rw [paddV_len]; rfl) fun t ht => ?_
  rw [padd_get22]
  rw [paddV_len] at ht
  match t, ht with
  | 0, _ => exact e4
  | 1, _ => exact e5
theorem eq_same_v22 (a b c d : Int) (w : World) : (Op.equalIn 10000 28 (.agg #[.int .u64 a, .int .u64 b, .int .u64 c, .int .u64 d]) (.agg #[.int .u64 a, .int .u64 b, .int .u64 c, .int .u64 d])).run Tryd.prog w = .ok true w := by
  rw [run_eq_vec]; simp
theorem sls_one {w : World} {b : Nat} {t : TypeId} {v : Value} {l : List Nat} (h : Blk w b t [v]) (hn : NumSl w v l) : SlsSl w (.slice (some ⟨b, 0, none⟩) 1 1) [(v, l)] :=
  ⟨_, _, rfl, Nat.le_refl _, .inr ⟨b, 0, rfl, fun j r hj => by
    match j, hj with
    | 0, hj => cases hj; exact ⟨h.cell (i := 0) rfl, hn⟩⟩⟩
theorem bytes_one {w : World} {b x : Nat} {t : TypeId} (hx : x < 256) (h : Blk w b t [.int .u8 (x : Int)]) : ByteSl w (.slice (some ⟨b, 0, none⟩) 1 1) [x] :=
  ⟨_, _, rfl, Nat.le_refl _, .inr ⟨b, 0, rfl, fun j y hj => by
    match j, hj with
    | 0, hj => cases hj; exact ⟨hx, h.cell (i := 0) rfl⟩⟩⟩
theorem num_7 : num [7] = 7 := by
  have h1 : wd [7] 0 8 = 7 := by
    have e := wd_stop (l := [7]) (o := 0) (m := 1) (by simp) 7
    rw [show (1 + 7 : Nat) = 8 from rfl] at e
    rw [e, wd_add, wd_zero]; rfl
  have h2 : ∀ o, 1 ≤ o → wd [7] o 8 = 0 := fun o ho => by
    have e := wd_stop (l := [7]) (o := o) (m := 0) (by simp; omega) 8
    rw [Nat.zero_add] at e
    rw [e, wd_zero]
  rw [num_eq, h1, h2 8 (by decide), h2 16 (by decide), h2 24 (by decide)]; rfl
theorem chn_7 : chn [7] = [7] := by
  unfold chn
  show [num (List.take 31 (List.drop (31 * 0) [7]))] = _
  rw [show List.take 31 (List.drop (31 * 0) [7]) = [7] from rfl, num_7]
theorem vchk_ex {r : Value × List Nat} (h : r.2.length = 2) : vchk (fID true) 2 2 1 [1] [r] 1 = 0 := by
  refine vchk_ok (by decide) chk_1 (by decide) ?_
  rintro (h1 | h1 | ⟨r2, h2, h3⟩)
  · exact h1 rfl
  · exact h1 (show 1 = cntC 1 by decide)
  · rw [List.mem_singleton.1 h2, h] at h3; exact h3 rfl
theorem exV_ex (b : Bool) : exV b (pts [1]) [[5, 3]] [7] = [[7, 1]] := by
  show [shfV (fP b) (pts [1]) [5, 3] 7] = _
  rw [shf_537]
theorem vals_53 (b : Bool) : [5, 3].map (mulm (fP b) 1) = [5, 3] := by
  have hb := big22 b
  show [mulm (fP b) 1 5, mulm (fP b) 1 3] = _
  rw [mulm_one' (by omega), mulm_one' (by omega)]
theorem nums53 : nums [5, 3] = [.int .u64 5, .int .u64 0, .int .u64 0, .int .u64 0, .int .u64 3, .int .u64 0, .int .u64 0, .int .u64 0] := by simp [nums, limbs_small]
theorem nums71 : nums [7, 1] = [.int .u64 7, .int .u64 0, .int .u64 0, .int .u64 0, .int .u64 1, .int .u64 0, .int .u64 0, .int .u64 0] := by simp [nums, limbs_small]
theorem nums1z (z : Nat) : nums [1, z] = [.int .u64 1, .int .u64 0, .int .u64 0, .int .u64 0] ++ limbs z := by simp [nums, limbs_small]
theorem vec_7 : (.agg #[.int .u64 7, .int .u64 0, .int .u64 0, .int .u64 0] : Value) = vec 7 := vec_lit (a := 7) (b := 0) (c := 0) (d := 0) (by decide) (by decide) (by decide) (by decide) (by decide) (by decide)
set_option maxRecDepth 100000 in
set_option maxHeartbeats 2000000 in
theorem bias_any (b : Bool) (w : World) :
    Calls Tryd.prog 53 #[FV b] w (Ret (vec (fS b)) w) := by
  have BW := hid (Below.refl w.heap.size w)
  go_enter Tryd.func53, Tryd.ntmps53
  go_upto_region 1 with (fail)
  obtain ⟨v1, hv9⟩ : ∃ v, ((w.alloc (.cells #[.int .i64 (fID b), .int .u64 (limb (fP b) 0 : Int), .int .u64 (limb (fP b) 1 : Int), .int .u64 (limb (fP b) 2 : Int), .int .u64 (limb (fP b) 3 : Int), .int .u64 (fI b : Int), .int .u64 (limb (fO b) 0 : Int), .int .u64 (limb (fO b) 1 : Int), .int .u64 (limb (fO b) 2 : Int), .int .u64 (limb (fO b) 3 : Int), .int .u64 (limb (fS b) 0 : Int), .int .u64 (limb (fS b) 1 : Int), .int .u64 (limb (fS b) 2 : Int), .int .u64 (limb (fS b) 3 : Int)] 31)).alloc (.cells #[.int .u64 0, .int .u64 0, .int .u64 0, .int .u64 0] 28)) = v := ⟨_, rfl⟩
  have hG9 : Below w.heap.size w v1 := by rw [← hv9]; go_grown
  have X_F : Blk v1 (w.heap.size) 31 [.int .i64 (fID b), .int .u64 (limb (fP b) 0 : Int), .int .u64 (limb (fP b) 1 : Int), .int .u64 (limb (fP b) 2 : Int), .int .u64 (limb (fP b) 3 : Int), .int .u64 (fI b : Int), .int .u64 (limb (fO b) 0 : Int), .int .u64 (limb (fO b) 1 : Int), .int .u64 (limb (fO b) 2 : Int), .int .u64 (limb (fO b) 3 : Int), .int .u64 (limb (fS b) 0 : Int), .int .u64 (limb (fS b) 1 : Int), .int .u64 (limb (fS b) 2 : Int), .int .u64 (limb (fS b) 3 : Int)] := by rw [← hv9]; exact Blk.alloc (Blk.new rfl) _
  have X_R : Blk v1 (w.heap.size + 1) 28 [.int .u64 0, .int .u64 0, .int .u64 0, .int .u64 0] := by rw [← hv9]; exact Blk.new (by simp)
  obtain ⟨bF, hb9⟩ : ∃ k, w.heap.size = k := ⟨_, rfl⟩
  rw [hb9] at X_F
  rw [hb9] at X_R
  have g_bF : w.heap.size ≤ bF := by rw [← hb9]; exact BW.out.size
  replace BW := hid (BW.out.trans (hG9.mono BW.out.size))
  clear hG9
  rw [hv9]
  try rw [hb9]
  clear hv9 hb9
  have z_F := X_F.lt
  have c_F0 := X_F.cell (i := 0) rfl
  have c_F1 := X_F.cell (i := 1) rfl
  have c_F2 := X_F.cell (i := 2) rfl
  have c_F3 := X_F.cell (i := 3) rfl
  have c_F4 := X_F.cell (i := 4) rfl
  have c_F5 := X_F.cell (i := 5) rfl
  have c_F6 := X_F.cell (i := 6) rfl
  have c_F7 := X_F.cell (i := 7) rfl
  have c_F8 := X_F.cell (i := 8) rfl
  have c_F9 := X_F.cell (i := 9) rfl
  have c_F10 := X_F.cell (i := 10) rfl
  have c_F11 := X_F.cell (i := 11) rfl
  have c_F12 := X_F.cell (i := 12) rfl
  have c_F13 := X_F.cell (i := 13) rfl
  have z_R := X_R.lt
  have c_R0 := X_R.cell (i := 0) rfl
  have f_R0 := X_R.frozen 0
  have c_R1 := X_R.cell (i := 1) rfl
  have f_R1 := X_R.frozen 1
  have c_R2 := X_R.cell (i := 2) rfl
  have f_R2 := X_R.frozen 2
  have c_R3 := X_R.cell (i := 3) rfl
  have f_R3 := X_R.frozen 3
  have hBW := BW.out
  have zBW := hBW.size
  go_wp2
  refine bodyPost_ret (by simp only [results, Tryd.results53]; go_simp; try rfl) rfl ?_
  exact ⟨rfl, by go_grown⟩
set_option maxRecDepth 100000 in
set_option maxHeartbeats 8000000 in
theorem alive22_any (w : World) (hT : Tab w) :
    Calls Tryd.prog 35 #[] w (Ret (.bool true) w) := by
  have BW := hid (Below.refl w.heap.size w)
  have T := hid hT
  clear hT
  obtain ⟨b, hb9⟩ : ∃ b, b = true := ⟨_, rfl⟩
  have GC := hid (fun (W : World) (h : Tab W) => get22_any b W h)
  skip
  have EC0 : ∀ (W : World) (vc vx vl : Value) (r : Value × List Nat), Tab W → IntSl W vx [1] → SlsSl W vl [r] → ByteSl W vc [7] → r.2 = [5, 3].map (frm (fP b)) → Calls Tryd.prog 46 #[.agg #[.int .i64 2, .int .i64 2, .int .i64 2, .int .i64 1], vx, vl, vc] W (RetPs b [[7, 1]] 0 W) := fun W vc vx vl r h0 h1 h2 h3 h4 => by
      subst hb9
      have h := explain_ok true [[5, 3]] 2 2 1 vx vl vc [1] [r] [7] W h0 h1 h2 h3 (by simp) (by simp) (vchk_ex (by rw [h4]; rfl)) (by simp [h4]) (fun l hl z hz => by
        have hb := big22 true
        rw [List.mem_singleton.1 hl] at hz
        rcases List.mem_cons.1 hz with h | h
        · omega
        · rw [List.mem_singleton.1 h]; omega)
      rw [chn_7, exV_ex] at h
      exact h
  have EC := hid EC0
  have GC2 : ∀ W : World, Tab W → Calls Tryd.prog 36 #[.bool true] W (Ret (.tuple #[FV b, vec (fP b)]) W) := fun W h => by have h9 := get22_any b W h; rw [hb9] at h9 ⊢; exact h9
  replace GC := hid GC2
  clear EC0 GC2 hb9
  have hp2 := fP_two b
  have hpb := fP_lt b
  have h255 := big22 b
  have VNC := hid (fun (W : World) (v : Value) (h : IntSl W v [1]) => vanish_ok b v [1] W h (by simp) chk_1)
  rw [van_1] at VNC
  have VC := hid (fun (W : World) (v : Value) (h : NumSl W v [5, 3]) => values_any (fP b) v [5, 3] W hpb (by omega) h (by simp))
  unfold RetVals at VC
  rw [vals_53] at VC
  have FOC := hid (fun W : World => form22_any (fP b) 7 hpb (by omega) (by decide) W)
  rw [← vec_7] at FOC
  have SHC := hid (fun (W : World) (v u : Value) (h : IntSl W v [1]) (h2 : NumSl W u ([5, 3].map (frm (fP b)))) => shift_ok b v u [1] [5, 3] 7 W h (by simp) h2 (fun z hz => by
      rcases List.mem_cons.1 hz with h | h
      · omega
      · rw [List.mem_singleton.1 h]; omega) (by omega) chk_1 (by simp) (by simp))
  rw [shf_537] at SHC
  have SC := hid (fun W : World => rsubm_any (fP b) 0 1 hpb (by omega) (by omega) W)
  rw [← vec_zero, ← vec_one] at SC
  have S1 := hid (fun (W : World) (v1 v2 : Value) (h1 : NumSl W v1 ([1, subm (fP b) 0 1].map (frm (fP b)))) (h2 : NumSl W v2 [1, subm (fP b) 0 1]) => same22_any (fP b) v1 v2 _ W hpb (by omega) h1 h2 (by simp))
  have S2 := hid (fun (W : World) (v1 v2 : Value) (h1 : NumSl W v1 ([7, 1].map (frm (fP b)))) (h2 : NumSl W v2 [7, 1]) => same22_any (fP b) v1 v2 _ W hpb (by omega) h1 h2 (by simp))
  have QC := hid (fun (W : World) (v1 v2 : Value) (h1 : NumSl W v1 ([7, 1].map (frm (fP b)))) (h2 : NumSl W v2 ([7, 1].map (frm (fP b)))) => equale_same v1 v2 _ (by simp) W h1 h2)
  have BC := hid (fun W : World => bias_any b W)
  have HB2 : Hid (∀ y ∈ [1, subm (fP b) 0 1], y < B256) := hid (small9 (b := b) (fun y hy => by rcases List.mem_cons.1 hy with h | h; omega; rw [List.mem_singleton.1 h]; exact subm_lt _ _ (by omega)))
  obtain ⟨ms, hms⟩ : ∃ z, subm (fP b) 0 1 = z := ⟨_, rfl⟩
  rw [hms] at VNC SC S1 HB2
  obtain ⟨f7, hf7⟩ : ∃ z, frm (fP b) 7 = z := ⟨_, rfl⟩
  rw [hf7] at FOC SHC
  clear hms h255 hf7
  go_enter Tryd.func35, Tryd.ntmps35
  go_wp2_with fail
  refine (GC.out _ T.out).mono ?_
  rintro e v1 ⟨rfl, b9⟩
  replace T := hid (T.out.keep b9)
  replace BW := hid (BW.out.trans (b9.mono BW.out.size))
  clear b9
  go_wp2_with fail
  obtain ⟨v2, hv9⟩ : ∃ v, (((v1.alloc (.cells #[.int .i64 (fID b), .int .u64 (limb (fP b) 0 : Int), .int .u64 (limb (fP b) 1 : Int), .int .u64 (limb (fP b) 2 : Int), .int .u64 (limb (fP b) 3 : Int), .int .u64 (fI b : Int), .int .u64 (limb (fO b) 0 : Int), .int .u64 (limb (fO b) 1 : Int), .int .u64 (limb (fO b) 2 : Int), .int .u64 (limb (fO b) 3 : Int), .int .u64 (limb (fS b) 0 : Int), .int .u64 (limb (fS b) 1 : Int), .int .u64 (limb (fS b) 2 : Int), .int .u64 (limb (fS b) 3 : Int)] 31)).alloc (.cells #[.int .u64 (limb (fP b) 0 : Int), .int .u64 (limb (fP b) 1 : Int), .int .u64 (limb (fP b) 2 : Int), .int .u64 (limb (fP b) 3 : Int)] 28)).alloc (.cells #[.int .i64 1] 3)) = v := ⟨_, rfl⟩
  have hG9 : Below v1.heap.size v1 v2 := by rw [← hv9]; go_grown
  have X_F : Blk v2 (v1.heap.size) 31 [.int .i64 (fID b), .int .u64 (limb (fP b) 0 : Int), .int .u64 (limb (fP b) 1 : Int), .int .u64 (limb (fP b) 2 : Int), .int .u64 (limb (fP b) 3 : Int), .int .u64 (fI b : Int), .int .u64 (limb (fO b) 0 : Int), .int .u64 (limb (fO b) 1 : Int), .int .u64 (limb (fO b) 2 : Int), .int .u64 (limb (fO b) 3 : Int), .int .u64 (limb (fS b) 0 : Int), .int .u64 (limb (fS b) 1 : Int), .int .u64 (limb (fS b) 2 : Int), .int .u64 (limb (fS b) 3 : Int)] := by rw [← hv9]; exact Blk.alloc (Blk.alloc (Blk.new rfl) _) _
  have X_P : Blk v2 (v1.heap.size + 1) 28 [.int .u64 (limb (fP b) 0 : Int), .int .u64 (limb (fP b) 1 : Int), .int .u64 (limb (fP b) 2 : Int), .int .u64 (limb (fP b) 3 : Int)] := by rw [← hv9]; exact Blk.alloc (Blk.new (by simp)) _
  have X_I : Blk v2 (v1.heap.size + 1 + 1) 3 [.int .i64 1] := by rw [← hv9]; exact Blk.new (by simp)
  obtain ⟨bF, hb9⟩ : ∃ k, v1.heap.size = k := ⟨_, rfl⟩
  rw [hb9] at X_F
  rw [hb9] at X_P
  rw [hb9] at X_I
  have g_bF : w.heap.size ≤ bF := by rw [← hb9]; exact BW.out.size
  replace T := hid (T.out.keep hG9)
  replace BW := hid (BW.out.trans (hG9.mono BW.out.size))
  clear hG9
  rw [hv9]
  try rw [hb9]
  clear hv9 hb9
  refine (VNC.out _ _ (blk_ints22 (xs := [1]) X_I)).mono ?_
  rintro e v3 ⟨vz, rfl, hn9, b9⟩
  clear X_I
  obtain ⟨az, cz, rfl, _, _⟩ := id hn9
  have N_z := hid hn9
  clear hn9
  replace X_F := X_F.keep b9
  replace X_P := X_P.keep b9
  replace T := hid (T.out.keep b9)
  replace BW := hid (BW.out.trans (b9.mono BW.out.size))
  clear b9
  have z_P := X_P.lt
  have c_P0 := X_P.cell (i := 0) rfl
  have c_P1 := X_P.cell (i := 1) rfl
  have c_P2 := X_P.cell (i := 2) rfl
  have c_P3 := X_P.cell (i := 3) rfl
  go_wp2_with fail
  obtain ⟨v4, hv9⟩ : ∃ v, (v3.alloc (.cells #[.int .u64 5, .int .u64 0, .int .u64 0, .int .u64 0, .int .u64 3, .int .u64 0, .int .u64 0, .int .u64 0] 28)) = v := ⟨_, rfl⟩
  have hG9 : Below v3.heap.size v3 v4 := by rw [← hv9]; go_grown
  have X_L : Blk v4 (v3.heap.size) 28 [.int .u64 5, .int .u64 0, .int .u64 0, .int .u64 0, .int .u64 3, .int .u64 0, .int .u64 0, .int .u64 0] := by rw [← hv9]; exact Blk.new rfl
  obtain ⟨bL, hb9⟩ : ∃ k, v3.heap.size = k := ⟨_, rfl⟩
  rw [hb9] at X_L
  have g_bL : w.heap.size ≤ bL := by rw [← hb9]; exact BW.out.size
  have q_F_bL : bF < bL := by rw [← hb9]; exact X_F.lt
  have q_P_bL : bF + 1 < bL := by rw [← hb9]; exact X_P.lt
  clear z_P c_P0 c_P1 c_P2 c_P3
  replace X_F := X_F.keep hG9
  replace X_P := X_P.keep hG9
  replace N_z := hid (N_z.out.below hG9)
  replace T := hid (T.out.keep hG9)
  replace BW := hid (BW.out.trans (hG9.mono BW.out.size))
  clear hG9
  rw [hv9]
  try rw [hb9]
  clear hv9 hb9
  refine (VC.out _ _ (blk_nums (xs := [5, 3]) (by rw [nums53]; exact X_L) (by intro y hy; rcases List.mem_cons.1 hy with h | h; rw [h]; decide; rw [List.mem_singleton.1 h]; decide))).mono ?_
  rintro e v5 ⟨vv, vx, rfl, ho, ho2, b9⟩
  clear X_L
  obtain ⟨ay, cy, rfl, _, _, _⟩ := owns_form ho2
  have N_y := hid (nums_own (xs := [5, 3].map (frm (fP b))) ho2 (small9 (forms9 b _)))
  clear ho ho2
  replace X_F := X_F.keep b9
  replace X_P := X_P.keep b9
  replace N_z := hid (N_z.out.below b9)
  replace T := hid (T.out.keep b9)
  replace BW := hid (BW.out.trans (b9.mono BW.out.size))
  clear b9
  have z_F := X_F.lt
  have c_F0 := X_F.cell (i := 0) rfl
  have c_F1 := X_F.cell (i := 1) rfl
  have c_F2 := X_F.cell (i := 2) rfl
  have c_F3 := X_F.cell (i := 3) rfl
  have c_F4 := X_F.cell (i := 4) rfl
  have c_F5 := X_F.cell (i := 5) rfl
  have c_F6 := X_F.cell (i := 6) rfl
  have c_F7 := X_F.cell (i := 7) rfl
  have c_F8 := X_F.cell (i := 8) rfl
  have c_F9 := X_F.cell (i := 9) rfl
  have c_F10 := X_F.cell (i := 10) rfl
  have c_F11 := X_F.cell (i := 11) rfl
  have c_F12 := X_F.cell (i := 12) rfl
  have c_F13 := X_F.cell (i := 13) rfl
  have z_P := X_P.lt
  have c_P0 := X_P.cell (i := 0) rfl
  have c_P1 := X_P.cell (i := 1) rfl
  have c_P2 := X_P.cell (i := 2) rfl
  have c_P3 := X_P.cell (i := 3) rfl
  go_wp2
  clear z_F c_F0 c_F1 c_F2 c_F3 c_F4 c_F5 c_F6 c_F7 c_F8 c_F9 c_F10 c_F11 c_F12 c_F13 z_P c_P0 c_P1 c_P2 c_P3
  have z_F := X_F.lt
  have c_F0 := X_F.cell (i := 0) rfl
  have c_F1 := X_F.cell (i := 1) rfl
  have c_F2 := X_F.cell (i := 2) rfl
  have c_F3 := X_F.cell (i := 3) rfl
  have c_F4 := X_F.cell (i := 4) rfl
  have c_F5 := X_F.cell (i := 5) rfl
  have c_F6 := X_F.cell (i := 6) rfl
  have c_F7 := X_F.cell (i := 7) rfl
  have c_F8 := X_F.cell (i := 8) rfl
  have c_F9 := X_F.cell (i := 9) rfl
  have c_F10 := X_F.cell (i := 10) rfl
  have c_F11 := X_F.cell (i := 11) rfl
  have c_F12 := X_F.cell (i := 12) rfl
  have c_F13 := X_F.cell (i := 13) rfl
  have z_P := X_P.lt
  have c_P0 := X_P.cell (i := 0) rfl
  have c_P1 := X_P.cell (i := 1) rfl
  have c_P2 := X_P.cell (i := 2) rfl
  have c_P3 := X_P.cell (i := 3) rfl
  try refine wp_region_noPanic ?_
  refine wp_region_held_drew (S := (fun w' => ∀ b o, b < v5.heap.size → w'.cell? ⟨b, o, none⟩ = v5.cell? ⟨b, o, none⟩)) (by kernel_rfl) (fun b o h => cell_drew) (fun hHeld => ?_)
  have H9 := (Below.refl v5.heap.size v5).drew
  refine wpAnyH_take (i := 0) (oi := _) (v := .agg #[.int .i64 (fID b), .int .u64 (limb (fP b) 0 : Int), .int .u64 (limb (fP b) 1 : Int), .int .u64 (limb (fP b) 2 : Int), .int .u64 (limb (fP b) 3 : Int), .int .u64 (fI b : Int), .int .u64 (limb (fO b) 0 : Int), .int .u64 (limb (fO b) 1 : Int), .int .u64 (limb (fO b) 2 : Int), .int .u64 (limb (fO b) 3 : Int), .int .u64 (limb (fS b) 0 : Int), .int .u64 (limb (fS b) 1 : Int), .int .u64 (limb (fS b) 2 : Int), .int .u64 (limb (fS b) 3 : Int)]) rfl (by kernel_rfl) (by kernel_rfl) (by kernel_rfl) (fun _ _ _ h => h) (Or.inl ⟨by rfl, ?_⟩) (by assumption) ?_
  · intro w hSw; (try dsimp only at hSw); go_simp
  try simp only [Act.put, List.setIfInBounds_toArray, List.set_cons_zero, List.set_cons_succ]
  refine wpAnyH_take (i := 2) (oi := _) (v := .slice ay 2 cy) rfl (by kernel_rfl) (by kernel_rfl) (by kernel_rfl) (fun _ _ _ h => h) (Or.inl ⟨by rfl, ?_⟩) (by assumption) ?_
  · intro w hSw; (try dsimp only at hSw); go_simp
  try simp only [Act.put, List.setIfInBounds_toArray, List.set_cons_zero, List.set_cons_succ]
  refine wpAnyH_take (i := 3) (oi := _) (v := vec (fP b)) rfl (by kernel_rfl) (by kernel_rfl) (by kernel_rfl) (fun _ _ _ h => h) (Or.inl ⟨by rfl, ?_⟩) (by assumption) ?_
  · intro w hSw; (try dsimp only at hSw); go_simp
  try simp only [Act.put, List.setIfInBounds_toArray, List.set_cons_zero, List.set_cons_succ]
  refine wpAnyH_take (i := 4) (oi := _) (v := .agg #[.int .u64 7, .int .u64 0, .int .u64 0, .int .u64 0]) rfl (by kernel_rfl) (by kernel_rfl) (by kernel_rfl) (fun _ _ _ h => h) (Or.inl ⟨by rfl, ?_⟩) (by assumption) ?_
  · intro w hSw; (try dsimp only at hSw); go_simp
  try simp only [Act.put, List.setIfInBounds_toArray, List.set_cons_zero, List.set_cons_succ]
  clear hHeld
  refine wpAnyH_ready (rs := [1, 5]) (by kernel_rfl) (by simp) ?_
  refine AllReadyH.cons (o := _) rfl (fun K hK => ?_) ?_
  · skip
    go_simp
    obtain ⟨qra1, e9⟩ : ∃ q, (v5.alloc (.cells #[.int .i64 1] 3)).drew = q := ⟨_, rfl⟩
    rw [e9]
    have g_J : v5.heap.size ≤ v5.heap.size := H9.size
    have Z_J : Blk qra1 (v5.heap.size) 3 [.int .i64 1] := blk_to e9 (Blk.drew (Blk.new (w := v5) (xs := [.int .i64 1]) (t := 3) rfl))
    replace H9 := below_to e9 (((Below.refl v5.heap.size v5).alloc (Nat.le_refl _) (.cells #[.int .i64 1] 3)).drew)
    clear e9
    refine hK.out _ _ (fun b o h => H9.cell (p := ⟨b, o, none⟩) h) (fun hHeld => ?_)
    clear hK K
    try simp only [Act.put, List.setIfInBounds_toArray, List.set_cons_zero, List.set_cons_succ]
    clear hHeld
    refine wpAnyH_ready (rs := [5]) (by kernel_rfl) (by simp) ?_
    refine AllReadyH.cons (o := _) rfl (fun K hK => ?_) ?_
    · skip
      go_simp
      go_at_call 41
      refine (FOC.out _).mono ?_
      rintro e qra2 ⟨rfl, b9⟩
      replace H9 := H9.trans (b9.mono H9.size)
      replace Z_J := Z_J.keep b9
      clear b9
      try go_wp2_with fail
      refine hK.out _ _ (fun b o h => H9.cell (p := ⟨b, o, none⟩) h) (fun hHeld => ?_)
      clear hK K
      try simp only [Act.put, List.setIfInBounds_toArray, List.set_cons_zero, List.set_cons_succ]
      clear hHeld
      refine wpAnyH_ready (rs := [6]) (by kernel_rfl) (by simp) ?_
      refine AllReadyH.cons (o := _) rfl (fun K hK => ?_) ?_
      · skip
        go_simp
        go_at_call 40
        refine (SHC.out _ _ _ (blk_ints22 (xs := [1]) Z_J) (N_y.out.below H9)).mono ?_
        rintro e qra3 ⟨vs, rfl, ho9, b9⟩
        replace H9 := H9.trans (b9.mono H9.size)
        obtain ⟨asv, csv, rfl, _, _, _⟩ := owns_form ho9
        replace Z_J := Z_J.keep b9
        have NS := hid (nums_own (xs := [7, 1].map (frm (fP b))) ho9 (small9 (forms9 b _)))
        clear ho9
        clear b9
        try go_wp2_with fail
        refine hK.out _ _ (fun b o h => H9.cell (p := ⟨b, o, none⟩) h) (fun hHeld => ?_)
        clear hK K
        try simp only [Act.put, List.setIfInBounds_toArray, List.set_cons_zero, List.set_cons_succ]
        refine wpAnyH_take (i := 7) (oi := _) (v := .tuple #[.slice asv 2 csv, .int .i64 0]) rfl (by kernel_rfl) (by kernel_rfl) (by kernel_rfl) (fun _ _ _ h => h) (Or.inl ⟨by rfl, ?_⟩) (by assumption) ?_
        · intro w hSw; (try dsimp only at hSw); go_simp
        try simp only [Act.put, List.setIfInBounds_toArray, List.set_cons_zero, List.set_cons_succ]
        refine wpAnyH_take (i := 8) (oi := _) (v := .slice asv 2 csv) rfl (by kernel_rfl) (by kernel_rfl) (by kernel_rfl) (fun _ _ _ h => h) (Or.inl ⟨by rfl, ?_⟩) (by assumption) ?_
        · intro w hSw; (try dsimp only at hSw); go_simp
        try simp only [Act.put, List.setIfInBounds_toArray, List.set_cons_zero, List.set_cons_succ]
        refine wpAnyH_take (i := 9) (oi := _) (v := .int .i64 0) rfl (by kernel_rfl) (by kernel_rfl) (by kernel_rfl) (fun _ _ _ h => h) (Or.inl ⟨by rfl, ?_⟩) (by assumption) ?_
        · intro w hSw; (try dsimp only at hSw); go_simp
        try simp only [Act.put, List.setIfInBounds_toArray, List.set_cons_zero, List.set_cons_succ]
        refine wpAnyH_take (i := 10) (oi := _) (v := .slice asv 2 csv) rfl (by kernel_rfl) (by kernel_rfl) (by kernel_rfl) (fun _ _ _ h => h) (Or.inl ⟨by rfl, ?_⟩) (by assumption) ?_
        · intro w hSw; (try dsimp only at hSw); go_simp
        try simp only [Act.put, List.setIfInBounds_toArray, List.set_cons_zero, List.set_cons_succ]
        refine wpAnyH_take (i := 11) (oi := _) (v := .int .i64 0) rfl (by kernel_rfl) (by kernel_rfl) (by kernel_rfl) (fun _ _ _ h => h) (Or.inl ⟨by rfl, ?_⟩) (by assumption) ?_
        · intro w hSw; (try dsimp only at hSw); go_simp
        try simp only [Act.put, List.setIfInBounds_toArray, List.set_cons_zero, List.set_cons_succ]
        clear hHeld
        refine wpAnyH_done (by kernel_rfl) ?_ _
        try refine NoPanic.normal ?_
        clear z_F c_F0 c_F1 c_F2 c_F3 c_F4 c_F5 c_F6 c_F7 c_F8 c_F9 c_F10 c_F11 c_F12 c_F13 z_P c_P0 c_P1 c_P2 c_P3
        replace X_F := X_F.keep H9
        replace X_P := X_P.keep H9
        replace N_z := hid (N_z.out.below H9)
        replace N_y := hid (N_y.out.below H9)
        replace T := hid (T.out.keep H9)
        replace BW := hid (BW.out.trans (H9.mono BW.out.size))
        clear H9
        have X_J := Z_J
        clear Z_J
        clear X_J
        have N_s := NS
        clear NS
        go_wp2_with fail
        obtain ⟨v6, hv9⟩ : ∃ v, (((qra3.alloc (.cells #[.int .i64 1] 3)).alloc (.cells #[.slice ay 2 cy] 34)).alloc (.cells #[.int .u8 7] 5)) = v := ⟨_, rfl⟩
        have hG9 : Below qra3.heap.size qra3 v6 := by rw [← hv9]; go_grown
        have X_K : Blk v6 (qra3.heap.size) 3 [.int .i64 1] := by rw [← hv9]; exact Blk.alloc (Blk.alloc (Blk.new rfl) _) _
        have X_C : Blk v6 (qra3.heap.size + 1) 34 [.slice ay 2 cy] := by rw [← hv9]; exact Blk.alloc (Blk.new (by simp)) _
        have X_B : Blk v6 (qra3.heap.size + 1 + 1) 5 [.int .u8 7] := by rw [← hv9]; exact Blk.new (by simp)
        obtain ⟨bK, hb9⟩ : ∃ k, qra3.heap.size = k := ⟨_, rfl⟩
        rw [hb9] at X_K
        rw [hb9] at X_C
        rw [hb9] at X_B
        have g_bK : w.heap.size ≤ bK := by rw [← hb9]; exact BW.out.size
        have q_F_bK : bF < bK := by rw [← hb9]; exact X_F.lt
        have q_P_bK : bF + 1 < bK := by rw [← hb9]; exact X_P.lt
        replace X_F := X_F.keep hG9
        replace X_P := X_P.keep hG9
        replace N_z := hid (N_z.out.below hG9)
        replace N_y := hid (N_y.out.below hG9)
        replace N_s := hid (N_s.out.below hG9)
        replace T := hid (T.out.keep hG9)
        replace BW := hid (BW.out.trans (hG9.mono BW.out.size))
        clear hG9
        rw [hv9]
        try rw [hb9]
        clear hv9 hb9
        refine (EC.out _ _ _ _ (.slice ay 2 cy, [5, 3].map (frm (fP b))) T.out (blk_ints22 (xs := [1]) X_K) (sls_one X_C N_y.out) (bytes_one (by decide) X_B) rfl).mono ?_
        rintro e v7 ⟨zl, rs2, rfl, hsl, hr2, b9⟩
        clear X_K X_C X_B N_y
        obtain ⟨r2, hr3⟩ : ∃ r, rs2 = [r] := List.length_eq_one_iff.1 (by have h := congrArg List.length hr2; simpa using h)
        subst hr3
        have hr4 : r2.2 = [7, 1].map (frm (fP b)) := by simpa using hr2
        obtain ⟨rv, rl⟩ := r2
        simp only at hr4
        subst hr4
        obtain ⟨zla, zlc, rfl, _, _⟩ := id hsl
        obtain ⟨gz, oz, rfl, hgz, dz, hNz⟩ := hsl.at (k := 0) rfl
        simp only [Nat.add_zero] at dz
        simp only at dz hNz
        obtain ⟨la, lc, rfl, _, _⟩ := id hNz
        have N_l := hid hNz
        have DZ := hid dz
        clear hr2 hsl hNz
        replace X_F := X_F.keep b9
        replace X_P := X_P.keep b9
        replace N_z := hid (N_z.out.below b9)
        replace N_s := hid (N_s.out.below b9)
        replace T := hid (T.out.keep b9)
        replace BW := hid (BW.out.trans (b9.mono BW.out.size))
        clear b9
        skip
        have EQV := fun W : World => eq_same_v22 (limb (fS b) 0 : Int) (limb (fS b) 1 : Int) (limb (fS b) 2 : Int) (limb (fS b) 3 : Int) W
        have N_one := HB2
        have z_F := X_F.lt
        have c_F0 := X_F.cell (i := 0) rfl
        have c_F1 := X_F.cell (i := 1) rfl
        have c_F2 := X_F.cell (i := 2) rfl
        have c_F3 := X_F.cell (i := 3) rfl
        have c_F4 := X_F.cell (i := 4) rfl
        have c_F5 := X_F.cell (i := 5) rfl
        have c_F6 := X_F.cell (i := 6) rfl
        have c_F7 := X_F.cell (i := 7) rfl
        have c_F8 := X_F.cell (i := 8) rfl
        have c_F9 := X_F.cell (i := 9) rfl
        have c_F10 := X_F.cell (i := 10) rfl
        have c_F11 := X_F.cell (i := 11) rfl
        have c_F12 := X_F.cell (i := 12) rfl
        have c_F13 := X_F.cell (i := 13) rfl
        have z_P := X_P.lt
        have c_P0 := X_P.cell (i := 0) rfl
        have c_P1 := X_P.cell (i := 1) rfl
        have c_P2 := X_P.cell (i := 2) rfl
        have c_P3 := X_P.cell (i := 3) rfl
        go_upto_region 6 with (fail)
        go_region_held3 (fun w' => ∀ b o, b < v7.heap.size → w'.cell? ⟨b, o, none⟩ = v7.cell? ⟨b, o, none⟩) ((intro b o h; first | with_reducible exact c5 b o h | with_reducible exact c4 b o h | with_reducible exact c3 b o h | with_reducible exact c2 b o h | with_reducible exact c1 b o h | with_reducible exact cell_drew | with_reducible exact cell_drew.trans (cell_alloc h) | (with_reducible refine (cell_alloc (by (try simp); omega)).trans ?_; first | with_reducible exact c5 b o h | with_reducible exact c4 b o h | with_reducible exact c3 b o h | with_reducible exact c2 b o h | with_reducible exact c1 b o h | with_reducible exact cell_drew) | with_reducible exact (below_set4 H5.out (by omega) _ _ _ _).cell (p := ⟨b, o, none⟩) h | with_reducible exact (below_set4 H4.out (by omega) _ _ _ _).cell (p := ⟨b, o, none⟩) h | with_reducible exact (below_set4 H3.out (by omega) _ _ _ _).cell (p := ⟨b, o, none⟩) h | with_reducible exact (below_set4 H2.out (by omega) _ _ _ _).cell (p := ⟨b, o, none⟩) h | with_reducible exact (below_set4 H1.out (by omega) _ _ _ _).cell (p := ⟨b, o, none⟩) h)) (first | (go_at_call 53; refine (BC.out _).mono ?_; rintro e ra5 ⟨rfl, b9⟩; have H5 : Hid (Below v7.heap.size v7 ra5) := hid H4.out.trans (b9.mono H4.out.size); clear b9; have c5 := bcell H5.out; have z5 := H5.out.size) | (go_at_call 44; refine (QC.out _ _ _ (N_l.out.below H3.out) (N_s.out.below H3.out)).mono ?_; rintro e ra4 ⟨rfl, b9⟩; have H4 : Hid (Below v7.heap.size v7 ra4) := hid H3.out.trans (b9.mono H3.out.size); clear b9; have c4 := bcell H4.out; have z4 := H4.out.size) | (go_at_call 38; refine (S2.out _ _ _ (N_s.out.below (H2.out.alloc H2.out.size _)) (blk_nums (xs := [7, 1]) (t := 28) (by rw [nums71]; exact Blk.new rfl) (by intro y hy; rcases List.mem_cons.1 hy with h | h; rw [h]; decide; rw [List.mem_singleton.1 h]; decide))).mono ?_; rintro e ra3 ⟨rfl, b9⟩; have H3 : Hid (Below v7.heap.size v7 ra3) := hid (by first | exact H2.out.trans (b9.mono H2.out.size) | exact (H2.out.alloc H2.out.size _).trans (b9.mono (by have := H2.out.size; simp; omega))); clear b9; have c3 := bcell H3.out; have z3 := H3.out.size) | (go_at_call 38; refine (S1.out _ _ _ (N_z.out.below (H1.out.alloc H1.out.size _)) (blk_nums (t := 28) (by rw [nums1z]; exact Blk.new rfl) HB2.out)).mono ?_; rintro e ra2 ⟨rfl, b9⟩; have H2 : Hid (Below v7.heap.size v7 ra2) := hid (by first | exact H1.out.trans (b9.mono H1.out.size) | exact (H1.out.alloc H1.out.size _).trans (b9.mono (by have := H1.out.size; simp; omega))); clear b9; have c2 := bcell H2.out; have z2 := H2.out.size) | (go_at_call 74; refine (SC.out v7.drew).mono ?_; rintro e ra1 ⟨rfl, b9⟩; have H1 : Hid (Below v7.heap.size v7 ra1) := hid (Below.drew (Below.refl _ v7)).trans b9; clear b9; have c1 := bcell H1.out; have z1 := H1.out.size))
        have hH9 := H5.out
        clear z_F c_F0 c_F1 c_F2 c_F3 c_F4 c_F5 c_F6 c_F7 c_F8 c_F9 c_F10 c_F11 c_F12 c_F13 z_P c_P0 c_P1 c_P2 c_P3
        replace X_F := X_F.keep hH9
        replace X_P := X_P.keep hH9
        replace N_z := hid (N_z.out.below hH9)
        replace N_s := hid (N_s.out.below hH9)
        replace N_l := hid (N_l.out.below hH9)
        replace T := hid (T.out.keep hH9)
        replace BW := hid (BW.out.trans (hH9.mono BW.out.size))
        clear hH9
        clear H1 c1 z1 H2 c2 z2 H3 c3 z3 H4 c4 z4 H5 c5 z5
        go_wp2
        go_ret
        exact ⟨rfl, BW.out⟩
      exact AllReadyH.nil
    exact AllReadyH.nil
  refine AllReadyH.cons (o := _) rfl (fun K hK => ?_) ?_
  · skip
    go_simp
    go_at_call 41
    refine (FOC.out _).mono ?_
    rintro e qrb4 ⟨rfl, b9⟩
    replace H9 := H9.trans (b9.mono H9.size)
    clear b9
    try go_wp2_with fail
    refine hK.out _ _ (fun b o h => H9.cell (p := ⟨b, o, none⟩) h) (fun hHeld => ?_)
    clear hK K
    try simp only [Act.put, List.setIfInBounds_toArray, List.set_cons_zero, List.set_cons_succ]
    clear hHeld
    refine wpAnyH_ready (rs := [1]) (by kernel_rfl) (by simp) ?_
    refine AllReadyH.cons (o := _) rfl (fun K hK => ?_) ?_
    · skip
      go_simp
      obtain ⟨qrb5, e9⟩ : ∃ q, (qrb4.alloc (.cells #[.int .i64 1] 3)) = q := ⟨_, rfl⟩
      rw [e9]
      have g_J : v5.heap.size ≤ qrb4.heap.size := H9.size
      have Z_J : Blk qrb5 (qrb4.heap.size) 3 [.int .i64 1] := blk_to e9 (Blk.new (w := qrb4) (xs := [.int .i64 1]) (t := 3) rfl)
      replace H9 := below_to e9 (H9.alloc H9.size (.cells #[.int .i64 1] 3))
      clear e9
      refine hK.out _ _ (fun b o h => H9.cell (p := ⟨b, o, none⟩) h) (fun hHeld => ?_)
      clear hK K
      try simp only [Act.put, List.setIfInBounds_toArray, List.set_cons_zero, List.set_cons_succ]
      clear hHeld
      refine wpAnyH_ready (rs := [6]) (by kernel_rfl) (by simp) ?_
      refine AllReadyH.cons (o := _) rfl (fun K hK => ?_) ?_
      · skip
        go_simp
        go_at_call 40
        refine (SHC.out _ _ _ (blk_ints22 (xs := [1]) Z_J) (N_y.out.below H9)).mono ?_
        rintro e qrb6 ⟨vs, rfl, ho9, b9⟩
        replace H9 := H9.trans (b9.mono H9.size)
        obtain ⟨asv, csv, rfl, _, _, _⟩ := owns_form ho9
        replace Z_J := Z_J.keep b9
        have NS := hid (nums_own (xs := [7, 1].map (frm (fP b))) ho9 (small9 (forms9 b _)))
        clear ho9
        clear b9
        try go_wp2_with fail
        refine hK.out _ _ (fun b o h => H9.cell (p := ⟨b, o, none⟩) h) (fun hHeld => ?_)
        clear hK K
        try simp only [Act.put, List.setIfInBounds_toArray, List.set_cons_zero, List.set_cons_succ]
        refine wpAnyH_take (i := 7) (oi := _) (v := .tuple #[.slice asv 2 csv, .int .i64 0]) rfl (by kernel_rfl) (by kernel_rfl) (by kernel_rfl) (fun _ _ _ h => h) (Or.inl ⟨by rfl, ?_⟩) (by assumption) ?_
        · intro w hSw; (try dsimp only at hSw); go_simp
        try simp only [Act.put, List.setIfInBounds_toArray, List.set_cons_zero, List.set_cons_succ]
        refine wpAnyH_take (i := 8) (oi := _) (v := .slice asv 2 csv) rfl (by kernel_rfl) (by kernel_rfl) (by kernel_rfl) (fun _ _ _ h => h) (Or.inl ⟨by rfl, ?_⟩) (by assumption) ?_
        · intro w hSw; (try dsimp only at hSw); go_simp
        try simp only [Act.put, List.setIfInBounds_toArray, List.set_cons_zero, List.set_cons_succ]
        refine wpAnyH_take (i := 9) (oi := _) (v := .int .i64 0) rfl (by kernel_rfl) (by kernel_rfl) (by kernel_rfl) (fun _ _ _ h => h) (Or.inl ⟨by rfl, ?_⟩) (by assumption) ?_
        · intro w hSw; (try dsimp only at hSw); go_simp
        try simp only [Act.put, List.setIfInBounds_toArray, List.set_cons_zero, List.set_cons_succ]
        refine wpAnyH_take (i := 10) (oi := _) (v := .slice asv 2 csv) rfl (by kernel_rfl) (by kernel_rfl) (by kernel_rfl) (fun _ _ _ h => h) (Or.inl ⟨by rfl, ?_⟩) (by assumption) ?_
        · intro w hSw; (try dsimp only at hSw); go_simp
        try simp only [Act.put, List.setIfInBounds_toArray, List.set_cons_zero, List.set_cons_succ]
        refine wpAnyH_take (i := 11) (oi := _) (v := .int .i64 0) rfl (by kernel_rfl) (by kernel_rfl) (by kernel_rfl) (fun _ _ _ h => h) (Or.inl ⟨by rfl, ?_⟩) (by assumption) ?_
        · intro w hSw; (try dsimp only at hSw); go_simp
        try simp only [Act.put, List.setIfInBounds_toArray, List.set_cons_zero, List.set_cons_succ]
        clear hHeld
        refine wpAnyH_done (by kernel_rfl) ?_ _
        try refine NoPanic.normal ?_
        clear z_F c_F0 c_F1 c_F2 c_F3 c_F4 c_F5 c_F6 c_F7 c_F8 c_F9 c_F10 c_F11 c_F12 c_F13 z_P c_P0 c_P1 c_P2 c_P3
        replace X_F := X_F.keep H9
        replace X_P := X_P.keep H9
        replace N_z := hid (N_z.out.below H9)
        replace N_y := hid (N_y.out.below H9)
        replace T := hid (T.out.keep H9)
        replace BW := hid (BW.out.trans (H9.mono BW.out.size))
        clear H9
        have X_J := Z_J
        clear Z_J
        clear X_J
        have N_s := NS
        clear NS
        go_wp2_with fail
        obtain ⟨v8, hv9⟩ : ∃ v, (((qrb6.alloc (.cells #[.int .i64 1] 3)).alloc (.cells #[.slice ay 2 cy] 34)).alloc (.cells #[.int .u8 7] 5)) = v := ⟨_, rfl⟩
        have hG9 : Below qrb6.heap.size qrb6 v8 := by rw [← hv9]; go_grown
        have X_K : Blk v8 (qrb6.heap.size) 3 [.int .i64 1] := by rw [← hv9]; exact Blk.alloc (Blk.alloc (Blk.new rfl) _) _
        have X_C : Blk v8 (qrb6.heap.size + 1) 34 [.slice ay 2 cy] := by rw [← hv9]; exact Blk.alloc (Blk.new (by simp)) _
        have X_B : Blk v8 (qrb6.heap.size + 1 + 1) 5 [.int .u8 7] := by rw [← hv9]; exact Blk.new (by simp)
        obtain ⟨bK, hb9⟩ : ∃ k, qrb6.heap.size = k := ⟨_, rfl⟩
        rw [hb9] at X_K
        rw [hb9] at X_C
        rw [hb9] at X_B
        have g_bK : w.heap.size ≤ bK := by rw [← hb9]; exact BW.out.size
        have q_F_bK : bF < bK := by rw [← hb9]; exact X_F.lt
        have q_P_bK : bF + 1 < bK := by rw [← hb9]; exact X_P.lt
        replace X_F := X_F.keep hG9
        replace X_P := X_P.keep hG9
        replace N_z := hid (N_z.out.below hG9)
        replace N_y := hid (N_y.out.below hG9)
        replace N_s := hid (N_s.out.below hG9)
        replace T := hid (T.out.keep hG9)
        replace BW := hid (BW.out.trans (hG9.mono BW.out.size))
        clear hG9
        rw [hv9]
        try rw [hb9]
        clear hv9 hb9
        refine (EC.out _ _ _ _ (.slice ay 2 cy, [5, 3].map (frm (fP b))) T.out (blk_ints22 (xs := [1]) X_K) (sls_one X_C N_y.out) (bytes_one (by decide) X_B) rfl).mono ?_
        rintro e v9 ⟨zl, rs2, rfl, hsl, hr2, b9⟩
        clear X_K X_C X_B N_y
        obtain ⟨r2, hr3⟩ : ∃ r, rs2 = [r] := List.length_eq_one_iff.1 (by have h := congrArg List.length hr2; simpa using h)
        subst hr3
        have hr4 : r2.2 = [7, 1].map (frm (fP b)) := by simpa using hr2
        obtain ⟨rv, rl⟩ := r2
        simp only at hr4
        subst hr4
        obtain ⟨zla, zlc, rfl, _, _⟩ := id hsl
        obtain ⟨gz, oz, rfl, hgz, dz, hNz⟩ := hsl.at (k := 0) rfl
        simp only [Nat.add_zero] at dz
        simp only at dz hNz
        obtain ⟨la, lc, rfl, _, _⟩ := id hNz
        have N_l := hid hNz
        have DZ := hid dz
        clear hr2 hsl hNz
        replace X_F := X_F.keep b9
        replace X_P := X_P.keep b9
        replace N_z := hid (N_z.out.below b9)
        replace N_s := hid (N_s.out.below b9)
        replace T := hid (T.out.keep b9)
        replace BW := hid (BW.out.trans (b9.mono BW.out.size))
        clear b9
        skip
        have EQV := fun W : World => eq_same_v22 (limb (fS b) 0 : Int) (limb (fS b) 1 : Int) (limb (fS b) 2 : Int) (limb (fS b) 3 : Int) W
        have N_one := HB2
        have z_F := X_F.lt
        have c_F0 := X_F.cell (i := 0) rfl
        have c_F1 := X_F.cell (i := 1) rfl
        have c_F2 := X_F.cell (i := 2) rfl
        have c_F3 := X_F.cell (i := 3) rfl
        have c_F4 := X_F.cell (i := 4) rfl
        have c_F5 := X_F.cell (i := 5) rfl
        have c_F6 := X_F.cell (i := 6) rfl
        have c_F7 := X_F.cell (i := 7) rfl
        have c_F8 := X_F.cell (i := 8) rfl
        have c_F9 := X_F.cell (i := 9) rfl
        have c_F10 := X_F.cell (i := 10) rfl
        have c_F11 := X_F.cell (i := 11) rfl
        have c_F12 := X_F.cell (i := 12) rfl
        have c_F13 := X_F.cell (i := 13) rfl
        have z_P := X_P.lt
        have c_P0 := X_P.cell (i := 0) rfl
        have c_P1 := X_P.cell (i := 1) rfl
        have c_P2 := X_P.cell (i := 2) rfl
        have c_P3 := X_P.cell (i := 3) rfl
        go_upto_region 6 with (fail)
        go_region_held3 (fun w' => ∀ b o, b < v9.heap.size → w'.cell? ⟨b, o, none⟩ = v9.cell? ⟨b, o, none⟩) ((intro b o h; first | with_reducible exact c5 b o h | with_reducible exact c4 b o h | with_reducible exact c3 b o h | with_reducible exact c2 b o h | with_reducible exact c1 b o h | with_reducible exact cell_drew | with_reducible exact cell_drew.trans (cell_alloc h) | (with_reducible refine (cell_alloc (by (try simp); omega)).trans ?_; first | with_reducible exact c5 b o h | with_reducible exact c4 b o h | with_reducible exact c3 b o h | with_reducible exact c2 b o h | with_reducible exact c1 b o h | with_reducible exact cell_drew) | with_reducible exact (below_set4 H5.out (by omega) _ _ _ _).cell (p := ⟨b, o, none⟩) h | with_reducible exact (below_set4 H4.out (by omega) _ _ _ _).cell (p := ⟨b, o, none⟩) h | with_reducible exact (below_set4 H3.out (by omega) _ _ _ _).cell (p := ⟨b, o, none⟩) h | with_reducible exact (below_set4 H2.out (by omega) _ _ _ _).cell (p := ⟨b, o, none⟩) h | with_reducible exact (below_set4 H1.out (by omega) _ _ _ _).cell (p := ⟨b, o, none⟩) h)) (first | (go_at_call 53; refine (BC.out _).mono ?_; rintro e rb5 ⟨rfl, b9⟩; have H5 : Hid (Below v9.heap.size v9 rb5) := hid H4.out.trans (b9.mono H4.out.size); clear b9; have c5 := bcell H5.out; have z5 := H5.out.size) | (go_at_call 44; refine (QC.out _ _ _ (N_l.out.below H3.out) (N_s.out.below H3.out)).mono ?_; rintro e rb4 ⟨rfl, b9⟩; have H4 : Hid (Below v9.heap.size v9 rb4) := hid H3.out.trans (b9.mono H3.out.size); clear b9; have c4 := bcell H4.out; have z4 := H4.out.size) | (go_at_call 38; refine (S2.out _ _ _ (N_s.out.below (H2.out.alloc H2.out.size _)) (blk_nums (xs := [7, 1]) (t := 28) (by rw [nums71]; exact Blk.new rfl) (by intro y hy; rcases List.mem_cons.1 hy with h | h; rw [h]; decide; rw [List.mem_singleton.1 h]; decide))).mono ?_; rintro e rb3 ⟨rfl, b9⟩; have H3 : Hid (Below v9.heap.size v9 rb3) := hid (by first | exact H2.out.trans (b9.mono H2.out.size) | exact (H2.out.alloc H2.out.size _).trans (b9.mono (by have := H2.out.size; simp; omega))); clear b9; have c3 := bcell H3.out; have z3 := H3.out.size) | (go_at_call 38; refine (S1.out _ _ _ (N_z.out.below (H1.out.alloc H1.out.size _)) (blk_nums (t := 28) (by rw [nums1z]; exact Blk.new rfl) HB2.out)).mono ?_; rintro e rb2 ⟨rfl, b9⟩; have H2 : Hid (Below v9.heap.size v9 rb2) := hid (by first | exact H1.out.trans (b9.mono H1.out.size) | exact (H1.out.alloc H1.out.size _).trans (b9.mono (by have := H1.out.size; simp; omega))); clear b9; have c2 := bcell H2.out; have z2 := H2.out.size) | (go_at_call 74; refine (SC.out v9.drew).mono ?_; rintro e rb1 ⟨rfl, b9⟩; have H1 : Hid (Below v9.heap.size v9 rb1) := hid (Below.drew (Below.refl _ v9)).trans b9; clear b9; have c1 := bcell H1.out; have z1 := H1.out.size))
        have hH9 := H5.out
        clear z_F c_F0 c_F1 c_F2 c_F3 c_F4 c_F5 c_F6 c_F7 c_F8 c_F9 c_F10 c_F11 c_F12 c_F13 z_P c_P0 c_P1 c_P2 c_P3
        replace X_F := X_F.keep hH9
        replace X_P := X_P.keep hH9
        replace N_z := hid (N_z.out.below hH9)
        replace N_s := hid (N_s.out.below hH9)
        replace N_l := hid (N_l.out.below hH9)
        replace T := hid (T.out.keep hH9)
        replace BW := hid (BW.out.trans (hH9.mono BW.out.size))
        clear hH9
        clear H1 c1 z1 H2 c2 z2 H3 c3 z3 H4 c4 z4 H5 c5 z5
        go_wp2
        go_ret
        exact ⟨rfl, BW.out⟩
      exact AllReadyH.nil
    exact AllReadyH.nil
  exact AllReadyH.nil
end Go.Proofs.YtogenbggjodcnaaDoor
