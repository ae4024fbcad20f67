/-
  The sum of products.
-/
import Derived.Test.YthdjjogdjabflaaDoorMas9
namespace Go.Proofs.YthdjjogdjabflaaDoor
open Go.RowKit

attribute [local go_sem] Oper.semAt_some
theorem blk_zero9 {w : World} {b v : Nat} {t : TypeId} (h : Blk w b t [.int .u64 0, .int .u64 0, .int .u64 0, .int .u64 0]) (e : v = 0) : Blk w b t (limbs v) := by
  subst e; rw [limbs_0]; exact h
set_option maxRecDepth 100000 in
set_option maxHeartbeats 2000000 in
theorem dot_bad (b : Bool) (v u : Value) (ua ub : List Nat) (w : World) (hS : NumSl w v (ua.map (frm (fP b)))) (hU : NumSl w u (ub.map (frm (fP b)))) (hl : ua.length < 1000000) (hl2 : ub.length < 1000000) (hne : ua.length ≠ ub.length) :
    Calls Tryd.prog 21 #[.pointer none, FV b, v, u] w (Ret (.tuple #[vec 0, .int .i64 8]) w) := by
  have BW := hid (Below.refl w.heap.size w)
  obtain ⟨a, cap, rfl, _, _⟩ := hS
  obtain ⟨a2, cap2, rfl, _, _⟩ := hU
  rw [List.length_map, List.length_map]
  obtain ⟨n, hn⟩ : ∃ n, ua.length = n := ⟨_, rfl⟩
  obtain ⟨m, hm⟩ : ∃ n, ub.length = n := ⟨_, rfl⟩
  rw [hn] at hl hne ⊢
  rw [hm] at hl2 hne ⊢
  clear hn hm
  have hd : ((n : Int) != (m : Int)) = true := by simp; omega
  have HZ := hid vec_zero
  go_enter Tryd.func21, Tryd.ntmps21
  go_upto_region 2 with (fail)
  obtain ⟨v1, hv9⟩ : ∃ v, (((w.alloc (.cells #[.int .i64 (fID b), .int .u64 (limb (fP b) 0 : Int), .int .u64 (limb (fP b) 1 : Int), .int .u64 (limb (fP b) 2 : Int), .int .u64 (limb (fP b) 3 : Int), .int .u64 (fI b : Int), .int .u64 (limb (fO b) 0 : Int), .int .u64 (limb (fO b) 1 : Int), .int .u64 (limb (fO b) 2 : Int), .int .u64 (limb (fO b) 3 : Int), .int .u64 (limb (fS b) 0 : Int), .int .u64 (limb (fS b) 1 : Int), .int .u64 (limb (fS b) 2 : Int), .int .u64 (limb (fS b) 3 : Int)] 32)).alloc (.cells #[.int .u64 0, .int .u64 0, .int .u64 0, .int .u64 0] 30)).alloc (.cells #[.int .u64 0, .int .u64 0, .int .u64 0, .int .u64 0] 30)) = v := ⟨_, rfl⟩
  have hG9 : Below w.heap.size w v1 := by rw [← hv9]; go_grown
  have X_F : Blk v1 (w.heap.size) 32 [.int .i64 (fID b), .int .u64 (limb (fP b) 0 : Int), .int .u64 (limb (fP b) 1 : Int), .int .u64 (limb (fP b) 2 : Int), .int .u64 (limb (fP b) 3 : Int), .int .u64 (fI b : Int), .int .u64 (limb (fO b) 0 : Int), .int .u64 (limb (fO b) 1 : Int), .int .u64 (limb (fO b) 2 : Int), .int .u64 (limb (fO b) 3 : Int), .int .u64 (limb (fS b) 0 : Int), .int .u64 (limb (fS b) 1 : Int), .int .u64 (limb (fS b) 2 : Int), .int .u64 (limb (fS b) 3 : Int)] := by rw [← hv9]; exact Blk.alloc (Blk.alloc (Blk.new rfl) _) _
  have X_R : Blk v1 (w.heap.size + 1) 30 [.int .u64 0, .int .u64 0, .int .u64 0, .int .u64 0] := by rw [← hv9]; exact Blk.alloc (Blk.new (by simp)) _
  have X_S : Blk v1 (w.heap.size + 1 + 1) 30 [.int .u64 0, .int .u64 0, .int .u64 0, .int .u64 0] := by rw [← hv9]; exact Blk.new (by simp)
  obtain ⟨bF, hb9⟩ : ∃ k, w.heap.size = k := ⟨_, rfl⟩
  rw [hb9] at X_F
  rw [hb9] at X_R
  rw [hb9] at X_S
  have g_bF : w.heap.size ≤ bF := by rw [← hb9]; exact BW.out.size
  replace BW := hid (BW.out.trans (hG9.mono BW.out.size))
  clear hG9
  rw [hv9]
  try rw [hb9]
  clear hv9 hb9
  have z_R := X_R.lt
  have c_R0 := X_R.cell (i := 0) rfl
  have f_R0 := X_R.frozen 0
  have c_R1 := X_R.cell (i := 1) rfl
  have f_R1 := X_R.frozen 1
  have c_R2 := X_R.cell (i := 2) rfl
  have f_R2 := X_R.frozen 2
  have c_R3 := X_R.cell (i := 3) rfl
  have f_R3 := X_R.frozen 3
  have z_S := X_S.lt
  have c_S0 := X_S.cell (i := 0) rfl
  have f_S0 := X_S.frozen 0
  have c_S1 := X_S.cell (i := 1) rfl
  have f_S1 := X_S.frozen 1
  have c_S2 := X_S.cell (i := 2) rfl
  have f_S2 := X_S.frozen 2
  have c_S3 := X_S.cell (i := 3) rfl
  have f_S3 := X_S.frozen 3
  go_wp2
  refine bodyPost_ret (by simp only [results, Tryd.results21]; go_simp; try rfl) rfl ?_
  have hBW := BW.out
  have zBW := hBW.size
  exact ⟨by rw [← HZ.out], by go_grown⟩
set_option maxRecDepth 100000 in
set_option maxHeartbeats 2000000 in
theorem dot_ok (b : Bool) (v u : Value) (ua ub : List Nat) (w : World) (hS : NumSl w v (ua.map (frm (fP b)))) (hU : NumSl w u (ub.map (frm (fP b)))) (hl : ua.length < 1000000) (he : ua.length = ub.length) :
    Calls Tryd.prog 21 #[.pointer none, FV b, v, u] w (Ret (.tuple #[vec (frm (fP b) (dotk (fP b) (fun t => ua.getD t 0) (fun t => ub.getD t 0) ua.length)), .int .i64 0]) w) := by
  have BW := hid (Below.refl w.heap.size w)
  have HS := hid hS
  have HU := hid hU
  obtain ⟨a, cap, rfl, _, _⟩ := hS
  obtain ⟨a2, cap2, rfl, _, _⟩ := hU
  rw [List.length_map] at HS HU ⊢
  rw [List.length_map]
  obtain ⟨n, hn⟩ : ∃ n, ua.length = n := ⟨_, rfl⟩
  rw [hn] at hl HS he ⊢
  rw [← he] at HU ⊢
  have HN := hid hn
  have HE := hid he
  clear hn he
  have hd : ((n : Int) != (n : Int)) = false := by simp
  have hp2 := fP_two b
  go_enter Tryd.func21, Tryd.ntmps21
  go_upto_region 2 with (fail)
  obtain ⟨v1, hv9⟩ : ∃ v, (((w.alloc (.cells #[.int .i64 (fID b), .int .u64 (limb (fP b) 0 : Int), .int .u64 (limb (fP b) 1 : Int), .int .u64 (limb (fP b) 2 : Int), .int .u64 (limb (fP b) 3 : Int), .int .u64 (fI b : Int), .int .u64 (limb (fO b) 0 : Int), .int .u64 (limb (fO b) 1 : Int), .int .u64 (limb (fO b) 2 : Int), .int .u64 (limb (fO b) 3 : Int), .int .u64 (limb (fS b) 0 : Int), .int .u64 (limb (fS b) 1 : Int), .int .u64 (limb (fS b) 2 : Int), .int .u64 (limb (fS b) 3 : Int)] 32)).alloc (.cells #[.int .u64 0, .int .u64 0, .int .u64 0, .int .u64 0] 30)).alloc (.cells #[.int .u64 0, .int .u64 0, .int .u64 0, .int .u64 0] 30)) = v := ⟨_, rfl⟩
  have hG9 : Below w.heap.size w v1 := by rw [← hv9]; go_grown
  have X_F : Blk v1 (w.heap.size) 32 [.int .i64 (fID b), .int .u64 (limb (fP b) 0 : Int), .int .u64 (limb (fP b) 1 : Int), .int .u64 (limb (fP b) 2 : Int), .int .u64 (limb (fP b) 3 : Int), .int .u64 (fI b : Int), .int .u64 (limb (fO b) 0 : Int), .int .u64 (limb (fO b) 1 : Int), .int .u64 (limb (fO b) 2 : Int), .int .u64 (limb (fO b) 3 : Int), .int .u64 (limb (fS b) 0 : Int), .int .u64 (limb (fS b) 1 : Int), .int .u64 (limb (fS b) 2 : Int), .int .u64 (limb (fS b) 3 : Int)] := by rw [← hv9]; exact Blk.alloc (Blk.alloc (Blk.new rfl) _) _
  have X_R : Blk v1 (w.heap.size + 1) 30 [.int .u64 0, .int .u64 0, .int .u64 0, .int .u64 0] := by rw [← hv9]; exact Blk.alloc (Blk.new (by simp)) _
  have X_S : Blk v1 (w.heap.size + 1 + 1) 30 [.int .u64 0, .int .u64 0, .int .u64 0, .int .u64 0] := by rw [← hv9]; exact Blk.new (by simp)
  obtain ⟨bF, hb9⟩ : ∃ k, w.heap.size = k := ⟨_, rfl⟩
  rw [hb9] at X_F
  rw [hb9] at X_R
  rw [hb9] at X_S
  have g_bF : w.heap.size ≤ bF := by rw [← hb9]; exact BW.out.size
  replace BW := hid (BW.out.trans (hG9.mono BW.out.size))
  clear hG9
  rw [hv9]
  try rw [hb9]
  clear hv9 hb9
  go_wp2
  have X_S0 : Blk v1 (bF + 1 + 1) 30 [.int .u64 (limb (frm (fP b) (dotk (fP b) (fun t => ua.getD t 0) (fun t => ub.getD t 0) 0)) 0 : Int), .int .u64 (limb (frm (fP b) (dotk (fP b) (fun t => ua.getD t 0) (fun t => ub.getD t 0) 0)) 1 : Int), .int .u64 (limb (frm (fP b) (dotk (fP b) (fun t => ua.getD t 0) (fun t => ub.getD t 0) 0)) 2 : Int), .int .u64 (limb (frm (fP b) (dotk (fP b) (fun t => ua.getD t 0) (fun t => ub.getD t 0) 0)) 3 : Int)] := blk_zero9 X_S (show frm (fP b) (dotk (fP b) (fun t => ua.getD t 0) (fun t => ub.getD t 0) 0) = 0 from frm_zero _)
  go_loopw [20] (fun ix wr => ∃ k : Nat, k ≤ n ∧ ix = .int .i64 (k : Int) ∧ Blk wr (bF) 32 [.int .i64 (fID b), .int .u64 (limb (fP b) 0 : Int), .int .u64 (limb (fP b) 1 : Int), .int .u64 (limb (fP b) 2 : Int), .int .u64 (limb (fP b) 3 : Int), .int .u64 (fI b : Int), .int .u64 (limb (fO b) 0 : Int), .int .u64 (limb (fO b) 1 : Int), .int .u64 (limb (fO b) 2 : Int), .int .u64 (limb (fO b) 3 : Int), .int .u64 (limb (fS b) 0 : Int), .int .u64 (limb (fS b) 1 : Int), .int .u64 (limb (fS b) 2 : Int), .int .u64 (limb (fS b) 3 : Int)] ∧ Blk wr (bF + 1) 30 [.int .u64 0, .int .u64 0, .int .u64 0, .int .u64 0] ∧ Blk wr (bF + 1 + 1) 30 [.int .u64 (limb (frm (fP b) (dotk (fP b) (fun t => ua.getD t 0) (fun t => ub.getD t 0) k)) 0 : Int), .int .u64 (limb (frm (fP b) (dotk (fP b) (fun t => ua.getD t 0) (fun t => ub.getD t 0) k)) 1 : Int), .int .u64 (limb (frm (fP b) (dotk (fP b) (fun t => ua.getD t 0) (fun t => ub.getD t 0) k)) 2 : Int), .int .u64 (limb (frm (fP b) (dotk (fP b) (fun t => ua.getD t 0) (fun t => ub.getD t 0) k)) 3 : Int)] ∧ Below w.heap.size w wr) (fun ix _ => n - (intOf ix).toNat)
  case atStart => exact ⟨0, Nat.zero_le _, rfl, X_F, X_R, X_S0, BW.out⟩
  case round =>
    clear X_F X_R X_S BW
    obtain ⟨k, hk_k, rfl, X_F, X_R, X_S, b9⟩ := hrel
    obtain ⟨v2, hv9⟩ : ∃ v, v = wr := ⟨_, rfl⟩
    subst hv9
    have BW := hid b9
    clear b9
    by_cases hlt : k < n
    · skip
      obtain ⟨x, hx⟩ : ∃ x, ua[k]? = some x := ⟨ua[k]'(by rw [HN.out]; exact hlt), List.getElem?_eq_getElem _⟩
      obtain ⟨y, hy⟩ : ∃ y, ub[k]? = some y := ⟨ub[k]'(by rw [← HE.out]; exact hlt), List.getElem?_eq_getElem _⟩
      obtain ⟨ga, oa, rfl, za, d0, d1, d2, d3⟩ := (HS.out.below BW.out).at4 (k := k) (y := frm (fP b) x) (by rw [List.getElem?_map, hx]; rfl)
      obtain ⟨gb, ob, rfl, zb, q0, q1, q2, q3⟩ := (HU.out.below BW.out).at4 (k := k) (y := frm (fP b) y) (by rw [List.getElem?_map, hy]; rfl)
      have hk0 : (0 : Int) ≤ (k : Int) := by omega
      have hkn : (k : Int) < (n : Int) := by omega
      have M1 := hid (fun W : World => mmul_any (fID b) (fP b) (fI b) (fO b) (fS b) (frm (fP b) x) (frm (fP b) y) (fOK b) (Nat.lt_trans (frm_lt _ (by omega)) (fP_lt b)) (Nat.lt_trans (frm_lt _ (by omega)) (fP_lt b)) (Nat.mul_lt_mul_of_lt_of_lt (Nat.lt_trans (frm_lt _ (by omega)) (fP_lt b)) (frm_lt _ (by omega))) W)
      rw [frm_mulm (fP_inv b)] at M1
      have M2 := hid (fun W : World => madd_any (fID b) (fP b) (fI b) (fO b) (fS b) (frm (fP b) (dotk (fP b) (fun t => ua.getD t 0) (fun t => ub.getD t 0) k)) (frm (fP b) (mulm (fP b) x y)) (fP_lt b) (frm_lt _ (by omega)) (frm_lt _ (by omega)) W)
      rw [frm_addm] at M2
      have ED : addm (fP b) (dotk (fP b) (fun t => ua.getD t 0) (fun t => ub.getD t 0) k) (mulm (fP b) x y) = dotk (fP b) (fun t => ua.getD t 0) (fun t => ub.getD t 0) (k + 1) := by show _ = addm _ _ (mulm _ (ua.getD k 0) (ub.getD k 0)); rw [getD_some hx, getD_some hy]
      rw [ED] at M2
      clear ED hx hy
      obtain ⟨xf, hxf⟩ : ∃ z, frm (fP b) x = z := ⟨_, rfl⟩
      obtain ⟨yf, hyf⟩ : ∃ z, frm (fP b) y = z := ⟨_, rfl⟩
      obtain ⟨mf, hmf⟩ : ∃ z, frm (fP b) (mulm (fP b) x y) = z := ⟨_, rfl⟩
      rw [hxf, hyf, hmf] at M1
      rw [hmf] at M2
      rw [hxf] at d0 d1 d2 d3
      rw [hyf] at q0 q1 q2 q3
      clear hxf hyf hmf
      obtain ⟨dk, hdk⟩ : ∃ z, frm (fP b) (dotk (fP b) (fun t => ua.getD t 0) (fun t => ub.getD t 0) k) = z := ⟨_, rfl⟩
      rw [hdk] at M2 X_S
      clear hdk
      obtain ⟨dn, hdn⟩ : ∃ z, frm (fP b) (dotk (fP b) (fun t => ua.getD t 0) (fun t => ub.getD t 0) (k + 1)) = z := ⟨_, rfl⟩
      rw [hdn] at M2
      have HDN := hid hdn
      clear hdn
      have z_F := X_F.lt
      have c_F0 := X_F.cell (i := 0) rfl
      have c_F1 := X_F.cell (i := 1) rfl
      have c_F2 := X_F.cell (i := 2) rfl
      have c_F3 := X_F.cell (i := 3) rfl
      have c_F4 := X_F.cell (i := 4) rfl
      have c_F5 := X_F.cell (i := 5) rfl
      have c_F6 := X_F.cell (i := 6) rfl
      have c_F7 := X_F.cell (i := 7) rfl
      have c_F8 := X_F.cell (i := 8) rfl
      have c_F9 := X_F.cell (i := 9) rfl
      have c_F10 := X_F.cell (i := 10) rfl
      have c_F11 := X_F.cell (i := 11) rfl
      have c_F12 := X_F.cell (i := 12) rfl
      have c_F13 := X_F.cell (i := 13) rfl
      have z_S := X_S.lt
      have c_S0 := X_S.cell (i := 0) rfl
      have c_S1 := X_S.cell (i := 1) rfl
      have c_S2 := X_S.cell (i := 2) rfl
      have c_S3 := X_S.cell (i := 3) rfl
      go_wp2_with (go_at_call 39; refine (note_nil _ _ _ _).mono ?_; rintro e w' ⟨rfl, rfl⟩)
      refine wp_region_soft (C := fun W' => Below v2.heap.size v2 W') 13 (by kernel_rfl) (by kernel_rfl) ((Below.refl _ _).drew) ?_
      simp only [List.take_succ_cons, List.take_zero, List.drop_succ_cons, List.drop_zero]
      refine wpQuiet_step (fun K hK => ?_)
      rw [if_pos (by rfl)]
      refine ⟨FV b, fun W' hW => ?_, hK _ ?_⟩
      · have e_0 := (hW.cell (p := ⟨bF, 0, none⟩) z_F).trans c_F0
        have e_1 := (hW.cell (p := ⟨bF, 1, none⟩) z_F).trans c_F1
        have e_2 := (hW.cell (p := ⟨bF, 2, none⟩) z_F).trans c_F2
        have e_3 := (hW.cell (p := ⟨bF, 3, none⟩) z_F).trans c_F3
        have e_4 := (hW.cell (p := ⟨bF, 4, none⟩) z_F).trans c_F4
        have e_5 := (hW.cell (p := ⟨bF, 5, none⟩) z_F).trans c_F5
        have e_6 := (hW.cell (p := ⟨bF, 6, none⟩) z_F).trans c_F6
        have e_7 := (hW.cell (p := ⟨bF, 7, none⟩) z_F).trans c_F7
        have e_8 := (hW.cell (p := ⟨bF, 8, none⟩) z_F).trans c_F8
        have e_9 := (hW.cell (p := ⟨bF, 9, none⟩) z_F).trans c_F9
        have e_10 := (hW.cell (p := ⟨bF, 10, none⟩) z_F).trans c_F10
        have e_11 := (hW.cell (p := ⟨bF, 11, none⟩) z_F).trans c_F11
        have e_12 := (hW.cell (p := ⟨bF, 12, none⟩) z_F).trans c_F12
        have e_13 := (hW.cell (p := ⟨bF, 13, none⟩) z_F).trans c_F13
        go_simp
      clear hK K
      simp only [Act.put, List.setIfInBounds_toArray, List.set_cons_zero, List.set_cons_succ]
      refine wpQuiet_step (fun K hK => ?_)
      rw [if_pos (by rfl)]
      refine ⟨vec dk, fun W' hW => ?_, hK _ ?_⟩
      · have e_0 := (hW.cell (p := ⟨bF + 1 + 1, 0, none⟩) z_S).trans c_S0
        have e_1 := (hW.cell (p := ⟨bF + 1 + 1, 1, none⟩) z_S).trans c_S1
        have e_2 := (hW.cell (p := ⟨bF + 1 + 1, 2, none⟩) z_S).trans c_S2
        have e_3 := (hW.cell (p := ⟨bF + 1 + 1, 3, none⟩) z_S).trans c_S3
        go_simp
      clear hK K
      simp only [Act.put, List.setIfInBounds_toArray, List.set_cons_zero, List.set_cons_succ]
      refine wpQuiet_step (fun K hK => ?_)
      rw [if_pos (by rfl)]
      refine ⟨FV b, fun W' hW => ?_, hK _ ?_⟩
      · have e_0 := (hW.cell (p := ⟨bF, 0, none⟩) z_F).trans c_F0
        have e_1 := (hW.cell (p := ⟨bF, 1, none⟩) z_F).trans c_F1
        have e_2 := (hW.cell (p := ⟨bF, 2, none⟩) z_F).trans c_F2
        have e_3 := (hW.cell (p := ⟨bF, 3, none⟩) z_F).trans c_F3
        have e_4 := (hW.cell (p := ⟨bF, 4, none⟩) z_F).trans c_F4
        have e_5 := (hW.cell (p := ⟨bF, 5, none⟩) z_F).trans c_F5
        have e_6 := (hW.cell (p := ⟨bF, 6, none⟩) z_F).trans c_F6
        have e_7 := (hW.cell (p := ⟨bF, 7, none⟩) z_F).trans c_F7
        have e_8 := (hW.cell (p := ⟨bF, 8, none⟩) z_F).trans c_F8
        have e_9 := (hW.cell (p := ⟨bF, 9, none⟩) z_F).trans c_F9
        have e_10 := (hW.cell (p := ⟨bF, 10, none⟩) z_F).trans c_F10
        have e_11 := (hW.cell (p := ⟨bF, 11, none⟩) z_F).trans c_F11
        have e_12 := (hW.cell (p := ⟨bF, 12, none⟩) z_F).trans c_F12
        have e_13 := (hW.cell (p := ⟨bF, 13, none⟩) z_F).trans c_F13
        go_simp
      clear hK K
      simp only [Act.put, List.setIfInBounds_toArray, List.set_cons_zero, List.set_cons_succ]
      refine wpQuiet_step (fun K hK => ?_)
      rw [if_pos (by rfl)]
      refine ⟨.slice (some ⟨ga, oa, none⟩) n cap, fun W' hW => ?_, hK _ ?_⟩
      · go_simp
      clear hK K
      simp only [Act.put, List.setIfInBounds_toArray, List.set_cons_zero, List.set_cons_succ]
      refine wpQuiet_step (fun K hK => ?_)
      rw [if_pos (by rfl)]
      refine ⟨.int .i64 (k : Int), fun W' hW => ?_, hK _ ?_⟩
      · go_simp
      clear hK K
      simp only [Act.put, List.setIfInBounds_toArray, List.set_cons_zero, List.set_cons_succ]
      refine wpQuiet_step (fun K hK => ?_)
      rw [if_pos (by rfl)]
      refine ⟨.pointer (some ⟨ga, oa + k * 4, none⟩), fun W' hW => ?_, hK _ ?_⟩
      · go_simp
      clear hK K
      simp only [Act.put, List.setIfInBounds_toArray, List.set_cons_zero, List.set_cons_succ]
      refine wpQuiet_step (fun K hK => ?_)
      rw [if_pos (by rfl)]
      refine ⟨vec xf, fun W' hW => ?_, hK _ ?_⟩
      · have e_0 := (hW.cell (p := ⟨ga, oa + k * 4, none⟩) za).trans d0
        have e_1 := (hW.cell (p := ⟨ga, oa + k * 4 + 1, none⟩) za).trans d1
        have e_2 := (hW.cell (p := ⟨ga, oa + k * 4 + 2, none⟩) za).trans d2
        have e_3 := (hW.cell (p := ⟨ga, oa + k * 4 + 3, none⟩) za).trans d3
        go_simp
      clear hK K
      simp only [Act.put, List.setIfInBounds_toArray, List.set_cons_zero, List.set_cons_succ]
      refine wpQuiet_step (fun K hK => ?_)
      rw [if_pos (by rfl)]
      refine ⟨.slice (some ⟨gb, ob, none⟩) n cap2, fun W' hW => ?_, hK _ ?_⟩
      · go_simp
      clear hK K
      simp only [Act.put, List.setIfInBounds_toArray, List.set_cons_zero, List.set_cons_succ]
      refine wpQuiet_step (fun K hK => ?_)
      rw [if_pos (by rfl)]
      refine ⟨.int .i64 (k : Int), fun W' hW => ?_, hK _ ?_⟩
      · go_simp
      clear hK K
      simp only [Act.put, List.setIfInBounds_toArray, List.set_cons_zero, List.set_cons_succ]
      refine wpQuiet_step (fun K hK => ?_)
      rw [if_pos (by rfl)]
      refine ⟨.pointer (some ⟨gb, ob + k * 4, none⟩), fun W' hW => ?_, hK _ ?_⟩
      · go_simp
      clear hK K
      simp only [Act.put, List.setIfInBounds_toArray, List.set_cons_zero, List.set_cons_succ]
      refine wpQuiet_step (fun K hK => ?_)
      rw [if_pos (by rfl)]
      refine ⟨vec yf, fun W' hW => ?_, hK _ ?_⟩
      · have e_0 := (hW.cell (p := ⟨gb, ob + k * 4, none⟩) zb).trans q0
        have e_1 := (hW.cell (p := ⟨gb, ob + k * 4 + 1, none⟩) zb).trans q1
        have e_2 := (hW.cell (p := ⟨gb, ob + k * 4 + 2, none⟩) zb).trans q2
        have e_3 := (hW.cell (p := ⟨gb, ob + k * 4 + 3, none⟩) zb).trans q3
        go_simp
      clear hK K
      simp only [Act.put, List.setIfInBounds_toArray, List.set_cons_zero, List.set_cons_succ]
      refine wpQuiet_step (fun K hK => ?_)
      rw [if_pos (by rfl)]
      refine ⟨vec mf, fun W' hW => ?_, hK _ ?_⟩
      · go_simp
        refine (M1.out _).mono ?_
        rintro e w' ⟨rfl, b⟩
        exact ⟨rfl, hW.trans (b.mono hW.size)⟩
      clear hK K
      simp only [Act.put, List.setIfInBounds_toArray, List.set_cons_zero, List.set_cons_succ]
      refine wpQuiet_step (fun K hK => ?_)
      rw [if_pos (by rfl)]
      refine ⟨vec dn, fun W' hW => ?_, hK _ ?_⟩
      · go_simp
        refine (M2.out _).mono ?_
        rintro e w' ⟨rfl, b⟩
        exact ⟨rfl, hW.trans (b.mono hW.size)⟩
      clear hK K
      simp only [Act.put, List.setIfInBounds_toArray, List.set_cons_zero, List.set_cons_succ]
      refine wpQuiet_nil ?_
      intro ws0 hW9
      clear z_F c_F0 c_F1 c_F2 c_F3 c_F4 c_F5 c_F6 c_F7 c_F8 c_F9 c_F10 c_F11 c_F12 c_F13 z_S c_S0 c_S1 c_S2 c_S3
      replace X_F := X_F.keep hW9
      replace X_R := X_R.keep hW9
      replace X_S := X_S.keep hW9
      replace BW := hid (BW.out.trans (hW9.mono BW.out.size))
      clear hW9
      have z_S := X_S.lt
      have c_S0 := X_S.cell (i := 0) rfl
      have f_S0 := X_S.frozen 0
      have c_S1 := X_S.cell (i := 1) rfl
      have f_S1 := X_S.frozen 1
      have c_S2 := X_S.cell (i := 2) rfl
      have f_S2 := X_S.frozen 2
      have c_S3 := X_S.cell (i := 3) rfl
      have f_S3 := X_S.frozen 3
      go_wp2
      obtain ⟨v3, hs9⟩ : ∃ q, ((((ws0.setCell ⟨bF + 1 + 1, 0, none⟩ (.int .u64 (limb dn 0 : Int))).setCell ⟨bF + 1 + 1, 1, none⟩ (.int .u64 (limb dn 1 : Int))).setCell ⟨bF + 1 + 1, 2, none⟩ (.int .u64 (limb dn 2 : Int))).setCell ⟨bF + 1 + 1, 3, none⟩ (.int .u64 (limb dn 3 : Int))) = q := ⟨_, rfl⟩
      have O9 : Only (fun k => k = bF + 1 + 1) ws0 v3 := by rw [← hs9]; exact only_set4 _ _ _ _ _ _
      have S9 : Blk v3 (bF + 1 + 1) 30 [.int .u64 (limb dn 0 : Int), .int .u64 (limb dn 1 : Int), .int .u64 (limb dn 2 : Int), .int .u64 (limb dn 3 : Int)] := by rw [← hs9]; exact X_S.set4 (.int .u64 (limb dn 0 : Int)) (.int .u64 (limb dn 1 : Int)) (.int .u64 (limb dn 2 : Int)) (.int .u64 (limb dn 3 : Int))
      rw [hs9]
      clear hs9
      clear z_S c_S0 f_S0 c_S1 f_S1 c_S2 f_S2 c_S3 f_S3
      replace X_F := X_F.only O9 (show ¬ (bF = bF + 1 + 1) by omega)
      replace X_R := X_R.only O9 (show ¬ (bF + 1 = bF + 1 + 1) by omega)
      replace BW := hid (BW.out.trans (O9.below (fun k h => by cases h; omega) BW.out.size))
      replace X_S := S9
      clear O9 S9
      rw [← HDN.out] at X_S
      go_roundw
      case rel => exact ⟨k + 1, by omega, by go_num, X_F, X_R, X_S, BW.out⟩
      case measure => simp [intOf]; omega
    · skip
      obtain rfl : n = k := by omega
      clear hlt
      have z_S := X_S.lt
      have c_S0 := X_S.cell (i := 0) rfl
      have c_S1 := X_S.cell (i := 1) rfl
      have c_S2 := X_S.cell (i := 2) rfl
      have c_S3 := X_S.cell (i := 3) rfl
      have z_R := X_R.lt
      have c_R0 := X_R.cell (i := 0) rfl
      have f_R0 := X_R.frozen 0
      have c_R1 := X_R.cell (i := 1) rfl
      have f_R1 := X_R.frozen 1
      have c_R2 := X_R.cell (i := 2) rfl
      have f_R2 := X_R.frozen 2
      have c_R3 := X_R.cell (i := 3) rfl
      have f_R3 := X_R.frozen 3
      have hBW := BW.out
      have zBW := hBW.size
      go_wp2
      refine bodyPost_ret (by simp only [results, Tryd.results21]; go_simp; try rfl) rfl ?_
      exact ⟨rfl, by go_grown⟩
end Go.Proofs.YthdjjogdjabflaaDoor
