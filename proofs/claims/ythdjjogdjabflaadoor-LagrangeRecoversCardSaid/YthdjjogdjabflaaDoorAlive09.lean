/-
  The examples of chapter 9 hold.
-/
import Derived.Test.YthdjjogdjabflaaDoorItp9
import Derived.Test.YthdjjogdjabflaaDoorGet09
import Derived.Test.YthdjjogdjabflaaDoorPrime
import Derived.Deep.RegionHeld3
namespace Go.Proofs.YthdjjogdjabflaaDoor
open Go.RowKit

attribute [local go_sem] Oper.semAt_some
theorem blk_ints {w : World} {b : Nat} {t : TypeId} {xs : List Int} (h : Blk w b t (xs.map fun x => .int .i64 x)) : IntSl w (.slice (some ⟨b, 0, none⟩) xs.length xs.length) xs :=
  ⟨_, _, rfl, .inr ⟨b, 0, rfl, fun j x hj => by rw [Nat.zero_add]; exact h.cell (by rw [List.getElem?_map, hj]; rfl)⟩⟩
theorem zcs_12 (b : Bool) : zcs (fP b) (pts [1, 2]) = [2, subm (fP b) 0 1] := by
  obtain ⟨h0, h1⟩ := zco_12 (fer_b b) (fP_two b)
  show [zco (fP b) [1, 2] 0, zco (fP b) [1, 2] 1] = _
  rw [h0, h1]
theorem big9 (b : Bool) : 255 < fP b := by cases b <;> decide
theorem itp_12 (b : Bool) : itp (fP b) (pts [1, 2]) [5, 7] 2 = [3, 2] := by
  have hb := big9 b
  refine itp_poly (fer_b b) (fP_two b) (xs := [1, 2]) (ys := [5, 7]) (c := [3, 2]) ?_ (by simp) ?_ (by simp) ?_
  · intro x hx; rcases List.mem_cons.1 hx with h | h
    · omega
    · rw [List.mem_singleton.1 h]; omega
  · intro x hx; rcases List.mem_cons.1 hx with h | h
    · omega
    · rw [List.mem_singleton.1 h]; omega
  · intro j hj
    match j, hj with
    | 0, _ => show 5 = evm (fP b) 1 [3, 2]; rw [evm_eq]; exact (Nat.mod_eq_of_lt (a := 5) (by omega)).symm
    | 1, _ => show 7 = evm (fP b) 2 [3, 2]; rw [evm_eq]; exact (Nat.mod_eq_of_lt (a := 7) (by omega)).symm
theorem vals_57 (b : Bool) : [5, 7].map (mulm (fP b) 1) = [5, 7] := by
  have hb := big9 b
  show [mulm (fP b) 1 5, mulm (fP b) 1 7] = _
  rw [mulm_one' (by omega), mulm_one' (by omega)]
theorem chk_12 : chkx [1, 2] = 0 := (chkx_nodup (xs := [1, 2]) (by intro x hx; rcases List.mem_cons.1 hx with h | h; omega; rw [List.mem_singleton.1 h]; omega)).1 (by simp)
theorem chk_0 : chkx [0] = 12 := chkx_bad (i := 0) (x := 0) rfl (by omega)
theorem nums57 : nums [5, 7] = [.int .u64 5, .int .u64 0, .int .u64 0, .int .u64 0, .int .u64 7, .int .u64 0, .int .u64 0, .int .u64 0] := by simp [nums, limbs_small]
theorem nums32 : nums [3, 2] = [.int .u64 3, .int .u64 0, .int .u64 0, .int .u64 0, .int .u64 2, .int .u64 0, .int .u64 0, .int .u64 0] := by simp [nums, limbs_small]
theorem nums2z (z : Nat) : nums [2, z] = [.int .u64 2, .int .u64 0, .int .u64 0, .int .u64 0] ++ limbs z := by simp [nums, limbs_small]
set_option maxRecDepth 100000 in
set_option maxHeartbeats 4000000 in
theorem alive9_any (w : World) (hT : Tab w) :
    Calls Tryd.prog 9 #[] w (Ret (.bool true) w) := by
  have BW := hid (Below.refl w.heap.size w)
  have T := hid hT
  clear hT
  obtain ⟨b, GC⟩ : ∃ b, Hid (∀ W : World, Tab W → Calls Tryd.prog 12 #[.bool false] W (Ret (.tuple #[FV b, vec (fP b)]) W)) := ⟨false, hid (fun W h => get9_any false W h)⟩
  have hp2 := fP_two b
  have hpb := fP_lt b
  have h255 := big9 b
  have ZC := hid (fun (W : World) (v : Value) (h : IntSl W v [1, 2]) => zero_ok b v [1, 2] W h (by simp) chk_12)
  unfold RetE at ZC
  rw [zcs_12] at ZC
  have VC := hid (fun (W : World) (v : Value) (h : NumSl W v [5, 7]) => values_any (fP b) v [5, 7] W hpb (by omega) h (by simp))
  unfold RetVals at VC
  rw [vals_57] at VC
  have IC := hid (fun (W : World) (v u : Value) (h : IntSl W v [1, 2]) (h2 : NumSl W u ([5, 7].map (frm (fP b)))) => itp_ok b v u [1, 2] [5, 7] W h h2 (by simp) chk_12 rfl)
  unfold RetE at IC
  rw [show itp (fP b) (pts [1, 2]) [5, 7] ([1, 2] : List Int).length = [3, 2] from itp_12 b] at IC
  have CC := hid (fun (W : World) (v : Value) (h : IntSl W v [0]) => lcheck_any v [0] W h (by simp))
  rw [chk_0] at CC
  have SC := hid (fun W : World => rsubm_any (fP b) 0 1 hpb (by omega) (by omega) W)
  rw [← vec_zero, ← vec_one] at SC
  have S1 := hid (fun (W : World) (v1 v2 : Value) (h1 : NumSl W v1 ([2, subm (fP b) 0 1].map (frm (fP b)))) (h2 : NumSl W v2 [2, subm (fP b) 0 1]) => same9_any (fP b) v1 v2 _ W hpb (by omega) h1 h2 (by simp))
  have S2 := hid (fun (W : World) (v1 v2 : Value) (h1 : NumSl W v1 ([3, 2].map (frm (fP b)))) (h2 : NumSl W v2 [3, 2]) => same9_any (fP b) v1 v2 _ W hpb (by omega) h1 h2 (by simp))
  have HB2 : Hid (∀ y ∈ [2, subm (fP b) 0 1], y < B256) := hid (small9 (b := b) (fun y hy => by rcases List.mem_cons.1 hy with h | h; omega; rw [List.mem_singleton.1 h]; exact subm_lt _ _ (by omega)))
  obtain ⟨ms, hms⟩ : ∃ z, subm (fP b) 0 1 = z := ⟨_, rfl⟩
  rw [hms] at ZC SC S1 HB2
  clear hms h255
  go_enter Tryd.func9, Tryd.ntmps9
  go_wp2_with fail
  refine (GC.out _ T.out).mono ?_
  rintro e v1 ⟨rfl, b9⟩
  replace T := hid (T.out.keep b9)
  replace BW := hid (BW.out.trans (b9.mono BW.out.size))
  clear b9
  go_wp2_with fail
  obtain ⟨v2, hv9⟩ : ∃ v, (((v1.alloc (.cells #[.int .i64 (fID b), .int .u64 (limb (fP b) 0 : Int), .int .u64 (limb (fP b) 1 : Int), .int .u64 (limb (fP b) 2 : Int), .int .u64 (limb (fP b) 3 : Int), .int .u64 (fI b : Int), .int .u64 (limb (fO b) 0 : Int), .int .u64 (limb (fO b) 1 : Int), .int .u64 (limb (fO b) 2 : Int), .int .u64 (limb (fO b) 3 : Int), .int .u64 (limb (fS b) 0 : Int), .int .u64 (limb (fS b) 1 : Int), .int .u64 (limb (fS b) 2 : Int), .int .u64 (limb (fS b) 3 : Int)] 32)).alloc (.cells #[.int .u64 (limb (fP b) 0 : Int), .int .u64 (limb (fP b) 1 : Int), .int .u64 (limb (fP b) 2 : Int), .int .u64 (limb (fP b) 3 : Int)] 29)).alloc (.cells #[.int .i64 1, .int .i64 2] 3)) = v := ⟨_, rfl⟩
  have hG9 : Below v1.heap.size v1 v2 := by rw [← hv9]; go_grown
  have X_F : Blk v2 (v1.heap.size) 32 [.int .i64 (fID b), .int .u64 (limb (fP b) 0 : Int), .int .u64 (limb (fP b) 1 : Int), .int .u64 (limb (fP b) 2 : Int), .int .u64 (limb (fP b) 3 : Int), .int .u64 (fI b : Int), .int .u64 (limb (fO b) 0 : Int), .int .u64 (limb (fO b) 1 : Int), .int .u64 (limb (fO b) 2 : Int), .int .u64 (limb (fO b) 3 : Int), .int .u64 (limb (fS b) 0 : Int), .int .u64 (limb (fS b) 1 : Int), .int .u64 (limb (fS b) 2 : Int), .int .u64 (limb (fS b) 3 : Int)] := by rw [← hv9]; exact Blk.alloc (Blk.alloc (Blk.new rfl) _) _
  have X_P : Blk v2 (v1.heap.size + 1) 29 [.int .u64 (limb (fP b) 0 : Int), .int .u64 (limb (fP b) 1 : Int), .int .u64 (limb (fP b) 2 : Int), .int .u64 (limb (fP b) 3 : Int)] := by rw [← hv9]; exact Blk.alloc (Blk.new (by simp)) _
  have X_I : Blk v2 (v1.heap.size + 1 + 1) 3 [.int .i64 1, .int .i64 2] := by rw [← hv9]; exact Blk.new (by simp)
  obtain ⟨bF, hb9⟩ : ∃ k, v1.heap.size = k := ⟨_, rfl⟩
  rw [hb9] at X_F
  rw [hb9] at X_P
  rw [hb9] at X_I
  have g_bF : w.heap.size ≤ bF := by rw [← hb9]; exact BW.out.size
  replace T := hid (T.out.keep hG9)
  replace BW := hid (BW.out.trans (hG9.mono BW.out.size))
  clear hG9
  rw [hv9]
  try rw [hb9]
  clear hv9 hb9
  refine (ZC.out _ _ (blk_ints (xs := [1, 2]) X_I)).mono ?_
  rintro e v3 ⟨vz, rfl, ho, b9⟩
  clear X_I
  obtain ⟨az, cz, rfl, _, _, _⟩ := owns_form ho
  have N_z := hid (nums_own (xs := [2, ms].map (frm (fP b))) ho (small9 (forms9 b _)))
  clear ho
  replace X_F := X_F.keep b9
  replace X_P := X_P.keep b9
  replace T := hid (T.out.keep b9)
  replace BW := hid (BW.out.trans (b9.mono BW.out.size))
  clear b9
  have z_P := X_P.lt
  have c_P0 := X_P.cell (i := 0) rfl
  have c_P1 := X_P.cell (i := 1) rfl
  have c_P2 := X_P.cell (i := 2) rfl
  have c_P3 := X_P.cell (i := 3) rfl
  go_wp2_with fail
  obtain ⟨v4, hv9⟩ : ∃ v, (v3.alloc (.cells #[.int .u64 5, .int .u64 0, .int .u64 0, .int .u64 0, .int .u64 7, .int .u64 0, .int .u64 0, .int .u64 0] 29)) = v := ⟨_, rfl⟩
  have hG9 : Below v3.heap.size v3 v4 := by rw [← hv9]; go_grown
  have X_L : Blk v4 (v3.heap.size) 29 [.int .u64 5, .int .u64 0, .int .u64 0, .int .u64 0, .int .u64 7, .int .u64 0, .int .u64 0, .int .u64 0] := by rw [← hv9]; exact Blk.new rfl
  obtain ⟨bL, hb9⟩ : ∃ k, v3.heap.size = k := ⟨_, rfl⟩
  rw [hb9] at X_L
  have g_bL : w.heap.size ≤ bL := by rw [← hb9]; exact BW.out.size
  have q_F_bL : bF < bL := by rw [← hb9]; exact X_F.lt
  have q_P_bL : bF + 1 < bL := by rw [← hb9]; exact X_P.lt
  clear z_P c_P0 c_P1 c_P2 c_P3
  replace X_F := X_F.keep hG9
  replace X_P := X_P.keep hG9
  replace N_z := hid (N_z.out.below hG9)
  replace T := hid (T.out.keep hG9)
  replace BW := hid (BW.out.trans (hG9.mono BW.out.size))
  clear hG9
  rw [hv9]
  try rw [hb9]
  clear hv9 hb9
  refine (VC.out _ _ (blk_nums (xs := [5, 7]) (by rw [nums57]; exact X_L) (by intro y hy; rcases List.mem_cons.1 hy with h | h; rw [h]; decide; rw [List.mem_singleton.1 h]; decide))).mono ?_
  rintro e v5 ⟨vv, vx, rfl, ho, ho2, b9⟩
  clear X_L
  obtain ⟨ay, cy, rfl, _, _, _⟩ := owns_form ho2
  have N_y := hid (nums_own (xs := [5, 7].map (frm (fP b))) ho2 (small9 (forms9 b _)))
  clear ho ho2
  replace X_F := X_F.keep b9
  replace X_P := X_P.keep b9
  replace N_z := hid (N_z.out.below b9)
  replace T := hid (T.out.keep b9)
  replace BW := hid (BW.out.trans (b9.mono BW.out.size))
  clear b9
  have z_F := X_F.lt
  have c_F0 := X_F.cell (i := 0) rfl
  have c_F1 := X_F.cell (i := 1) rfl
  have c_F2 := X_F.cell (i := 2) rfl
  have c_F3 := X_F.cell (i := 3) rfl
  have c_F4 := X_F.cell (i := 4) rfl
  have c_F5 := X_F.cell (i := 5) rfl
  have c_F6 := X_F.cell (i := 6) rfl
  have c_F7 := X_F.cell (i := 7) rfl
  have c_F8 := X_F.cell (i := 8) rfl
  have c_F9 := X_F.cell (i := 9) rfl
  have c_F10 := X_F.cell (i := 10) rfl
  have c_F11 := X_F.cell (i := 11) rfl
  have c_F12 := X_F.cell (i := 12) rfl
  have c_F13 := X_F.cell (i := 13) rfl
  go_wp2_with fail
  obtain ⟨v6, hv9⟩ : ∃ v, (v5.alloc (.cells #[.int .i64 1, .int .i64 2] 3)) = v := ⟨_, rfl⟩
  have hG9 : Below v5.heap.size v5 v6 := by rw [← hv9]; go_grown
  have X_J : Blk v6 (v5.heap.size) 3 [.int .i64 1, .int .i64 2] := by rw [← hv9]; exact Blk.new rfl
  obtain ⟨bJ, hb9⟩ : ∃ k, v5.heap.size = k := ⟨_, rfl⟩
  rw [hb9] at X_J
  have g_bJ : w.heap.size ≤ bJ := by rw [← hb9]; exact BW.out.size
  have q_F_bJ : bF < bJ := by rw [← hb9]; exact X_F.lt
  have q_P_bJ : bF + 1 < bJ := by rw [← hb9]; exact X_P.lt
  clear z_F c_F0 c_F1 c_F2 c_F3 c_F4 c_F5 c_F6 c_F7 c_F8 c_F9 c_F10 c_F11 c_F12 c_F13
  replace X_F := X_F.keep hG9
  replace X_P := X_P.keep hG9
  replace N_z := hid (N_z.out.below hG9)
  replace N_y := hid (N_y.out.below hG9)
  replace T := hid (T.out.keep hG9)
  replace BW := hid (BW.out.trans (hG9.mono BW.out.size))
  clear hG9
  rw [hv9]
  try rw [hb9]
  clear hv9 hb9
  refine (IC.out _ _ _ (blk_ints (xs := [1, 2]) X_J) N_y.out).mono ?_
  rintro e v7 ⟨vc, rfl, ho, b9⟩
  clear X_J
  obtain ⟨ac, cc, rfl, _, _, _⟩ := owns_form ho
  have N_c := hid (nums_own (xs := [3, 2].map (frm (fP b))) ho (small9 (forms9 b _)))
  clear ho N_y
  replace X_F := X_F.keep b9
  replace X_P := X_P.keep b9
  replace N_z := hid (N_z.out.below b9)
  replace T := hid (T.out.keep b9)
  replace BW := hid (BW.out.trans (b9.mono BW.out.size))
  clear b9
  have z_P := X_P.lt
  have c_P0 := X_P.cell (i := 0) rfl
  have c_P1 := X_P.cell (i := 1) rfl
  have c_P2 := X_P.cell (i := 2) rfl
  have c_P3 := X_P.cell (i := 3) rfl
  go_upto_region 5 with (fail)
  go_region_held3 (fun w' => ∀ b o, b < v7.heap.size → w'.cell? ⟨b, o, none⟩ = v7.cell? ⟨b, o, none⟩) ((intro b o h; first | with_reducible exact c4 b o h | with_reducible exact c3 b o h | with_reducible exact c2 b o h | with_reducible exact c1 b o h | with_reducible exact cell_drew | with_reducible exact cell_drew.trans (cell_alloc h) | (with_reducible refine (cell_alloc (by (try simp); omega)).trans ?_; first | with_reducible exact c4 b o h | with_reducible exact c3 b o h | with_reducible exact c2 b o h | with_reducible exact c1 b o h | with_reducible exact cell_drew) | with_reducible exact (below_set4 H4.out (by omega) _ _ _ _).cell (p := ⟨b, o, none⟩) h | with_reducible exact (below_set4 H3.out (by omega) _ _ _ _).cell (p := ⟨b, o, none⟩) h | with_reducible exact (below_set4 H2.out (by omega) _ _ _ _).cell (p := ⟨b, o, none⟩) h | with_reducible exact (below_set4 H1.out (by omega) _ _ _ _).cell (p := ⟨b, o, none⟩) h)) (first | (go_at_call 10; refine (CC.out _ _ (blk_ints (xs := [0]) (t := 3) (by exact Blk.new rfl))).mono ?_; rintro e ra4 ⟨rfl, b9⟩; have H4 : Hid (Below v7.heap.size v7 ra4) := hid (by first | exact H3.out.trans (b9.mono H3.out.size) | exact (H3.out.alloc H3.out.size _).trans (b9.mono (by have := H3.out.size; simp; omega))); clear b9; have c4 := bcell H4.out; have z4 := H4.out.size) | (go_at_call 15; refine (S2.out _ _ _ (N_c.out.below (H2.out.alloc H2.out.size _)) (blk_nums (xs := [3, 2]) (t := 29) (by rw [nums32]; exact Blk.new rfl) (by intro y hy; rcases List.mem_cons.1 hy with h | h; rw [h]; decide; rw [List.mem_singleton.1 h]; decide))).mono ?_; rintro e ra3 ⟨rfl, b9⟩; have H3 : Hid (Below v7.heap.size v7 ra3) := hid (by first | exact H2.out.trans (b9.mono H2.out.size) | exact (H2.out.alloc H2.out.size _).trans (b9.mono (by have := H2.out.size; simp; omega))); clear b9; have c3 := bcell H3.out; have z3 := H3.out.size) | (go_at_call 15; refine (S1.out _ _ _ (N_z.out.below (H1.out.alloc H1.out.size _)) (blk_nums (t := 29) (by rw [nums2z]; exact Blk.new rfl) HB2.out)).mono ?_; rintro e ra2 ⟨rfl, b9⟩; have H2 : Hid (Below v7.heap.size v7 ra2) := hid (by first | exact H1.out.trans (b9.mono H1.out.size) | exact (H1.out.alloc H1.out.size _).trans (b9.mono (by have := H1.out.size; simp; omega))); clear b9; have c2 := bcell H2.out; have z2 := H2.out.size) | (go_at_call 34; refine (SC.out v7.drew).mono ?_; rintro e ra1 ⟨rfl, b9⟩; have H1 : Hid (Below v7.heap.size v7 ra1) := hid (Below.drew (Below.refl _ v7)).trans b9; clear b9; have c1 := bcell H1.out; have z1 := H1.out.size))
  have hH9 := H4.out
  clear z_P c_P0 c_P1 c_P2 c_P3
  replace X_F := X_F.keep hH9
  replace X_P := X_P.keep hH9
  replace N_z := hid (N_z.out.below hH9)
  replace N_c := hid (N_c.out.below hH9)
  replace T := hid (T.out.keep hH9)
  replace BW := hid (BW.out.trans (hH9.mono BW.out.size))
  clear hH9
  clear H1 c1 z1 H2 c2 z2 H3 c3 z3 H4 c4 z4
  go_wp2
  go_ret
  exact ⟨rfl, BW.out⟩
end Go.Proofs.YthdjjogdjabflaaDoor
