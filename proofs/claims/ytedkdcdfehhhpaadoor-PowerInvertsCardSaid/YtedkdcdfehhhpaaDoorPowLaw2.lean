/-
  PowerInverts: the product of a value and its inverse is 1, or the inverse is 0.
-/
import Derived.Test.YtedkdcdfehhhpaaDoorAlive06
import Derived.Deep.RegionHeld3
import Derived.Deep.DeepCutAuto
namespace Go.Proofs.YtedkdcdfehhhpaaDoor
open Go.RowKit

set_option maxRecDepth 100000 in
set_option maxHeartbeats 4000000 in
theorem inverts_law (b : Bool) (a : Nat) (w : World) (hT : Tab w) (ha : a < B256) :
    Calls Tryd.prog 4 #[.bool b, vec a] w (Ret (.bool true) w) := by
  have BW := hid (Below.refl w.heap.size w)
  have T := hid hT
  clear hT
  go_enter Tryd.func4, Tryd.ntmps4
  go_wp2_with fail
  obtain ⟨v1, hv9⟩ : ∃ v, (w.alloc (.cells #[.int .u64 (limb a 0 : Int), .int .u64 (limb a 1 : Int), .int .u64 (limb a 2 : Int), .int .u64 (limb a 3 : Int)] 23)) = v := ⟨_, rfl⟩
  have hG9 : Below w.heap.size w v1 := by rw [← hv9]; go_grown
  have X_A : Blk v1 (w.heap.size) 23 [.int .u64 (limb a 0 : Int), .int .u64 (limb a 1 : Int), .int .u64 (limb a 2 : Int), .int .u64 (limb a 3 : Int)] := by rw [← hv9]; exact Blk.new rfl
  obtain ⟨bA, hb9⟩ : ∃ k, w.heap.size = k := ⟨_, rfl⟩
  rw [hb9] at X_A
  have g_bA : w.heap.size ≤ bA := by rw [← hb9]; exact BW.out.size
  replace T := hid (T.out.keep hG9)
  replace BW := hid (BW.out.trans (hG9.mono BW.out.size))
  clear hG9
  rw [hv9]
  try rw [hb9]
  clear hv9 hb9
  refine (lget_any b _ T.out).mono ?_
  rintro e v2 ⟨rfl, b9⟩
  replace X_A := X_A.keep b9
  replace T := hid (T.out.keep b9)
  replace BW := hid (BW.out.trans (b9.mono BW.out.size))
  clear b9
  have z_A := X_A.lt
  have c_A0 := X_A.cell (i := 0) rfl
  have c_A1 := X_A.cell (i := 1) rfl
  have c_A2 := X_A.cell (i := 2) rfl
  have c_A3 := X_A.cell (i := 3) rfl
  go_wp2_with fail
  obtain ⟨v3, hv9⟩ : ∃ v, ((v2.alloc (.cells #[.int .i64 (fID b), .int .u64 (limb (fP b) 0 : Int), .int .u64 (limb (fP b) 1 : Int), .int .u64 (limb (fP b) 2 : Int), .int .u64 (limb (fP b) 3 : Int), .int .u64 (fI b : Int), .int .u64 (limb (fO b) 0 : Int), .int .u64 (limb (fO b) 1 : Int), .int .u64 (limb (fO b) 2 : Int), .int .u64 (limb (fO b) 3 : Int), .int .u64 (limb (fS b) 0 : Int), .int .u64 (limb (fS b) 1 : Int), .int .u64 (limb (fS b) 2 : Int), .int .u64 (limb (fS b) 3 : Int)] 26)).alloc (.cells #[.int .u64 (limb (fP b) 0 : Int), .int .u64 (limb (fP b) 1 : Int), .int .u64 (limb (fP b) 2 : Int), .int .u64 (limb (fP b) 3 : Int)] 23)) = v := ⟨_, rfl⟩
  have hG9 : Below v2.heap.size v2 v3 := by rw [← hv9]; go_grown
  have X_F : Blk v3 (v2.heap.size) 26 [.int .i64 (fID b), .int .u64 (limb (fP b) 0 : Int), .int .u64 (limb (fP b) 1 : Int), .int .u64 (limb (fP b) 2 : Int), .int .u64 (limb (fP b) 3 : Int), .int .u64 (fI b : Int), .int .u64 (limb (fO b) 0 : Int), .int .u64 (limb (fO b) 1 : Int), .int .u64 (limb (fO b) 2 : Int), .int .u64 (limb (fO b) 3 : Int), .int .u64 (limb (fS b) 0 : Int), .int .u64 (limb (fS b) 1 : Int), .int .u64 (limb (fS b) 2 : Int), .int .u64 (limb (fS b) 3 : Int)] := by rw [← hv9]; exact Blk.alloc (Blk.new rfl) _
  have X_P : Blk v3 (v2.heap.size + 1) 23 [.int .u64 (limb (fP b) 0 : Int), .int .u64 (limb (fP b) 1 : Int), .int .u64 (limb (fP b) 2 : Int), .int .u64 (limb (fP b) 3 : Int)] := by rw [← hv9]; exact Blk.new (by simp)
  obtain ⟨bF, hb9⟩ : ∃ k, v2.heap.size = k := ⟨_, rfl⟩
  rw [hb9] at X_F
  rw [hb9] at X_P
  have g_bF : w.heap.size ≤ bF := by rw [← hb9]; exact BW.out.size
  have q_A_bF : bA < bF := by rw [← hb9]; exact X_A.lt
  clear z_A c_A0 c_A1 c_A2 c_A3
  replace X_A := X_A.keep hG9
  replace T := hid (T.out.keep hG9)
  replace BW := hid (BW.out.trans (hG9.mono BW.out.size))
  clear hG9
  rw [hv9]
  try rw [hb9]
  clear hv9 hb9
  refine (rmod_any (fP b) a (fP_lt b) (by have := fP_two b; omega) ha _).mono ?_
  rintro e v4 ⟨rfl, b9⟩
  replace X_A := X_A.keep b9
  replace X_F := X_F.keep b9
  replace X_P := X_P.keep b9
  replace T := hid (T.out.keep b9)
  replace BW := hid (BW.out.trans (b9.mono BW.out.size))
  clear b9
  have xlt : mulm (fP b) 1 a < fP b := mulm_lt _ _ (by have := fP_two b; omega)
  obtain ⟨x, hx⟩ : ∃ x, mulm (fP b) 1 a = x := ⟨_, rfl⟩
  rw [hx] at xlt ⊢
  have HX := hid xlt
  clear xlt hx
  have FX := hid (fun (z : Nat) (hz : z < fP b) (W : World) => lform_any (fP b) z (fP_lt b) (by have := fP_two b; omega) (Nat.lt_trans hz (fP_lt b)) W)
  have PC := hid (fun (z e : Nat) (hz : z < fP b) (he : e < B256) (W : World) => pow_any (fID b) (fP b) (fI b) (fS b) z e (fOK b) hz he W)
  rw [← fO_eq b] at PC
  have IC := hid (fun (z : Nat) (hz : z < fP b) (W : World) => inverse_any (fID b) (fP b) (fI b) (fS b) z (fOK b) hz W)
  rw [← fO_eq b] at IC
  have VLC := hid (fun (z : Nat) (hz : z < fP b) (W : World) => rvalue_any (fP b) (frm (fP b) z) (fP_lt b) (fP_odd b) (fP_inv b) (frm_lt z (by have := fP_two b; omega)) W)
  have HY := hid (invm_lt (p := fP b) x (by have := fP_two b; omega))
  have F1 := hid (FX.out x HX.out)
  have I1c := hid (IC.out x HX.out)
  have V1 := hid (VLC.out (invm (fP b) x) HY.out)
  rw [valm_frm (fP_inv b) HY.out] at V1
  have F2 := hid (FX.out (invm (fP b) x) HY.out)
  have I2c := hid (IC.out (invm (fP b) x) HY.out)
  have RC := hid (fun W : World => rmul_any (fP b) x (invm (fP b) x) (fP_lt b) HX.out (Nat.lt_trans HY.out (fP_lt b)) W)
  have HP1 := hid (fun h : x ≠ 0 => inv_left (fer_b b) (fP_two b) h HX.out)
  have HP2 : Hid (x ≠ 0 → invm (fP b) (invm (fP b) x) = x) := hid (fun h => (inv_of (fer_b b) (fP_two b) HY.out HX.out (by rw [mulm_comm]; exact HP1.out h)).symm)
  have HP3 : Hid (x = 0 → invm (fP b) x = 0) := hid (fun h => by rw [h]; exact invm_zero (fP_two b))
  obtain ⟨y, hy⟩ : ∃ y, invm (fP b) x = y := ⟨_, rfl⟩
  rw [hy] at HY I1c V1 F2 I2c RC HP1 HP2 HP3
  obtain ⟨fx, hfx⟩ : ∃ q, frm (fP b) x = q := ⟨_, rfl⟩
  have HFX := hid hfx
  rw [hfx] at F1 I1c
  obtain ⟨fy, hfy⟩ : ∃ q, frm (fP b) y = q := ⟨_, rfl⟩
  rw [hfy] at I1c V1 F2 I2c
  clear hy hfx hfy FX PC IC VLC
  have z_F := X_F.lt
  have c_F0 := X_F.cell (i := 0) rfl
  have c_F1 := X_F.cell (i := 1) rfl
  have c_F2 := X_F.cell (i := 2) rfl
  have c_F3 := X_F.cell (i := 3) rfl
  have c_F4 := X_F.cell (i := 4) rfl
  have c_F5 := X_F.cell (i := 5) rfl
  have c_F6 := X_F.cell (i := 6) rfl
  have c_F7 := X_F.cell (i := 7) rfl
  have c_F8 := X_F.cell (i := 8) rfl
  have c_F9 := X_F.cell (i := 9) rfl
  have c_F10 := X_F.cell (i := 10) rfl
  have c_F11 := X_F.cell (i := 11) rfl
  have c_F12 := X_F.cell (i := 12) rfl
  have c_F13 := X_F.cell (i := 13) rfl
  have z_P := X_P.lt
  have c_P0 := X_P.cell (i := 0) rfl
  have c_P1 := X_P.cell (i := 1) rfl
  have c_P2 := X_P.cell (i := 2) rfl
  have c_P3 := X_P.cell (i := 3) rfl
  go_upto_region 3 with (fail)
  obtain ⟨v5, hv9⟩ : ∃ v, (v4.alloc (.cells #[.int .u64 (limb x 0 : Int), .int .u64 (limb x 1 : Int), .int .u64 (limb x 2 : Int), .int .u64 (limb x 3 : Int)] 23)) = v := ⟨_, rfl⟩
  have hG9 : Below v4.heap.size v4 v5 := by rw [← hv9]; go_grown
  have X_X : Blk v5 (v4.heap.size) 23 [.int .u64 (limb x 0 : Int), .int .u64 (limb x 1 : Int), .int .u64 (limb x 2 : Int), .int .u64 (limb x 3 : Int)] := by rw [← hv9]; exact Blk.new rfl
  obtain ⟨bX, hb9⟩ : ∃ k, v4.heap.size = k := ⟨_, rfl⟩
  rw [hb9] at X_X
  have g_bX : w.heap.size ≤ bX := by rw [← hb9]; exact BW.out.size
  have q_A_bX : bA < bX := by rw [← hb9]; exact X_A.lt
  have q_F_bX : bF < bX := by rw [← hb9]; exact X_F.lt
  have q_P_bX : bF + 1 < bX := by rw [← hb9]; exact X_P.lt
  clear z_F c_F0 c_F1 c_F2 c_F3 c_F4 c_F5 c_F6 c_F7 c_F8 c_F9 c_F10 c_F11 c_F12 c_F13 z_P c_P0 c_P1 c_P2 c_P3
  replace X_A := X_A.keep hG9
  replace X_F := X_F.keep hG9
  replace X_P := X_P.keep hG9
  replace T := hid (T.out.keep hG9)
  replace BW := hid (BW.out.trans (hG9.mono BW.out.size))
  clear hG9
  rw [hv9]
  try rw [hb9]
  clear hv9 hb9
  have z_F := X_F.lt
  have c_F0 := X_F.cell (i := 0) rfl
  have c_F1 := X_F.cell (i := 1) rfl
  have c_F2 := X_F.cell (i := 2) rfl
  have c_F3 := X_F.cell (i := 3) rfl
  have c_F4 := X_F.cell (i := 4) rfl
  have c_F5 := X_F.cell (i := 5) rfl
  have c_F6 := X_F.cell (i := 6) rfl
  have c_F7 := X_F.cell (i := 7) rfl
  have c_F8 := X_F.cell (i := 8) rfl
  have c_F9 := X_F.cell (i := 9) rfl
  have c_F10 := X_F.cell (i := 10) rfl
  have c_F11 := X_F.cell (i := 11) rfl
  have c_F12 := X_F.cell (i := 12) rfl
  have c_F13 := X_F.cell (i := 13) rfl
  have z_P := X_P.lt
  have c_P0 := X_P.cell (i := 0) rfl
  have c_P1 := X_P.cell (i := 1) rfl
  have c_P2 := X_P.cell (i := 2) rfl
  have c_P3 := X_P.cell (i := 3) rfl
  have z_X := X_X.lt
  have c_X0 := X_X.cell (i := 0) rfl
  have c_X1 := X_X.cell (i := 1) rfl
  have c_X2 := X_X.cell (i := 2) rfl
  have c_X3 := X_X.cell (i := 3) rfl
  go_cut [8] (fun t wx => ∃ br, t = .pointer (some ⟨br, 0, none⟩) ∧ Blk wx br 23 [.int .u64 (limb y 0 : Int), .int .u64 (limb y 1 : Int), .int .u64 (limb y 2 : Int), .int .u64 (limb y 3 : Int)] ∧ Below v5.heap.size v5 wx)
  case first =>
    go_region_held3 (fun w' => ∀ b o, b < v5.heap.size → w'.cell? ⟨b, o, none⟩ = v5.cell? ⟨b, o, none⟩) ((intro b o h; first | with_reducible exact c3 b o h | with_reducible exact c2 b o h | with_reducible exact c1 b o h | with_reducible exact cell_drew | with_reducible exact cell_drew.trans (cell_alloc h) | (with_reducible refine (cell_alloc (by (try simp); omega)).trans ?_; first | with_reducible exact c3 b o h | with_reducible exact c2 b o h | with_reducible exact c1 b o h | with_reducible exact cell_drew) | with_reducible exact (below_set4 H3.out (by omega) _ _ _ _).cell (p := ⟨b, o, none⟩) h | with_reducible exact (below_set4 H2.out (by omega) _ _ _ _).cell (p := ⟨b, o, none⟩) h | with_reducible exact (below_set4 H1.out (by omega) _ _ _ _).cell (p := ⟨b, o, none⟩) h)) (first | (go_at_call 21; refine (V1.out _).mono ?_; rintro e ra3 ⟨rfl, b9⟩; have H3 : Hid (Below v5.heap.size v5 ra3) := hid (by first | exact H2.out.trans (b9.mono H2.out.size) | exact (H2.out.alloc H2.out.size _).trans (b9.mono (by have := H2.out.size; simp; omega))); (first | (replace Z := Z.keep b9) | (have Z : Blk ra3 ra2.heap.size 23 [.int .u64 0, .int .u64 0, .int .u64 0, .int .u64 0] := Blk.keep (Blk.new rfl) b9) | skip); (try (have zz := Z.lt; have y0 := Z.cell (i := 0) rfl; have yf0 := Z.frozen 0; have y1 := Z.cell (i := 1) rfl; have yf1 := Z.frozen 1; have y2 := Z.cell (i := 2) rfl; have yf2 := Z.frozen 2; have y3 := Z.cell (i := 3) rfl; have yf3 := Z.frozen 3)); clear b9; have c3 := bcell H3.out; have z3 := H3.out.size) | (go_at_call 22; refine (I1c.out _).mono ?_; rintro e ra2 ⟨rfl, b9⟩; have H2 : Hid (Below v5.heap.size v5 ra2) := hid (by first | exact H1.out.trans (b9.mono H1.out.size) | exact (H1.out.alloc H1.out.size _).trans (b9.mono (by have := H1.out.size; simp; omega))); (first | (replace Z := Z.keep b9) | (have Z : Blk ra2 ra1.heap.size 23 [.int .u64 0, .int .u64 0, .int .u64 0, .int .u64 0] := Blk.keep (Blk.new rfl) b9) | skip); clear b9; have c2 := bcell H2.out; have z2 := H2.out.size) | (go_at_call 19; refine (F1.out _).mono ?_; rintro e ra1 ⟨rfl, b9⟩; have H1 : Hid (Below v5.heap.size v5 ra1) := hid (by first | exact (Below.drew (Below.refl _ v5)).trans b9 | exact ((Below.drew (Below.refl _ v5)).alloc (Nat.le_refl _) _).trans (b9.mono (by simp)) | exact (Below.drew ((Below.refl _ v5).alloc (Nat.le_refl _) _)).trans (b9.mono (by simp))); (try (have Z : Blk ra1 v5.heap.size 23 [.int .u64 0, .int .u64 0, .int .u64 0, .int .u64 0] := (by first | exact Blk.keep (Blk.drew (Blk.new rfl)) b9 | exact Blk.keep (Blk.new rfl) b9))); clear b9; have c1 := bcell H1.out; have z1 := H1.out.size))
    all_goals (go_wp2_with (fail); go_meet)
    all_goals (refine ⟨_, rfl, ?_, ?_⟩)
    all_goals (first | with_reducible exact Z.set4 (.int .u64 (limb y 0 : Int)) (.int .u64 (limb y 1 : Int)) (.int .u64 (limb y 2 : Int)) (.int .u64 (limb y 3 : Int)) | with_reducible exact below_set4 H3.out (by omega) (.int .u64 (limb y 0 : Int)) (.int .u64 (limb y 1 : Int)) (.int .u64 (limb y 2 : Int)) (.int .u64 (limb y 3 : Int)) | with_reducible exact Blk.new rfl | with_reducible exact H3.out.alloc H3.out.size _)
  case rest =>
    obtain ⟨bY, rfl, hx9, hbel⟩ := hcut
    obtain ⟨wc1, hwc⟩ : ∃ v, wc = v := ⟨_, rfl⟩
    rw [hwc] at hx9 hbel ⊢
    clear hwc
    clear z_F c_F0 c_F1 c_F2 c_F3 c_F4 c_F5 c_F6 c_F7 c_F8 c_F9 c_F10 c_F11 c_F12 c_F13 z_P c_P0 c_P1 c_P2 c_P3 z_X c_X0 c_X1 c_X2 c_X3
    replace X_A := X_A.keep hbel
    replace X_F := X_F.keep hbel
    replace X_P := X_P.keep hbel
    replace X_X := X_X.keep hbel
    replace T := hid (T.out.keep hbel)
    replace BW := hid (BW.out.trans (hbel.mono BW.out.size))
    clear hbel
    have X_Y := hx9
    clear hx9
    by_cases hx0 : x = 0
    · skip
      have hy0 := HP3.out hx0
      subst hx0
      subst hy0
      have z_Y := X_Y.lt
      have c_Y0 := X_Y.cell (i := 0) rfl
      have c_Y1 := X_Y.cell (i := 1) rfl
      have c_Y2 := X_Y.cell (i := 2) rfl
      have c_Y3 := X_Y.cell (i := 3) rfl
      have z_X := X_X.lt
      have c_X0 := X_X.cell (i := 0) rfl
      have c_X1 := X_X.cell (i := 1) rfl
      have c_X2 := X_X.cell (i := 2) rfl
      have c_X3 := X_X.cell (i := 3) rfl
      have hz := eqz_vec (a := 0) (by decide)
      have hzz := eqv_vec (a := 0) (b := 0) (by decide) (by decide)
      simp only [decide_true] at hz hzz
      go_wp2_with (go_at_call 17; refine (alive_any _ T.out).mono ?_; rintro e w9 ⟨rfl, b9⟩; have Y9 := X_Y.keep b9; have X9 := X_X.keep b9; have B9 := hid (BW.out.trans (b9.mono BW.out.size)); clear b9; have g0 := Y9.cell (i := 0) rfl; have h0 := X9.cell (i := 0) rfl; have g1 := Y9.cell (i := 1) rfl; have h1 := X9.cell (i := 1) rfl; have g2 := Y9.cell (i := 2) rfl; have h2 := X9.cell (i := 2) rfl; have g3 := Y9.cell (i := 3) rfl; have h3 := X9.cell (i := 3) rfl)
      go_ret
      exact ⟨rfl, B9.out⟩
    · skip
      have hp1 := HP1.out hx0
      have hp2 := HP2.out hx0
      rw [hp1] at RC
      rw [hp2, HFX.out] at I2c
      have hz := eqz_vec (a := x) (Nat.lt_trans HX.out (fP_lt b))
      simp only [hx0, decide_false] at hz
      have h1 := eq1_vec (a := 1) (by decide)
      simp only [decide_true] at h1
      have heq := fun W : World => eq_same_el (limb fx 0 : Int) (limb fx 1 : Int) (limb fx 2 : Int) (limb fx 3 : Int) W
      clear hp1 hp2 hx0 HP1 HP2 HP3 HFX
      have z_X := X_X.lt
      have c_X0 := X_X.cell (i := 0) rfl
      have c_X1 := X_X.cell (i := 1) rfl
      have c_X2 := X_X.cell (i := 2) rfl
      have c_X3 := X_X.cell (i := 3) rfl
      have z_Y := X_Y.lt
      have c_Y0 := X_Y.cell (i := 0) rfl
      have c_Y1 := X_Y.cell (i := 1) rfl
      have c_Y2 := X_Y.cell (i := 2) rfl
      have c_Y3 := X_Y.cell (i := 3) rfl
      go_upto_region 6 with (fail)
      clear z_X c_X0 c_X1 c_X2 c_X3 z_Y c_Y0 c_Y1 c_Y2 c_Y3
      have z_F := X_F.lt
      have c_F0 := X_F.cell (i := 0) rfl
      have c_F1 := X_F.cell (i := 1) rfl
      have c_F2 := X_F.cell (i := 2) rfl
      have c_F3 := X_F.cell (i := 3) rfl
      have c_F4 := X_F.cell (i := 4) rfl
      have c_F5 := X_F.cell (i := 5) rfl
      have c_F6 := X_F.cell (i := 6) rfl
      have c_F7 := X_F.cell (i := 7) rfl
      have c_F8 := X_F.cell (i := 8) rfl
      have c_F9 := X_F.cell (i := 9) rfl
      have c_F10 := X_F.cell (i := 10) rfl
      have c_F11 := X_F.cell (i := 11) rfl
      have c_F12 := X_F.cell (i := 12) rfl
      have c_F13 := X_F.cell (i := 13) rfl
      have z_P := X_P.lt
      have c_P0 := X_P.cell (i := 0) rfl
      have c_P1 := X_P.cell (i := 1) rfl
      have c_P2 := X_P.cell (i := 2) rfl
      have c_P3 := X_P.cell (i := 3) rfl
      have z_X := X_X.lt
      have c_X0 := X_X.cell (i := 0) rfl
      have c_X1 := X_X.cell (i := 1) rfl
      have c_X2 := X_X.cell (i := 2) rfl
      have c_X3 := X_X.cell (i := 3) rfl
      have z_Y := X_Y.lt
      have c_Y0 := X_Y.cell (i := 0) rfl
      have c_Y1 := X_Y.cell (i := 1) rfl
      have c_Y2 := X_Y.cell (i := 2) rfl
      have c_Y3 := X_Y.cell (i := 3) rfl
      go_region_held3 (fun w' => ∀ b o, b < wc1.heap.size → w'.cell? ⟨b, o, none⟩ = wc1.cell? ⟨b, o, none⟩) ((intro b o h; first | with_reducible exact c5 b o h | with_reducible exact c4 b o h | with_reducible exact c3 b o h | with_reducible exact c2 b o h | with_reducible exact c1 b o h | with_reducible exact cell_drew | with_reducible exact cell_drew.trans (cell_alloc h) | (with_reducible refine (cell_alloc (by (try simp); omega)).trans ?_; first | with_reducible exact c5 b o h | with_reducible exact c4 b o h | with_reducible exact c3 b o h | with_reducible exact c2 b o h | with_reducible exact c1 b o h | with_reducible exact cell_drew) | with_reducible exact (below_set4 H5.out (by omega) _ _ _ _).cell (p := ⟨b, o, none⟩) h | with_reducible exact (below_set4 H4.out (by omega) _ _ _ _).cell (p := ⟨b, o, none⟩) h | with_reducible exact (below_set4 H3.out (by omega) _ _ _ _).cell (p := ⟨b, o, none⟩) h | with_reducible exact (below_set4 H2.out (by omega) _ _ _ _).cell (p := ⟨b, o, none⟩) h | with_reducible exact (below_set4 H1.out (by omega) _ _ _ _).cell (p := ⟨b, o, none⟩) h)) (first | (go_at_call 19; refine (F1.out _).mono ?_; rintro e rb5 ⟨rfl, b9⟩; have H5 : Hid (Below wc1.heap.size wc1 rb5) := hid H4.out.trans (b9.mono H4.out.size); clear b9; have c5 := bcell H5.out; have z5 := H5.out.size) | (go_at_call 22; refine (I2c.out _).mono ?_; rintro e rb4 ⟨rfl, b9⟩; have H4 : Hid (Below wc1.heap.size wc1 rb4) := hid H3.out.trans (b9.mono H3.out.size); clear b9; have c4 := bcell H4.out; have z4 := H4.out.size) | (go_at_call 19; refine (F2.out _).mono ?_; rintro e rb3 ⟨rfl, b9⟩; have H3 : Hid (Below wc1.heap.size wc1 rb3) := hid H2.out.trans (b9.mono H2.out.size); clear b9; have c3 := bcell H3.out; have z3 := H3.out.size) | (go_at_call 23; refine (RC.out _).mono ?_; rintro e rb2 ⟨rfl, b9⟩; have H2 : Hid (Below wc1.heap.size wc1 rb2) := hid H1.out.trans (b9.mono H1.out.size); clear b9; have c2 := bcell H2.out; have z2 := H2.out.size) | (go_at_call 17; refine (alive_any wc1.drew T.out).mono ?_; rintro e rb1 ⟨rfl, b9⟩; have H1 : Hid (Below wc1.heap.size wc1 rb1) := hid (Below.drew (Below.refl _ wc1)).trans b9; clear b9; have c1 := bcell H1.out; have z1 := H1.out.size))
      have hH9 := H5.out
      clear z_F c_F0 c_F1 c_F2 c_F3 c_F4 c_F5 c_F6 c_F7 c_F8 c_F9 c_F10 c_F11 c_F12 c_F13 z_P c_P0 c_P1 c_P2 c_P3 z_X c_X0 c_X1 c_X2 c_X3 z_Y c_Y0 c_Y1 c_Y2 c_Y3
      replace X_A := X_A.keep hH9
      replace X_F := X_F.keep hH9
      replace X_P := X_P.keep hH9
      replace X_X := X_X.keep hH9
      replace X_Y := X_Y.keep hH9
      replace T := hid (T.out.keep hH9)
      replace BW := hid (BW.out.trans (hH9.mono BW.out.size))
      clear hH9
      go_wp2
      go_ret
      exact ⟨rfl, BW.out⟩
end Go.Proofs.YtedkdcdfehhhpaaDoor
