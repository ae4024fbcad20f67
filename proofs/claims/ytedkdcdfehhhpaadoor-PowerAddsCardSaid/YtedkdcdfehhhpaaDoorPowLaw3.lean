/-
  PowerAdds: the product of two powers is the power with the sum of the exponents.
-/
import Derived.Test.YtedkdcdfehhhpaaDoorAlive06
import Derived.Deep.RegionHeld3
import Derived.Deep.DeepCutAuto
namespace Go.Proofs.YtedkdcdfehhhpaaDoor
open Go.RowKit

set_option maxRecDepth 100000 in
set_option maxHeartbeats 4000000 in
theorem adds_law (b : Bool) (a d0 d1 : Nat) (w : World) (hT : Tab w) (ha : a < B256) (hd0 : d0 < 4294967296) (hd1 : d1 < 4294967296) :
    Calls Tryd.prog 6 #[.bool b, vec a, .agg #[.int .u32 (d0 : Int), .int .u32 (d1 : Int)]] w (Ret (.bool true) w) := by
  have BW := hid (Below.refl w.heap.size w)
  have T := hid hT
  clear hT
  go_enter Tryd.func6, Tryd.ntmps6
  go_wp2_with fail
  obtain ⟨v1, hv9⟩ : ∃ v, ((w.alloc (.cells #[.int .u64 (limb a 0 : Int), .int .u64 (limb a 1 : Int), .int .u64 (limb a 2 : Int), .int .u64 (limb a 3 : Int)] 23)).alloc (.cells #[.int .u32 (d0 : Int), .int .u32 (d1 : Int)] 42)) = v := ⟨_, rfl⟩
  have hG9 : Below w.heap.size w v1 := by rw [← hv9]; go_grown
  have X_A : Blk v1 (w.heap.size) 23 [.int .u64 (limb a 0 : Int), .int .u64 (limb a 1 : Int), .int .u64 (limb a 2 : Int), .int .u64 (limb a 3 : Int)] := by rw [← hv9]; exact Blk.alloc (Blk.new rfl) _
  have X_D : Blk v1 (w.heap.size + 1) 42 [.int .u32 (d0 : Int), .int .u32 (d1 : Int)] := by rw [← hv9]; exact Blk.new (by simp)
  obtain ⟨bA, hb9⟩ : ∃ k, w.heap.size = k := ⟨_, rfl⟩
  rw [hb9] at X_A
  rw [hb9] at X_D
  have g_bA : w.heap.size ≤ bA := by rw [← hb9]; exact BW.out.size
  replace T := hid (T.out.keep hG9)
  replace BW := hid (BW.out.trans (hG9.mono BW.out.size))
  clear hG9
  rw [hv9]
  try rw [hb9]
  clear hv9 hb9
  refine (lget_any b _ T.out).mono ?_
  rintro e v2 ⟨rfl, b9⟩
  replace X_A := X_A.keep b9
  replace X_D := X_D.keep b9
  replace T := hid (T.out.keep b9)
  replace BW := hid (BW.out.trans (b9.mono BW.out.size))
  clear b9
  have z_A := X_A.lt
  have c_A0 := X_A.cell (i := 0) rfl
  have c_A1 := X_A.cell (i := 1) rfl
  have c_A2 := X_A.cell (i := 2) rfl
  have c_A3 := X_A.cell (i := 3) rfl
  go_wp2_with fail
  obtain ⟨v3, hv9⟩ : ∃ v, ((v2.alloc (.cells #[.int .i64 (fID b), .int .u64 (limb (fP b) 0 : Int), .int .u64 (limb (fP b) 1 : Int), .int .u64 (limb (fP b) 2 : Int), .int .u64 (limb (fP b) 3 : Int), .int .u64 (fI b : Int), .int .u64 (limb (fO b) 0 : Int), .int .u64 (limb (fO b) 1 : Int), .int .u64 (limb (fO b) 2 : Int), .int .u64 (limb (fO b) 3 : Int), .int .u64 (limb (fS b) 0 : Int), .int .u64 (limb (fS b) 1 : Int), .int .u64 (limb (fS b) 2 : Int), .int .u64 (limb (fS b) 3 : Int)] 26)).alloc (.cells #[.int .u64 (limb (fP b) 0 : Int), .int .u64 (limb (fP b) 1 : Int), .int .u64 (limb (fP b) 2 : Int), .int .u64 (limb (fP b) 3 : Int)] 23)) = v := ⟨_, rfl⟩
  have hG9 : Below v2.heap.size v2 v3 := by rw [← hv9]; go_grown
  have X_F : Blk v3 (v2.heap.size) 26 [.int .i64 (fID b), .int .u64 (limb (fP b) 0 : Int), .int .u64 (limb (fP b) 1 : Int), .int .u64 (limb (fP b) 2 : Int), .int .u64 (limb (fP b) 3 : Int), .int .u64 (fI b : Int), .int .u64 (limb (fO b) 0 : Int), .int .u64 (limb (fO b) 1 : Int), .int .u64 (limb (fO b) 2 : Int), .int .u64 (limb (fO b) 3 : Int), .int .u64 (limb (fS b) 0 : Int), .int .u64 (limb (fS b) 1 : Int), .int .u64 (limb (fS b) 2 : Int), .int .u64 (limb (fS b) 3 : Int)] := by rw [← hv9]; exact Blk.alloc (Blk.new rfl) _
  have X_P : Blk v3 (v2.heap.size + 1) 23 [.int .u64 (limb (fP b) 0 : Int), .int .u64 (limb (fP b) 1 : Int), .int .u64 (limb (fP b) 2 : Int), .int .u64 (limb (fP b) 3 : Int)] := by rw [← hv9]; exact Blk.new (by simp)
  obtain ⟨bF, hb9⟩ : ∃ k, v2.heap.size = k := ⟨_, rfl⟩
  rw [hb9] at X_F
  rw [hb9] at X_P
  have g_bF : w.heap.size ≤ bF := by rw [← hb9]; exact BW.out.size
  have q_A_bF : bA < bF := by rw [← hb9]; exact X_A.lt
  have q_D_bF : bA + 1 < bF := by rw [← hb9]; exact X_D.lt
  clear z_A c_A0 c_A1 c_A2 c_A3
  replace X_A := X_A.keep hG9
  replace X_D := X_D.keep hG9
  replace T := hid (T.out.keep hG9)
  replace BW := hid (BW.out.trans (hG9.mono BW.out.size))
  clear hG9
  rw [hv9]
  try rw [hb9]
  clear hv9 hb9
  refine (rmod_any (fP b) a (fP_lt b) (by have := fP_two b; omega) ha _).mono ?_
  rintro e v4 ⟨rfl, b9⟩
  replace X_A := X_A.keep b9
  replace X_D := X_D.keep b9
  replace X_F := X_F.keep b9
  replace X_P := X_P.keep b9
  replace T := hid (T.out.keep b9)
  replace BW := hid (BW.out.trans (b9.mono BW.out.size))
  clear b9
  have xlt : mulm (fP b) 1 a < fP b := mulm_lt _ _ (by have := fP_two b; omega)
  obtain ⟨x, hx⟩ : ∃ x, mulm (fP b) 1 a = x := ⟨_, rfl⟩
  rw [hx] at xlt ⊢
  have HX := hid xlt
  clear xlt hx
  have FX := hid (fun (z : Nat) (hz : z < fP b) (W : World) => lform_any (fP b) z (fP_lt b) (by have := fP_two b; omega) (Nat.lt_trans hz (fP_lt b)) W)
  have PC := hid (fun (z e : Nat) (hz : z < fP b) (he : e < B256) (W : World) => pow_any (fID b) (fP b) (fI b) (fS b) z e (fOK b) hz he W)
  rw [← fO_eq b] at PC
  have IC := hid (fun (z : Nat) (hz : z < fP b) (W : World) => inverse_any (fID b) (fP b) (fI b) (fS b) z (fOK b) hz W)
  rw [← fO_eq b] at IC
  have VLC := hid (fun (z : Nat) (hz : z < fP b) (W : World) => rvalue_any (fP b) (frm (fP b) z) (fP_lt b) (fP_odd b) (fP_inv b) (frm_lt z (by have := fP_two b; omega)) W)
  have F1 := hid (FX.out x HX.out)
  have z_P := X_P.lt
  have c_P0 := X_P.cell (i := 0) rfl
  have c_P1 := X_P.cell (i := 1) rfl
  have c_P2 := X_P.cell (i := 2) rfl
  have c_P3 := X_P.cell (i := 3) rfl
  go_wp2_with fail
  obtain ⟨v5, hv9⟩ : ∃ v, (v4.alloc (.cells #[.int .u64 (limb x 0 : Int), .int .u64 (limb x 1 : Int), .int .u64 (limb x 2 : Int), .int .u64 (limb x 3 : Int)] 23)) = v := ⟨_, rfl⟩
  have hG9 : Below v4.heap.size v4 v5 := by rw [← hv9]; go_grown
  have X_X : Blk v5 (v4.heap.size) 23 [.int .u64 (limb x 0 : Int), .int .u64 (limb x 1 : Int), .int .u64 (limb x 2 : Int), .int .u64 (limb x 3 : Int)] := by rw [← hv9]; exact Blk.new rfl
  obtain ⟨bX, hb9⟩ : ∃ k, v4.heap.size = k := ⟨_, rfl⟩
  rw [hb9] at X_X
  have g_bX : w.heap.size ≤ bX := by rw [← hb9]; exact BW.out.size
  have q_A_bX : bA < bX := by rw [← hb9]; exact X_A.lt
  have q_D_bX : bA + 1 < bX := by rw [← hb9]; exact X_D.lt
  have q_F_bX : bF < bX := by rw [← hb9]; exact X_F.lt
  have q_P_bX : bF + 1 < bX := by rw [← hb9]; exact X_P.lt
  clear z_P c_P0 c_P1 c_P2 c_P3
  replace X_A := X_A.keep hG9
  replace X_D := X_D.keep hG9
  replace X_F := X_F.keep hG9
  replace X_P := X_P.keep hG9
  replace T := hid (T.out.keep hG9)
  replace BW := hid (BW.out.trans (hG9.mono BW.out.size))
  clear hG9
  rw [hv9]
  try rw [hb9]
  clear hv9 hb9
  refine (F1.out _).mono ?_
  rintro e v6 ⟨rfl, b9⟩
  replace X_A := X_A.keep b9
  replace X_D := X_D.keep b9
  replace X_F := X_F.keep b9
  replace X_P := X_P.keep b9
  replace X_X := X_X.keep b9
  replace T := hid (T.out.keep b9)
  replace BW := hid (BW.out.trans (b9.mono BW.out.size))
  clear b9
  obtain ⟨fx, hfx⟩ : ∃ q, frm (fP b) x = q := ⟨_, rfl⟩
  have c0 := Nat.lt_trans hd0 (show 4294967296 < B256 by decide)
  have c1 := Nat.lt_trans hd1 (show 4294967296 < B256 by decide)
  have c2 : d0 + d1 < B256 := by unfold B256; omega
  have Q0 := hid (PC.out x d0 HX.out c0)
  have Q1 := hid (PC.out x d1 HX.out c1)
  have Q2 := hid (PC.out x (d0 + d1) HX.out c2)
  rw [← vec_sm (x := d0) (by omega)] at Q0
  rw [← vec_sm (x := d1) (by omega)] at Q1
  rw [← vec_sm (x := d0 + d1) (by omega), Int.natCast_add] at Q2
  have HY := hid (powm_lt (p := fP b) x d0 (by have := fP_two b; omega))
  have HZ := hid (powm_lt (p := fP b) x d1 (by have := fP_two b; omega))
  have V0 := hid (VLC.out (powm (fP b) x d0) HY.out)
  rw [valm_frm (fP_inv b) HY.out] at V0
  have V1 := hid (VLC.out (powm (fP b) x d1) HZ.out)
  rw [valm_frm (fP_inv b) HZ.out] at V1
  have RC := hid (fun W : World => rmul_any (fP b) (powm (fP b) x d0) (powm (fP b) x d1) (fP_lt b) HY.out (Nat.lt_trans HZ.out (fP_lt b)) W)
  rw [powm_add] at RC
  have F2 := hid (FX.out (powm (fP b) x (d0 + d1)) (powm_lt _ _ (by have := fP_two b; omega)))
  rw [hfx] at Q0 Q1 Q2 ⊢
  obtain ⟨r, hr⟩ : ∃ q, powm (fP b) x (d0 + d1) = q := ⟨_, rfl⟩
  rw [hr] at Q2 RC F2
  obtain ⟨fr, hfr⟩ : ∃ q, frm (fP b) r = q := ⟨_, rfl⟩
  rw [hfr] at Q2 F2
  obtain ⟨y, hy⟩ : ∃ q, powm (fP b) x d0 = q := ⟨_, rfl⟩
  rw [hy] at Q0 V0 RC
  obtain ⟨z, hz⟩ : ∃ q, powm (fP b) x d1 = q := ⟨_, rfl⟩
  rw [hz] at Q1 V1 RC
  obtain ⟨fy, hfy⟩ : ∃ q, frm (fP b) y = q := ⟨_, rfl⟩
  rw [hfy] at Q0 V0
  obtain ⟨fz, hfz⟩ : ∃ q, frm (fP b) z = q := ⟨_, rfl⟩
  rw [hfz] at Q1 V1
  have hb0 : (d0 : Int) ≤ 4294967295 := by omega
  have hb1 : (d1 : Int) ≤ 4294967295 := by omega
  have hc0 : (0 : Int) ≤ (d0 : Int) := by omega
  have hc1 : (0 : Int) ≤ (d1 : Int) := by omega
  have hw0 : IntKind.u64.wrap (d0 : Int) = (d0 : Int) := by rw [IntKind.wrap_u64]; omega
  have hw1 : IntKind.u64.wrap (d1 : Int) = (d1 : Int) := by rw [IntKind.wrap_u64]; omega
  have hw2 : IntKind.u64.wrap ((d0 : Int) + (d1 : Int)) = (d0 : Int) + (d1 : Int) := by rw [IntKind.wrap_u64]; omega
  clear hr hfr hy hz hfy hfz hfx FX PC IC VLC c0 c1 c2 HY HZ
  have heq := fun W : World => eq_same_el (limb fr 0 : Int) (limb fr 1 : Int) (limb fr 2 : Int) (limb fr 3 : Int) W
  have z_F := X_F.lt
  have c_F0 := X_F.cell (i := 0) rfl
  have c_F1 := X_F.cell (i := 1) rfl
  have c_F2 := X_F.cell (i := 2) rfl
  have c_F3 := X_F.cell (i := 3) rfl
  have c_F4 := X_F.cell (i := 4) rfl
  have c_F5 := X_F.cell (i := 5) rfl
  have c_F6 := X_F.cell (i := 6) rfl
  have c_F7 := X_F.cell (i := 7) rfl
  have c_F8 := X_F.cell (i := 8) rfl
  have c_F9 := X_F.cell (i := 9) rfl
  have c_F10 := X_F.cell (i := 10) rfl
  have c_F11 := X_F.cell (i := 11) rfl
  have c_F12 := X_F.cell (i := 12) rfl
  have c_F13 := X_F.cell (i := 13) rfl
  have z_P := X_P.lt
  have c_P0 := X_P.cell (i := 0) rfl
  have c_P1 := X_P.cell (i := 1) rfl
  have c_P2 := X_P.cell (i := 2) rfl
  have c_P3 := X_P.cell (i := 3) rfl
  have z_D := X_D.lt
  have c_D0 := X_D.cell (i := 0) rfl
  have c_D1 := X_D.cell (i := 1) rfl
  go_upto_region 4 with (fail)
  obtain ⟨v7, hv9⟩ : ∃ v, (v6.alloc (.cells #[.int .u64 (limb fx 0 : Int), .int .u64 (limb fx 1 : Int), .int .u64 (limb fx 2 : Int), .int .u64 (limb fx 3 : Int)] 24)) = v := ⟨_, rfl⟩
  have hG9 : Below v6.heap.size v6 v7 := by rw [← hv9]; go_grown
  have X_U : Blk v7 (v6.heap.size) 24 [.int .u64 (limb fx 0 : Int), .int .u64 (limb fx 1 : Int), .int .u64 (limb fx 2 : Int), .int .u64 (limb fx 3 : Int)] := by rw [← hv9]; exact Blk.new rfl
  obtain ⟨bU, hb9⟩ : ∃ k, v6.heap.size = k := ⟨_, rfl⟩
  rw [hb9] at X_U
  have g_bU : w.heap.size ≤ bU := by rw [← hb9]; exact BW.out.size
  have q_A_bU : bA < bU := by rw [← hb9]; exact X_A.lt
  have q_D_bU : bA + 1 < bU := by rw [← hb9]; exact X_D.lt
  have q_F_bU : bF < bU := by rw [← hb9]; exact X_F.lt
  have q_P_bU : bF + 1 < bU := by rw [← hb9]; exact X_P.lt
  have q_X_bU : bX < bU := by rw [← hb9]; exact X_X.lt
  clear z_F c_F0 c_F1 c_F2 c_F3 c_F4 c_F5 c_F6 c_F7 c_F8 c_F9 c_F10 c_F11 c_F12 c_F13 z_P c_P0 c_P1 c_P2 c_P3 z_D c_D0 c_D1
  replace X_A := X_A.keep hG9
  replace X_D := X_D.keep hG9
  replace X_F := X_F.keep hG9
  replace X_P := X_P.keep hG9
  replace X_X := X_X.keep hG9
  replace T := hid (T.out.keep hG9)
  replace BW := hid (BW.out.trans (hG9.mono BW.out.size))
  clear hG9
  rw [hv9]
  try rw [hb9]
  clear hv9 hb9
  have z_F := X_F.lt
  have c_F0 := X_F.cell (i := 0) rfl
  have c_F1 := X_F.cell (i := 1) rfl
  have c_F2 := X_F.cell (i := 2) rfl
  have c_F3 := X_F.cell (i := 3) rfl
  have c_F4 := X_F.cell (i := 4) rfl
  have c_F5 := X_F.cell (i := 5) rfl
  have c_F6 := X_F.cell (i := 6) rfl
  have c_F7 := X_F.cell (i := 7) rfl
  have c_F8 := X_F.cell (i := 8) rfl
  have c_F9 := X_F.cell (i := 9) rfl
  have c_F10 := X_F.cell (i := 10) rfl
  have c_F11 := X_F.cell (i := 11) rfl
  have c_F12 := X_F.cell (i := 12) rfl
  have c_F13 := X_F.cell (i := 13) rfl
  have z_P := X_P.lt
  have c_P0 := X_P.cell (i := 0) rfl
  have c_P1 := X_P.cell (i := 1) rfl
  have c_P2 := X_P.cell (i := 2) rfl
  have c_P3 := X_P.cell (i := 3) rfl
  have z_U := X_U.lt
  have c_U0 := X_U.cell (i := 0) rfl
  have c_U1 := X_U.cell (i := 1) rfl
  have c_U2 := X_U.cell (i := 2) rfl
  have c_U3 := X_U.cell (i := 3) rfl
  have z_D := X_D.lt
  have c_D0 := X_D.cell (i := 0) rfl
  have c_D1 := X_D.cell (i := 1) rfl
  go_cut [11] (fun t wx => ∃ br, t = .pointer (some ⟨br, 0, none⟩) ∧ Blk wx br 23 [.int .u64 (limb y 0 : Int), .int .u64 (limb y 1 : Int), .int .u64 (limb y 2 : Int), .int .u64 (limb y 3 : Int)] ∧ Below v7.heap.size v7 wx)
  case first =>
    go_region_held3 (fun w' => ∀ b o, b < v7.heap.size → w'.cell? ⟨b, o, none⟩ = v7.cell? ⟨b, o, none⟩) ((intro b o h; first | with_reducible exact c2 b o h | with_reducible exact c1 b o h | with_reducible exact cell_drew | with_reducible exact cell_drew.trans (cell_alloc h) | (with_reducible refine (cell_alloc (by (try simp); omega)).trans ?_; first | with_reducible exact c2 b o h | with_reducible exact c1 b o h | with_reducible exact cell_drew) | with_reducible exact (below_set4 H2.out (by omega) _ _ _ _).cell (p := ⟨b, o, none⟩) h | with_reducible exact (below_set4 H1.out (by omega) _ _ _ _).cell (p := ⟨b, o, none⟩) h)) (first | (go_at_call 21; refine (V0.out _).mono ?_; rintro e ra2 ⟨rfl, b9⟩; have H2 : Hid (Below v7.heap.size v7 ra2) := hid (by first | exact H1.out.trans (b9.mono H1.out.size) | exact (H1.out.alloc H1.out.size _).trans (b9.mono (by have := H1.out.size; simp; omega))); (first | (replace Z := Z.keep b9) | (have Z : Blk ra2 ra1.heap.size 23 [.int .u64 0, .int .u64 0, .int .u64 0, .int .u64 0] := Blk.keep (Blk.new rfl) b9) | skip); (try (have zz := Z.lt; have y0 := Z.cell (i := 0) rfl; have yf0 := Z.frozen 0; have y1 := Z.cell (i := 1) rfl; have yf1 := Z.frozen 1; have y2 := Z.cell (i := 2) rfl; have yf2 := Z.frozen 2; have y3 := Z.cell (i := 3) rfl; have yf3 := Z.frozen 3)); clear b9; have c2 := bcell H2.out; have z2 := H2.out.size) | (go_at_call 18; refine (Q0.out _).mono ?_; rintro e ra1 ⟨rfl, b9⟩; have H1 : Hid (Below v7.heap.size v7 ra1) := hid (by first | exact (Below.drew (Below.refl _ v7)).trans b9 | exact ((Below.drew (Below.refl _ v7)).alloc (Nat.le_refl _) _).trans (b9.mono (by simp)) | exact (Below.drew ((Below.refl _ v7).alloc (Nat.le_refl _) _)).trans (b9.mono (by simp))); (try (have Z : Blk ra1 v7.heap.size 23 [.int .u64 0, .int .u64 0, .int .u64 0, .int .u64 0] := (by first | exact Blk.keep (Blk.drew (Blk.new rfl)) b9 | exact Blk.keep (Blk.new rfl) b9))); clear b9; have c1 := bcell H1.out; have z1 := H1.out.size))
    all_goals (go_wp2_with (fail); go_meet)
    all_goals (refine ⟨_, rfl, ?_, ?_⟩)
    all_goals (first | with_reducible exact Z.set4 (.int .u64 (limb y 0 : Int)) (.int .u64 (limb y 1 : Int)) (.int .u64 (limb y 2 : Int)) (.int .u64 (limb y 3 : Int)) | with_reducible exact below_set4 H2.out (by omega) (.int .u64 (limb y 0 : Int)) (.int .u64 (limb y 1 : Int)) (.int .u64 (limb y 2 : Int)) (.int .u64 (limb y 3 : Int)) | with_reducible exact Blk.new rfl | with_reducible exact H2.out.alloc H2.out.size _)
  case rest =>
    obtain ⟨bY, rfl, hx9, hbel⟩ := hcut
    obtain ⟨wc1, hwc⟩ : ∃ v, wc = v := ⟨_, rfl⟩
    rw [hwc] at hx9 hbel ⊢
    clear hwc
    clear z_F c_F0 c_F1 c_F2 c_F3 c_F4 c_F5 c_F6 c_F7 c_F8 c_F9 c_F10 c_F11 c_F12 c_F13 z_P c_P0 c_P1 c_P2 c_P3 z_U c_U0 c_U1 c_U2 c_U3 z_D c_D0 c_D1
    replace X_A := X_A.keep hbel
    replace X_D := X_D.keep hbel
    replace X_F := X_F.keep hbel
    replace X_P := X_P.keep hbel
    replace X_X := X_X.keep hbel
    replace X_U := X_U.keep hbel
    replace T := hid (T.out.keep hbel)
    replace BW := hid (BW.out.trans (hbel.mono BW.out.size))
    clear hbel
    have X_Y := hx9
    clear hx9
    have z_F := X_F.lt
    have c_F0 := X_F.cell (i := 0) rfl
    have c_F1 := X_F.cell (i := 1) rfl
    have c_F2 := X_F.cell (i := 2) rfl
    have c_F3 := X_F.cell (i := 3) rfl
    have c_F4 := X_F.cell (i := 4) rfl
    have c_F5 := X_F.cell (i := 5) rfl
    have c_F6 := X_F.cell (i := 6) rfl
    have c_F7 := X_F.cell (i := 7) rfl
    have c_F8 := X_F.cell (i := 8) rfl
    have c_F9 := X_F.cell (i := 9) rfl
    have c_F10 := X_F.cell (i := 10) rfl
    have c_F11 := X_F.cell (i := 11) rfl
    have c_F12 := X_F.cell (i := 12) rfl
    have c_F13 := X_F.cell (i := 13) rfl
    have z_P := X_P.lt
    have c_P0 := X_P.cell (i := 0) rfl
    have c_P1 := X_P.cell (i := 1) rfl
    have c_P2 := X_P.cell (i := 2) rfl
    have c_P3 := X_P.cell (i := 3) rfl
    have z_U := X_U.lt
    have c_U0 := X_U.cell (i := 0) rfl
    have c_U1 := X_U.cell (i := 1) rfl
    have c_U2 := X_U.cell (i := 2) rfl
    have c_U3 := X_U.cell (i := 3) rfl
    have z_D := X_D.lt
    have c_D0 := X_D.cell (i := 0) rfl
    have c_D1 := X_D.cell (i := 1) rfl
    go_upto_region 5 with (fail)
    go_cut [12] (fun t wx => ∃ br, t = .pointer (some ⟨br, 0, none⟩) ∧ Blk wx br 23 [.int .u64 (limb z 0 : Int), .int .u64 (limb z 1 : Int), .int .u64 (limb z 2 : Int), .int .u64 (limb z 3 : Int)] ∧ Below wc1.heap.size wc1 wx)
    case first =>
      go_region_held3 (fun w' => ∀ b o, b < wc1.heap.size → w'.cell? ⟨b, o, none⟩ = wc1.cell? ⟨b, o, none⟩) ((intro b o h; first | with_reducible exact c2 b o h | with_reducible exact c1 b o h | with_reducible exact cell_drew | with_reducible exact cell_drew.trans (cell_alloc h) | (with_reducible refine (cell_alloc (by (try simp); omega)).trans ?_; first | with_reducible exact c2 b o h | with_reducible exact c1 b o h | with_reducible exact cell_drew) | with_reducible exact (below_set4 H2.out (by omega) _ _ _ _).cell (p := ⟨b, o, none⟩) h | with_reducible exact (below_set4 H1.out (by omega) _ _ _ _).cell (p := ⟨b, o, none⟩) h)) (first | (go_at_call 21; refine (V1.out _).mono ?_; rintro e rb2 ⟨rfl, b9⟩; have H2 : Hid (Below wc1.heap.size wc1 rb2) := hid (by first | exact H1.out.trans (b9.mono H1.out.size) | exact (H1.out.alloc H1.out.size _).trans (b9.mono (by have := H1.out.size; simp; omega))); (first | (replace Z := Z.keep b9) | (have Z : Blk rb2 rb1.heap.size 23 [.int .u64 0, .int .u64 0, .int .u64 0, .int .u64 0] := Blk.keep (Blk.new rfl) b9) | skip); (try (have zz := Z.lt; have y0 := Z.cell (i := 0) rfl; have yf0 := Z.frozen 0; have y1 := Z.cell (i := 1) rfl; have yf1 := Z.frozen 1; have y2 := Z.cell (i := 2) rfl; have yf2 := Z.frozen 2; have y3 := Z.cell (i := 3) rfl; have yf3 := Z.frozen 3)); clear b9; have c2 := bcell H2.out; have z2 := H2.out.size) | (go_at_call 18; refine (Q1.out _).mono ?_; rintro e rb1 ⟨rfl, b9⟩; have H1 : Hid (Below wc1.heap.size wc1 rb1) := hid (by first | exact (Below.drew (Below.refl _ wc1)).trans b9 | exact ((Below.drew (Below.refl _ wc1)).alloc (Nat.le_refl _) _).trans (b9.mono (by simp)) | exact (Below.drew ((Below.refl _ wc1).alloc (Nat.le_refl _) _)).trans (b9.mono (by simp))); (try (have Z : Blk rb1 wc1.heap.size 23 [.int .u64 0, .int .u64 0, .int .u64 0, .int .u64 0] := (by first | exact Blk.keep (Blk.drew (Blk.new rfl)) b9 | exact Blk.keep (Blk.new rfl) b9))); clear b9; have c1 := bcell H1.out; have z1 := H1.out.size))
      all_goals (go_wp2_with (fail); go_meet)
      all_goals (refine ⟨_, rfl, ?_, ?_⟩)
      all_goals (first | with_reducible exact Z.set4 (.int .u64 (limb z 0 : Int)) (.int .u64 (limb z 1 : Int)) (.int .u64 (limb z 2 : Int)) (.int .u64 (limb z 3 : Int)) | with_reducible exact below_set4 H2.out (by omega) (.int .u64 (limb z 0 : Int)) (.int .u64 (limb z 1 : Int)) (.int .u64 (limb z 2 : Int)) (.int .u64 (limb z 3 : Int)) | with_reducible exact Blk.new rfl | with_reducible exact H2.out.alloc H2.out.size _)
    case rest =>
      obtain ⟨bZ, rfl, hx9, hbel⟩ := hcut
      obtain ⟨wc2, hwc⟩ : ∃ v, wc = v := ⟨_, rfl⟩
      rw [hwc] at hx9 hbel ⊢
      clear hwc
      clear z_F c_F0 c_F1 c_F2 c_F3 c_F4 c_F5 c_F6 c_F7 c_F8 c_F9 c_F10 c_F11 c_F12 c_F13 z_P c_P0 c_P1 c_P2 c_P3 z_U c_U0 c_U1 c_U2 c_U3 z_D c_D0 c_D1
      replace X_A := X_A.keep hbel
      replace X_D := X_D.keep hbel
      replace X_F := X_F.keep hbel
      replace X_P := X_P.keep hbel
      replace X_X := X_X.keep hbel
      replace X_U := X_U.keep hbel
      replace X_Y := X_Y.keep hbel
      replace T := hid (T.out.keep hbel)
      replace BW := hid (BW.out.trans (hbel.mono BW.out.size))
      clear hbel
      have X_Z := hx9
      clear hx9
      have z_F := X_F.lt
      have c_F0 := X_F.cell (i := 0) rfl
      have c_F1 := X_F.cell (i := 1) rfl
      have c_F2 := X_F.cell (i := 2) rfl
      have c_F3 := X_F.cell (i := 3) rfl
      have c_F4 := X_F.cell (i := 4) rfl
      have c_F5 := X_F.cell (i := 5) rfl
      have c_F6 := X_F.cell (i := 6) rfl
      have c_F7 := X_F.cell (i := 7) rfl
      have c_F8 := X_F.cell (i := 8) rfl
      have c_F9 := X_F.cell (i := 9) rfl
      have c_F10 := X_F.cell (i := 10) rfl
      have c_F11 := X_F.cell (i := 11) rfl
      have c_F12 := X_F.cell (i := 12) rfl
      have c_F13 := X_F.cell (i := 13) rfl
      have z_P := X_P.lt
      have c_P0 := X_P.cell (i := 0) rfl
      have c_P1 := X_P.cell (i := 1) rfl
      have c_P2 := X_P.cell (i := 2) rfl
      have c_P3 := X_P.cell (i := 3) rfl
      have z_U := X_U.lt
      have c_U0 := X_U.cell (i := 0) rfl
      have c_U1 := X_U.cell (i := 1) rfl
      have c_U2 := X_U.cell (i := 2) rfl
      have c_U3 := X_U.cell (i := 3) rfl
      have z_D := X_D.lt
      have c_D0 := X_D.cell (i := 0) rfl
      have c_D1 := X_D.cell (i := 1) rfl
      have z_Y := X_Y.lt
      have c_Y0 := X_Y.cell (i := 0) rfl
      have c_Y1 := X_Y.cell (i := 1) rfl
      have c_Y2 := X_Y.cell (i := 2) rfl
      have c_Y3 := X_Y.cell (i := 3) rfl
      have z_Z := X_Z.lt
      have c_Z0 := X_Z.cell (i := 0) rfl
      have c_Z1 := X_Z.cell (i := 1) rfl
      have c_Z2 := X_Z.cell (i := 2) rfl
      have c_Z3 := X_Z.cell (i := 3) rfl
      go_upto_region 6 with (fail)
      go_region_held3 (fun w' => ∀ b o, b < wc2.heap.size → w'.cell? ⟨b, o, none⟩ = wc2.cell? ⟨b, o, none⟩) ((intro b o h; first | with_reducible exact c4 b o h | with_reducible exact c3 b o h | with_reducible exact c2 b o h | with_reducible exact c1 b o h | with_reducible exact cell_drew | with_reducible exact cell_drew.trans (cell_alloc h) | (with_reducible refine (cell_alloc (by (try simp); omega)).trans ?_; first | with_reducible exact c4 b o h | with_reducible exact c3 b o h | with_reducible exact c2 b o h | with_reducible exact c1 b o h | with_reducible exact cell_drew) | with_reducible exact (below_set4 H4.out (by omega) _ _ _ _).cell (p := ⟨b, o, none⟩) h | with_reducible exact (below_set4 H3.out (by omega) _ _ _ _).cell (p := ⟨b, o, none⟩) h | with_reducible exact (below_set4 H2.out (by omega) _ _ _ _).cell (p := ⟨b, o, none⟩) h | with_reducible exact (below_set4 H1.out (by omega) _ _ _ _).cell (p := ⟨b, o, none⟩) h)) (first | (go_at_call 19; refine (F2.out _).mono ?_; rintro e rc4 ⟨rfl, b9⟩; have H4 : Hid (Below wc2.heap.size wc2 rc4) := hid H3.out.trans (b9.mono H3.out.size); clear b9; have c4 := bcell H4.out; have z4 := H4.out.size) | (go_at_call 23; refine (RC.out _).mono ?_; rintro e rc3 ⟨rfl, b9⟩; have H3 : Hid (Below wc2.heap.size wc2 rc3) := hid H2.out.trans (b9.mono H2.out.size); clear b9; have c3 := bcell H3.out; have z3 := H3.out.size) | (go_at_call 18; refine (Q2.out _).mono ?_; rintro e rc2 ⟨rfl, b9⟩; have H2 : Hid (Below wc2.heap.size wc2 rc2) := hid H1.out.trans (b9.mono H1.out.size); clear b9; have c2 := bcell H2.out; have z2 := H2.out.size) | (go_at_call 17; refine (alive_any wc2.drew T.out).mono ?_; rintro e rc1 ⟨rfl, b9⟩; have H1 : Hid (Below wc2.heap.size wc2 rc1) := hid (Below.drew (Below.refl _ wc2)).trans b9; clear b9; have c1 := bcell H1.out; have z1 := H1.out.size))
      have hH9 := H4.out
      clear z_F c_F0 c_F1 c_F2 c_F3 c_F4 c_F5 c_F6 c_F7 c_F8 c_F9 c_F10 c_F11 c_F12 c_F13 z_P c_P0 c_P1 c_P2 c_P3 z_U c_U0 c_U1 c_U2 c_U3 z_D c_D0 c_D1 z_Y c_Y0 c_Y1 c_Y2 c_Y3 z_Z c_Z0 c_Z1 c_Z2 c_Z3
      replace X_A := X_A.keep hH9
      replace X_D := X_D.keep hH9
      replace X_F := X_F.keep hH9
      replace X_P := X_P.keep hH9
      replace X_X := X_X.keep hH9
      replace X_U := X_U.keep hH9
      replace X_Y := X_Y.keep hH9
      replace X_Z := X_Z.keep hH9
      replace T := hid (T.out.keep hH9)
      replace BW := hid (BW.out.trans (hH9.mono BW.out.size))
      clear hH9
      clear H1 c1 z1 H2 c2 z2 H3 c3 z3 H4 c4 z4
      go_wp2
      go_ret
      exact ⟨rfl, BW.out⟩
end Go.Proofs.YtedkdcdfehhhpaaDoor
