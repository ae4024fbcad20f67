/-
  PowerFermat: every value that is not 0 has the power 1 with the exponent p - 1, and every value is its own power with the exponent p.
-/
import Derived.Test.YtedkdcdfehhhpaaDoorAlive06
import Derived.Deep.RegionHeld3
import Derived.Deep.DeepCutAuto
namespace Go.Proofs.YtedkdcdfehhhpaaDoor
open Go.RowKit

theorem eqz_el {a : Nat} (ha : a < B256) (w : World) : (Op.equalIn 10000 24 (vec a) (.agg #[.int .u64 0, .int .u64 0, .int .u64 0, .int .u64 0])).run Tryd.prog w = .ok (decide (a = 0)) w := by
  have h := eqv_elem (a := a) (b := 0) ha (by decide) w
  rw [← vec_zero] at h; exact h
theorem dec_limb0 {p : Nat} (h : p % 2 = 1) : limb (p - 1) 0 = limb p 0 - 1 ∧ 1 ≤ limb p 0 := by
  rw [limb0, limb0]; omega
theorem dec_limb {p : Nat} (h : p % 2 = 1) (i : Nat) (hi : 1 ≤ i) : limb (p - 1) i = limb p i := by
  rw [limb_eq, limb_eq]
  have e : (2 : Nat) ^ (64 * i) = 2 * 2 ^ (64 * i - 1) := by rw [← Nat.pow_succ']; congr 1; omega
  have e2 : (p - 1) / 2 ^ (64 * i) = p / 2 ^ (64 * i) := by rw [e, ← Nat.div_div_eq_div_mul, ← Nat.div_div_eq_div_mul, show (p - 1) / 2 = p / 2 by omega]
  rw [e2]
set_option maxRecDepth 100000 in
set_option maxHeartbeats 4000000 in
theorem fermat_law (b : Bool) (a : Nat) (w : World) (hT : Tab w) (ha : a < B256) :
    Calls Tryd.prog 7 #[.bool b, vec a] w (Ret (.bool true) w) := by
  have BW := hid (Below.refl w.heap.size w)
  have T := hid hT
  clear hT
  go_enter Tryd.func7, Tryd.ntmps7
  go_wp2_with fail
  obtain ⟨v1, hv9⟩ : ∃ v, (w.alloc (.cells #[.int .u64 (limb a 0 : Int), .int .u64 (limb a 1 : Int), .int .u64 (limb a 2 : Int), .int .u64 (limb a 3 : Int)] 23)) = v := ⟨_, rfl⟩
  have hG9 : Below w.heap.size w v1 := by rw [← hv9]; go_grown
  have X_A : Blk v1 (w.heap.size) 23 [.int .u64 (limb a 0 : Int), .int .u64 (limb a 1 : Int), .int .u64 (limb a 2 : Int), .int .u64 (limb a 3 : Int)] := by rw [← hv9]; exact Blk.new rfl
  obtain ⟨bA, hb9⟩ : ∃ k, w.heap.size = k := ⟨_, rfl⟩
  rw [hb9] at X_A
  have g_bA : w.heap.size ≤ bA := by rw [← hb9]; exact BW.out.size
  replace T := hid (T.out.keep hG9)
  replace BW := hid (BW.out.trans (hG9.mono BW.out.size))
  clear hG9
  rw [hv9]
  try rw [hb9]
  clear hv9 hb9
  refine (lget_any b _ T.out).mono ?_
  rintro e v2 ⟨rfl, b9⟩
  replace X_A := X_A.keep b9
  replace T := hid (T.out.keep b9)
  replace BW := hid (BW.out.trans (b9.mono BW.out.size))
  clear b9
  have MOC := hid (fun W : World => rmod_any (fP b) a (fP_lt b) (by have := fP_two b; omega) ha W)
  have xlt : mulm (fP b) 1 a < fP b := mulm_lt _ _ (by have := fP_two b; omega)
  obtain ⟨x, hx⟩ : ∃ x, mulm (fP b) 1 a = x := ⟨_, rfl⟩
  rw [hx] at xlt MOC
  have HX := hid xlt
  clear xlt hx
  have FX := hid (fun (z : Nat) (hz : z < fP b) (W : World) => lform_any (fP b) z (fP_lt b) (by have := fP_two b; omega) (Nat.lt_trans hz (fP_lt b)) W)
  have PC := hid (fun (z e : Nat) (hz : z < fP b) (he : e < B256) (W : World) => pow_any (fID b) (fP b) (fI b) (fS b) z e (fOK b) hz he W)
  rw [← fO_eq b] at PC
  have IC := hid (fun (z : Nat) (hz : z < fP b) (W : World) => inverse_any (fID b) (fP b) (fI b) (fS b) z (fOK b) hz W)
  rw [← fO_eq b] at IC
  have VLC := hid (fun (z : Nat) (hz : z < fP b) (W : World) => rvalue_any (fP b) (frm (fP b) z) (fP_lt b) (fP_odd b) (fP_inv b) (frm_lt z (by have := fP_two b; omega)) W)
  have F1 := hid (FX.out x HX.out)
  have Q1 := hid (PC.out x (fP b - 1) HX.out (Nat.lt_of_le_of_lt (Nat.sub_le _ _) (fP_lt b)))
  have Q2 := hid (PC.out x (fP b) HX.out (fP_lt b))
  have hpp : powm (fP b) x (fP b) = x := by
    by_cases h0 : x = 0
    · rw [h0, powm_eq, Nat.zero_pow (by have := fP_two b; omega)]; exact Nat.zero_mod _
    · have e := powm_step HX.out (fP b - 1)
      rw [show fP b - 1 + 1 = fP b by have := fP_two b; omega] at e
      have f : powm (fP b) x (fP b - 1) = 1 := by rw [powm_eq]; exact (fer_b b).2 x (by omega) HX.out
      rw [← e, f, mulm_one' HX.out]
  rw [hpp] at Q2
  have HP1 : Hid (x ≠ 0 → powm (fP b) x (fP b - 1) = 1) := hid (fun h => by rw [powm_eq]; exact (fer_b b).2 x (by omega) HX.out)
  have HP0 : Hid (x = 0 → powm (fP b) x (fP b - 1) = 0) := hid (fun h => by rw [h, powm_eq, Nat.zero_pow (by have := fP_two b; omega)]; exact Nat.zero_mod _)
  have HFL : Hid (frm (fP b) x < B256) := hid (Nat.lt_trans (frm_lt x (by have := fP_two b; omega)) (fP_lt b))
  have HFZ : Hid (frm (fP b) x = 0 ↔ x = 0) := hid (frm_eq_zero (fP_inv b) HX.out)
  obtain ⟨d, hd⟩ : ∃ q, fP b - 1 = q := ⟨_, rfl⟩
  rw [hd] at Q1 HP1 HP0
  have HD := hid hd
  obtain ⟨r, hr⟩ : ∃ q, powm (fP b) x d = q := ⟨_, rfl⟩
  rw [hr] at Q1 HP1 HP0
  obtain ⟨fx, hfx⟩ : ∃ q, frm (fP b) x = q := ⟨_, rfl⟩
  have HFX := hid hfx
  rw [hfx] at F1 Q1 Q2 HFL HFZ
  obtain ⟨fr, hfr⟩ : ∃ q, frm (fP b) r = q := ⟨_, rfl⟩
  have HFR := hid hfr
  rw [hfr] at Q1
  clear hd hr hfx hfr hpp FX PC IC VLC
  have z_A := X_A.lt
  have c_A0 := X_A.cell (i := 0) rfl
  have c_A1 := X_A.cell (i := 1) rfl
  have c_A2 := X_A.cell (i := 2) rfl
  have c_A3 := X_A.cell (i := 3) rfl
  go_upto_region 2 with (fail)
  obtain ⟨v3, hv9⟩ : ∃ v, ((v2.alloc (.cells #[.int .i64 (fID b), .int .u64 (limb (fP b) 0 : Int), .int .u64 (limb (fP b) 1 : Int), .int .u64 (limb (fP b) 2 : Int), .int .u64 (limb (fP b) 3 : Int), .int .u64 (fI b : Int), .int .u64 (limb (fO b) 0 : Int), .int .u64 (limb (fO b) 1 : Int), .int .u64 (limb (fO b) 2 : Int), .int .u64 (limb (fO b) 3 : Int), .int .u64 (limb (fS b) 0 : Int), .int .u64 (limb (fS b) 1 : Int), .int .u64 (limb (fS b) 2 : Int), .int .u64 (limb (fS b) 3 : Int)] 26)).alloc (.cells #[.int .u64 (limb (fP b) 0 : Int), .int .u64 (limb (fP b) 1 : Int), .int .u64 (limb (fP b) 2 : Int), .int .u64 (limb (fP b) 3 : Int)] 23)) = v := ⟨_, rfl⟩
  have hG9 : Below v2.heap.size v2 v3 := by rw [← hv9]; go_grown
  have X_F : Blk v3 (v2.heap.size) 26 [.int .i64 (fID b), .int .u64 (limb (fP b) 0 : Int), .int .u64 (limb (fP b) 1 : Int), .int .u64 (limb (fP b) 2 : Int), .int .u64 (limb (fP b) 3 : Int), .int .u64 (fI b : Int), .int .u64 (limb (fO b) 0 : Int), .int .u64 (limb (fO b) 1 : Int), .int .u64 (limb (fO b) 2 : Int), .int .u64 (limb (fO b) 3 : Int), .int .u64 (limb (fS b) 0 : Int), .int .u64 (limb (fS b) 1 : Int), .int .u64 (limb (fS b) 2 : Int), .int .u64 (limb (fS b) 3 : Int)] := by rw [← hv9]; exact Blk.alloc (Blk.new rfl) _
  have X_P : Blk v3 (v2.heap.size + 1) 23 [.int .u64 (limb (fP b) 0 : Int), .int .u64 (limb (fP b) 1 : Int), .int .u64 (limb (fP b) 2 : Int), .int .u64 (limb (fP b) 3 : Int)] := by rw [← hv9]; exact Blk.new (by simp)
  obtain ⟨bF, hb9⟩ : ∃ k, v2.heap.size = k := ⟨_, rfl⟩
  rw [hb9] at X_F
  rw [hb9] at X_P
  have g_bF : w.heap.size ≤ bF := by rw [← hb9]; exact BW.out.size
  have q_A_bF : bA < bF := by rw [← hb9]; exact X_A.lt
  clear z_A c_A0 c_A1 c_A2 c_A3
  replace X_A := X_A.keep hG9
  replace T := hid (T.out.keep hG9)
  replace BW := hid (BW.out.trans (hG9.mono BW.out.size))
  clear hG9
  rw [hv9]
  try rw [hb9]
  clear hv9 hb9
  have z_F := X_F.lt
  have c_F0 := X_F.cell (i := 0) rfl
  have c_F1 := X_F.cell (i := 1) rfl
  have c_F2 := X_F.cell (i := 2) rfl
  have c_F3 := X_F.cell (i := 3) rfl
  have c_F4 := X_F.cell (i := 4) rfl
  have c_F5 := X_F.cell (i := 5) rfl
  have c_F6 := X_F.cell (i := 6) rfl
  have c_F7 := X_F.cell (i := 7) rfl
  have c_F8 := X_F.cell (i := 8) rfl
  have c_F9 := X_F.cell (i := 9) rfl
  have c_F10 := X_F.cell (i := 10) rfl
  have c_F11 := X_F.cell (i := 11) rfl
  have c_F12 := X_F.cell (i := 12) rfl
  have c_F13 := X_F.cell (i := 13) rfl
  have z_P := X_P.lt
  have c_P0 := X_P.cell (i := 0) rfl
  have c_P1 := X_P.cell (i := 1) rfl
  have c_P2 := X_P.cell (i := 2) rfl
  have c_P3 := X_P.cell (i := 3) rfl
  have z_A := X_A.lt
  have c_A0 := X_A.cell (i := 0) rfl
  have c_A1 := X_A.cell (i := 1) rfl
  have c_A2 := X_A.cell (i := 2) rfl
  have c_A3 := X_A.cell (i := 3) rfl
  go_cut [7] (fun t wx => ∃ br, t = .pointer (some ⟨br, 0, none⟩) ∧ Blk wx br 24 [.int .u64 (limb fx 0 : Int), .int .u64 (limb fx 1 : Int), .int .u64 (limb fx 2 : Int), .int .u64 (limb fx 3 : Int)] ∧ Below v3.heap.size v3 wx)
  case first =>
    go_region_held3 (fun w' => ∀ b o, b < v3.heap.size → w'.cell? ⟨b, o, none⟩ = v3.cell? ⟨b, o, none⟩) ((intro b o h; first | with_reducible exact c2 b o h | with_reducible exact c1 b o h | with_reducible exact cell_drew | with_reducible exact cell_drew.trans (cell_alloc h) | (with_reducible refine (cell_alloc (by (try simp); omega)).trans ?_; first | with_reducible exact c2 b o h | with_reducible exact c1 b o h | with_reducible exact cell_drew) | with_reducible exact (below_set4 H2.out (by omega) _ _ _ _).cell (p := ⟨b, o, none⟩) h | with_reducible exact (below_set4 H1.out (by omega) _ _ _ _).cell (p := ⟨b, o, none⟩) h)) (first | (go_at_call 19; refine (F1.out _).mono ?_; rintro e ra2 ⟨rfl, b9⟩; have H2 : Hid (Below v3.heap.size v3 ra2) := hid (by first | exact H1.out.trans (b9.mono H1.out.size) | exact (H1.out.alloc H1.out.size _).trans (b9.mono (by have := H1.out.size; simp; omega))); (first | (replace Z := Z.keep b9) | (have Z : Blk ra2 ra1.heap.size 24 [.int .u64 0, .int .u64 0, .int .u64 0, .int .u64 0] := Blk.keep (Blk.new rfl) b9) | skip); (try (have zz := Z.lt; have y0 := Z.cell (i := 0) rfl; have yf0 := Z.frozen 0; have y1 := Z.cell (i := 1) rfl; have yf1 := Z.frozen 1; have y2 := Z.cell (i := 2) rfl; have yf2 := Z.frozen 2; have y3 := Z.cell (i := 3) rfl; have yf3 := Z.frozen 3)); clear b9; have c2 := bcell H2.out; have z2 := H2.out.size) | (go_at_call 16; refine (MOC.out _).mono ?_; rintro e ra1 ⟨rfl, b9⟩; have H1 : Hid (Below v3.heap.size v3 ra1) := hid (by first | exact (Below.drew (Below.refl _ v3)).trans b9 | exact ((Below.drew (Below.refl _ v3)).alloc (Nat.le_refl _) _).trans (b9.mono (by simp)) | exact (Below.drew ((Below.refl _ v3).alloc (Nat.le_refl _) _)).trans (b9.mono (by simp))); (try (have Z : Blk ra1 v3.heap.size 24 [.int .u64 0, .int .u64 0, .int .u64 0, .int .u64 0] := (by first | exact Blk.keep (Blk.drew (Blk.new rfl)) b9 | exact Blk.keep (Blk.new rfl) b9))); clear b9; have c1 := bcell H1.out; have z1 := H1.out.size))
    all_goals (go_wp2_with (fail); go_meet)
    all_goals (refine ⟨_, rfl, ?_, ?_⟩)
    all_goals (first | with_reducible exact Z.set4 (.int .u64 (limb fx 0 : Int)) (.int .u64 (limb fx 1 : Int)) (.int .u64 (limb fx 2 : Int)) (.int .u64 (limb fx 3 : Int)) | with_reducible exact below_set4 H2.out (by omega) (.int .u64 (limb fx 0 : Int)) (.int .u64 (limb fx 1 : Int)) (.int .u64 (limb fx 2 : Int)) (.int .u64 (limb fx 3 : Int)) | with_reducible exact Blk.new rfl | with_reducible exact H2.out.alloc H2.out.size _)
  case rest =>
    obtain ⟨bU, rfl, hx9, hbel⟩ := hcut
    obtain ⟨wc1, hwc⟩ : ∃ v, wc = v := ⟨_, rfl⟩
    rw [hwc] at hx9 hbel ⊢
    clear hwc
    clear z_F c_F0 c_F1 c_F2 c_F3 c_F4 c_F5 c_F6 c_F7 c_F8 c_F9 c_F10 c_F11 c_F12 c_F13 z_P c_P0 c_P1 c_P2 c_P3 z_A c_A0 c_A1 c_A2 c_A3
    replace X_A := X_A.keep hbel
    replace X_F := X_F.keep hbel
    replace X_P := X_P.keep hbel
    replace T := hid (T.out.keep hbel)
    replace BW := hid (BW.out.trans (hbel.mono BW.out.size))
    clear hbel
    have X_U := hx9
    clear hx9
    have z_F := X_F.lt
    have c_F0 := X_F.cell (i := 0) rfl
    have c_F1 := X_F.cell (i := 1) rfl
    have c_F2 := X_F.cell (i := 2) rfl
    have c_F3 := X_F.cell (i := 3) rfl
    have c_F4 := X_F.cell (i := 4) rfl
    have c_F5 := X_F.cell (i := 5) rfl
    have c_F6 := X_F.cell (i := 6) rfl
    have c_F7 := X_F.cell (i := 7) rfl
    have c_F8 := X_F.cell (i := 8) rfl
    have c_F9 := X_F.cell (i := 9) rfl
    have c_F10 := X_F.cell (i := 10) rfl
    have c_F11 := X_F.cell (i := 11) rfl
    have c_F12 := X_F.cell (i := 12) rfl
    have c_F13 := X_F.cell (i := 13) rfl
    have z_P := X_P.lt
    have c_P0 := X_P.cell (i := 0) rfl
    have c_P1 := X_P.cell (i := 1) rfl
    have c_P2 := X_P.cell (i := 2) rfl
    have c_P3 := X_P.cell (i := 3) rfl
    have z_U := X_U.lt
    have c_U0 := X_U.cell (i := 0) rfl
    have c_U1 := X_U.cell (i := 1) rfl
    have c_U2 := X_U.cell (i := 2) rfl
    have c_U3 := X_U.cell (i := 3) rfl
    have hd0 := dec_limb0 (fP_odd b)
    rw [HD.out] at hd0
    have hm0 : (limb (fP b) 0 : Int) - 1 = (limb d 0 : Int) := by omega
    have hm1 : (1 : Int) ≤ (limb (fP b) 0 : Int) := by omega
    have hm2 : (limb (fP b) 0 : Int) ≤ 18446744073709551615 := by have := limb_lt (fP b) 0; unfold B64 at this; omega
    have e1 : limb (fP b) 1 = limb d 1 := by rw [← HD.out, dec_limb (fP_odd b) 1 (by omega)]
    have e2 : limb (fP b) 2 = limb d 2 := by rw [← HD.out, dec_limb (fP_odd b) 2 (by omega)]
    have e3 : limb (fP b) 3 = limb d 3 := by rw [← HD.out, dec_limb (fP_odd b) 3 (by omega)]
    have hv : vec d = .agg #[.int .u64 ((limb (fP b) 0 : Int) - 1), .int .u64 (limb (fP b) 1 : Int), .int .u64 (limb (fP b) 2 : Int), .int .u64 (limb (fP b) 3 : Int)] := by
      show Value.agg #[.int .u64 (limb d 0 : Int), .int .u64 (limb d 1 : Int), .int .u64 (limb d 2 : Int), .int .u64 (limb d 3 : Int)] = _
      rw [hm0, e1, e2, e3]
    rw [hv] at Q1
    clear hd0 hm0 e1 e2 e3 hv
    go_wp2_with fail
    obtain ⟨v4, hv9⟩ : ∃ v, (wc1.alloc (.cells #[.int .u64 ((limb (fP b) 0 : Int) - 1), .int .u64 (limb (fP b) 1 : Int), .int .u64 (limb (fP b) 2 : Int), .int .u64 (limb (fP b) 3 : Int)] 23)) = v := ⟨_, rfl⟩
    have hG9 : Below wc1.heap.size wc1 v4 := by rw [← hv9]; go_grown
    have X_E : Blk v4 (wc1.heap.size) 23 [.int .u64 ((limb (fP b) 0 : Int) - 1), .int .u64 (limb (fP b) 1 : Int), .int .u64 (limb (fP b) 2 : Int), .int .u64 (limb (fP b) 3 : Int)] := by rw [← hv9]; exact Blk.new rfl
    obtain ⟨bE, hb9⟩ : ∃ k, wc1.heap.size = k := ⟨_, rfl⟩
    rw [hb9] at X_E
    have g_bE : w.heap.size ≤ bE := by rw [← hb9]; exact BW.out.size
    have q_A_bE : bA < bE := by rw [← hb9]; exact X_A.lt
    have q_F_bE : bF < bE := by rw [← hb9]; exact X_F.lt
    have q_P_bE : bF + 1 < bE := by rw [← hb9]; exact X_P.lt
    have q_U_bE : bU < bE := by rw [← hb9]; exact X_U.lt
    clear z_F c_F0 c_F1 c_F2 c_F3 c_F4 c_F5 c_F6 c_F7 c_F8 c_F9 c_F10 c_F11 c_F12 c_F13 z_P c_P0 c_P1 c_P2 c_P3 z_U c_U0 c_U1 c_U2 c_U3
    replace X_A := X_A.keep hG9
    replace X_F := X_F.keep hG9
    replace X_P := X_P.keep hG9
    replace X_U := X_U.keep hG9
    replace T := hid (T.out.keep hG9)
    replace BW := hid (BW.out.trans (hG9.mono BW.out.size))
    clear hG9
    rw [hv9]
    try rw [hb9]
    clear hv9 hb9
    refine (Q1.out _).mono ?_
    rintro e v5 ⟨rfl, b9⟩
    replace X_A := X_A.keep b9
    replace X_F := X_F.keep b9
    replace X_P := X_P.keep b9
    replace X_U := X_U.keep b9
    replace X_E := X_E.keep b9
    replace T := hid (T.out.keep b9)
    replace BW := hid (BW.out.trans (b9.mono BW.out.size))
    clear b9
    go_wp2_with fail
    obtain ⟨v6, hv9⟩ : ∃ v, (v5.alloc (.cells #[.int .u64 (limb fr 0 : Int), .int .u64 (limb fr 1 : Int), .int .u64 (limb fr 2 : Int), .int .u64 (limb fr 3 : Int)] 24)) = v := ⟨_, rfl⟩
    have hG9 : Below v5.heap.size v5 v6 := by rw [← hv9]; go_grown
    have X_O : Blk v6 (v5.heap.size) 24 [.int .u64 (limb fr 0 : Int), .int .u64 (limb fr 1 : Int), .int .u64 (limb fr 2 : Int), .int .u64 (limb fr 3 : Int)] := by rw [← hv9]; exact Blk.new rfl
    obtain ⟨bO, hb9⟩ : ∃ k, v5.heap.size = k := ⟨_, rfl⟩
    rw [hb9] at X_O
    have g_bO : w.heap.size ≤ bO := by rw [← hb9]; exact BW.out.size
    have q_A_bO : bA < bO := by rw [← hb9]; exact X_A.lt
    have q_F_bO : bF < bO := by rw [← hb9]; exact X_F.lt
    have q_P_bO : bF + 1 < bO := by rw [← hb9]; exact X_P.lt
    have q_U_bO : bU < bO := by rw [← hb9]; exact X_U.lt
    have q_E_bO : bE < bO := by rw [← hb9]; exact X_E.lt
    replace X_A := X_A.keep hG9
    replace X_F := X_F.keep hG9
    replace X_P := X_P.keep hG9
    replace X_U := X_U.keep hG9
    replace X_E := X_E.keep hG9
    replace T := hid (T.out.keep hG9)
    replace BW := hid (BW.out.trans (hG9.mono BW.out.size))
    clear hG9
    rw [hv9]
    try rw [hb9]
    clear hv9 hb9
    clear hm1 hm2
    by_cases hx0 : x = 0
    · skip
      have h1 : fx = 0 := HFZ.out.2 hx0
      have h2 : fr = 0 := by rw [← HFR.out, HP0.out hx0, frm_zero]
      clear HFX HFR HP0 HP1 HFZ
      subst h1 h2
      have hz := eqz_el (a := 0) (by decide)
      simp only [decide_true] at hz
      have heq := fun W : World => eq_same_el (limb 0 0 : Int) (limb 0 1 : Int) (limb 0 2 : Int) (limb 0 3 : Int) W
      have ALC := hid (fun (W : World) (h : Tab W) => alive_any W h)
      have z_F := X_F.lt
      have c_F0 := X_F.cell (i := 0) rfl
      have c_F1 := X_F.cell (i := 1) rfl
      have c_F2 := X_F.cell (i := 2) rfl
      have c_F3 := X_F.cell (i := 3) rfl
      have c_F4 := X_F.cell (i := 4) rfl
      have c_F5 := X_F.cell (i := 5) rfl
      have c_F6 := X_F.cell (i := 6) rfl
      have c_F7 := X_F.cell (i := 7) rfl
      have c_F8 := X_F.cell (i := 8) rfl
      have c_F9 := X_F.cell (i := 9) rfl
      have c_F10 := X_F.cell (i := 10) rfl
      have c_F11 := X_F.cell (i := 11) rfl
      have c_F12 := X_F.cell (i := 12) rfl
      have c_F13 := X_F.cell (i := 13) rfl
      have z_P := X_P.lt
      have c_P0 := X_P.cell (i := 0) rfl
      have c_P1 := X_P.cell (i := 1) rfl
      have c_P2 := X_P.cell (i := 2) rfl
      have c_P3 := X_P.cell (i := 3) rfl
      have z_U := X_U.lt
      have c_U0 := X_U.cell (i := 0) rfl
      have c_U1 := X_U.cell (i := 1) rfl
      have c_U2 := X_U.cell (i := 2) rfl
      have c_U3 := X_U.cell (i := 3) rfl
      have z_O := X_O.lt
      have c_O0 := X_O.cell (i := 0) rfl
      have c_O1 := X_O.cell (i := 1) rfl
      have c_O2 := X_O.cell (i := 2) rfl
      have c_O3 := X_O.cell (i := 3) rfl
      go_wp2_with fail
      refine wp_region_soft (C := fun W' => Below v6.heap.size v6 W') 25 (by kernel_rfl) (by kernel_rfl) ((Below.refl _ _).drew) ?_
      simp only [List.take_succ_cons, List.take_zero, List.drop_succ_cons, List.drop_zero]
      refine wpQuiet_step (fun K hK => ?_)
      rw [if_pos (by rfl)]
      refine ⟨.bool true, fun W' hW => ?_, hK _ ?_⟩
      · go_simp
        refine (ALC.out _ (T.out.below hW (Nat.le_refl _))).mono ?_
        rintro e w' ⟨rfl, b⟩
        exact ⟨rfl, hW.trans (b.mono hW.size)⟩
      clear hK K
      simp only [Act.put, List.setIfInBounds_toArray, List.set_cons_zero, List.set_cons_succ]
      refine wpQuiet_step (fun K hK => ?_)
      rw [if_pos (by rfl)]
      refine ⟨.bool true, fun W' hW => ?_, hK _ ?_⟩
      · go_simp
      clear hK K
      simp only [Act.put, List.setIfInBounds_toArray, List.set_cons_zero, List.set_cons_succ]
      refine wpQuiet_step (fun K hK => ?_)
      rw [if_pos (by rfl)]
      refine ⟨fld (fID b) (fP b) (fI b) (fO b) (fS b), fun W' hW => ?_, hK _ ?_⟩
      · have e_0 := (hW.cell (p := ⟨bF, 0, none⟩) z_F).trans c_F0
        have e_1 := (hW.cell (p := ⟨bF, 1, none⟩) z_F).trans c_F1
        have e_2 := (hW.cell (p := ⟨bF, 2, none⟩) z_F).trans c_F2
        have e_3 := (hW.cell (p := ⟨bF, 3, none⟩) z_F).trans c_F3
        have e_4 := (hW.cell (p := ⟨bF, 4, none⟩) z_F).trans c_F4
        have e_5 := (hW.cell (p := ⟨bF, 5, none⟩) z_F).trans c_F5
        have e_6 := (hW.cell (p := ⟨bF, 6, none⟩) z_F).trans c_F6
        have e_7 := (hW.cell (p := ⟨bF, 7, none⟩) z_F).trans c_F7
        have e_8 := (hW.cell (p := ⟨bF, 8, none⟩) z_F).trans c_F8
        have e_9 := (hW.cell (p := ⟨bF, 9, none⟩) z_F).trans c_F9
        have e_10 := (hW.cell (p := ⟨bF, 10, none⟩) z_F).trans c_F10
        have e_11 := (hW.cell (p := ⟨bF, 11, none⟩) z_F).trans c_F11
        have e_12 := (hW.cell (p := ⟨bF, 12, none⟩) z_F).trans c_F12
        have e_13 := (hW.cell (p := ⟨bF, 13, none⟩) z_F).trans c_F13
        go_simp
      clear hK K
      simp only [Act.put, List.setIfInBounds_toArray, List.set_cons_zero, List.set_cons_succ]
      refine wpQuiet_step (fun K hK => ?_)
      rw [if_pos (by rfl)]
      refine ⟨vec 0, fun W' hW => ?_, hK _ ?_⟩
      · have e_0 := (hW.cell (p := ⟨bU, 0, none⟩) z_U).trans c_U0
        have e_1 := (hW.cell (p := ⟨bU, 1, none⟩) z_U).trans c_U1
        have e_2 := (hW.cell (p := ⟨bU, 2, none⟩) z_U).trans c_U2
        have e_3 := (hW.cell (p := ⟨bU, 3, none⟩) z_U).trans c_U3
        go_simp
      clear hK K
      simp only [Act.put, List.setIfInBounds_toArray, List.set_cons_zero, List.set_cons_succ]
      refine wpQuiet_step (fun K hK => ?_)
      rw [if_pos (by rfl)]
      refine ⟨vec (fP b), fun W' hW => ?_, hK _ ?_⟩
      · have e_0 := (hW.cell (p := ⟨bF + 1, 0, none⟩) z_P).trans c_P0
        have e_1 := (hW.cell (p := ⟨bF + 1, 1, none⟩) z_P).trans c_P1
        have e_2 := (hW.cell (p := ⟨bF + 1, 2, none⟩) z_P).trans c_P2
        have e_3 := (hW.cell (p := ⟨bF + 1, 3, none⟩) z_P).trans c_P3
        go_simp
      clear hK K
      simp only [Act.put, List.setIfInBounds_toArray, List.set_cons_zero, List.set_cons_succ]
      refine wpQuiet_step (fun K hK => ?_)
      rw [if_pos (by rfl)]
      refine ⟨vec 0, fun W' hW => ?_, hK _ ?_⟩
      · go_simp
        refine (Q2.out _).mono ?_
        rintro e w' ⟨rfl, b⟩
        exact ⟨rfl, hW.trans (b.mono hW.size)⟩
      clear hK K
      simp only [Act.put, List.setIfInBounds_toArray, List.set_cons_zero, List.set_cons_succ]
      refine wpQuiet_step (fun K hK => ?_)
      rw [if_pos (by rfl)]
      refine ⟨vec 0, fun W' hW => ?_, hK _ ?_⟩
      · have e_0 := (hW.cell (p := ⟨bU, 0, none⟩) z_U).trans c_U0
        have e_1 := (hW.cell (p := ⟨bU, 1, none⟩) z_U).trans c_U1
        have e_2 := (hW.cell (p := ⟨bU, 2, none⟩) z_U).trans c_U2
        have e_3 := (hW.cell (p := ⟨bU, 3, none⟩) z_U).trans c_U3
        go_simp
      clear hK K
      simp only [Act.put, List.setIfInBounds_toArray, List.set_cons_zero, List.set_cons_succ]
      refine wpQuiet_step (fun K hK => ?_)
      rw [if_pos (by rfl)]
      refine ⟨.bool true, fun W' hW => ?_, hK _ ?_⟩
      · go_simp
      clear hK K
      simp only [Act.put, List.setIfInBounds_toArray, List.set_cons_zero, List.set_cons_succ]
      refine wpQuiet_step (fun K hK => ?_)
      rw [if_pos (by rfl)]
      refine ⟨.bool true, fun W' hW => ?_, hK _ ?_⟩
      · go_simp
      clear hK K
      simp only [Act.put, List.setIfInBounds_toArray, List.set_cons_zero, List.set_cons_succ]
      refine wpQuiet_step (fun K hK => ?_)
      rw [if_pos (by rfl)]
      refine ⟨.bool true, fun W' hW => ?_, hK _ ?_⟩
      · go_simp
      clear hK K
      simp only [Act.put, List.setIfInBounds_toArray, List.set_cons_zero, List.set_cons_succ]
      refine wpQuiet_step (fun K hK => ?_)
      rw [if_pos (by rfl)]
      refine ⟨vec 0, fun W' hW => ?_, hK _ ?_⟩
      · have e_0 := (hW.cell (p := ⟨bU, 0, none⟩) z_U).trans c_U0
        have e_1 := (hW.cell (p := ⟨bU, 1, none⟩) z_U).trans c_U1
        have e_2 := (hW.cell (p := ⟨bU, 2, none⟩) z_U).trans c_U2
        have e_3 := (hW.cell (p := ⟨bU, 3, none⟩) z_U).trans c_U3
        go_simp
      clear hK K
      simp only [Act.put, List.setIfInBounds_toArray, List.set_cons_zero, List.set_cons_succ]
      refine wpQuiet_step (fun K hK => ?_)
      rw [if_pos (by rfl)]
      refine ⟨.agg #[.int .u64 0, .int .u64 0, .int .u64 0, .int .u64 0], fun W' hW => ?_, hK _ ?_⟩
      · go_simp
      clear hK K
      simp only [Act.put, List.setIfInBounds_toArray, List.set_cons_zero, List.set_cons_succ]
      refine wpQuiet_step (fun K hK => ?_)
      rw [if_pos (by rfl)]
      refine ⟨.bool true, fun W' hW => ?_, hK _ ?_⟩
      · go_simp
      clear hK K
      simp only [Act.put, List.setIfInBounds_toArray, List.set_cons_zero, List.set_cons_succ]
      refine wpQuiet_step (fun K hK => ?_)
      rw [if_pos (by rfl)]
      refine ⟨.bool true, fun W' hW => ?_, hK _ ?_⟩
      · go_simp
      clear hK K
      simp only [Act.put, List.setIfInBounds_toArray, List.set_cons_zero, List.set_cons_succ]
      refine wpQuiet_step (fun K hK => ?_)
      rw [if_pos (by rfl)]
      refine ⟨vec 0, fun W' hW => ?_, hK _ ?_⟩
      · have e_0 := (hW.cell (p := ⟨bO, 0, none⟩) z_O).trans c_O0
        have e_1 := (hW.cell (p := ⟨bO, 1, none⟩) z_O).trans c_O1
        have e_2 := (hW.cell (p := ⟨bO, 2, none⟩) z_O).trans c_O2
        have e_3 := (hW.cell (p := ⟨bO, 3, none⟩) z_O).trans c_O3
        go_simp
      clear hK K
      simp only [Act.put, List.setIfInBounds_toArray, List.set_cons_zero, List.set_cons_succ]
      refine wpQuiet_step (fun K hK => ?_)
      rw [if_pos (by rfl)]
      refine ⟨vec 0, fun W' hW => ?_, hK _ ?_⟩
      · have e_0 := (hW.cell (p := ⟨bU, 0, none⟩) z_U).trans c_U0
        have e_1 := (hW.cell (p := ⟨bU, 1, none⟩) z_U).trans c_U1
        have e_2 := (hW.cell (p := ⟨bU, 2, none⟩) z_U).trans c_U2
        have e_3 := (hW.cell (p := ⟨bU, 3, none⟩) z_U).trans c_U3
        go_simp
      clear hK K
      simp only [Act.put, List.setIfInBounds_toArray, List.set_cons_zero, List.set_cons_succ]
      refine wpQuiet_step (fun K hK => ?_)
      rw [if_pos (by rfl)]
      refine ⟨.bool true, fun W' hW => ?_, hK _ ?_⟩
      · go_simp
      clear hK K
      simp only [Act.put, List.setIfInBounds_toArray, List.set_cons_zero, List.set_cons_succ]
      refine wpQuiet_step (fun K hK => ?_)
      rw [if_pos (by rfl)]
      refine ⟨.bool true, fun W' hW => ?_, hK _ ?_⟩
      · go_simp
      clear hK K
      simp only [Act.put, List.setIfInBounds_toArray, List.set_cons_zero, List.set_cons_succ]
      refine wpQuiet_step (fun K hK => ?_)
      rw [if_pos (by rfl)]
      refine ⟨.bool true, fun W' hW => ?_, hK _ ?_⟩
      · go_simp
      clear hK K
      simp only [Act.put, List.setIfInBounds_toArray, List.set_cons_zero, List.set_cons_succ]
      refine wpQuiet_step (fun K hK => ?_)
      rw [if_neg (Bool.eq_false_iff.1 (by rfl))]
      refine hK _ ?_
      clear hK K
      simp only [Act.put, List.setIfInBounds_toArray, List.set_cons_zero, List.set_cons_succ]
      refine wpQuiet_step (fun K hK => ?_)
      rw [if_neg (Bool.eq_false_iff.1 (by rfl))]
      refine hK _ ?_
      clear hK K
      simp only [Act.put, List.setIfInBounds_toArray, List.set_cons_zero, List.set_cons_succ]
      refine wpQuiet_step (fun K hK => ?_)
      rw [if_neg (Bool.eq_false_iff.1 (by rfl))]
      refine hK _ ?_
      clear hK K
      simp only [Act.put, List.setIfInBounds_toArray, List.set_cons_zero, List.set_cons_succ]
      refine wpQuiet_step (fun K hK => ?_)
      rw [if_neg (Bool.eq_false_iff.1 (by rfl))]
      refine hK _ ?_
      clear hK K
      simp only [Act.put, List.setIfInBounds_toArray, List.set_cons_zero, List.set_cons_succ]
      refine wpQuiet_step (fun K hK => ?_)
      rw [if_pos (by rfl)]
      refine ⟨.bool true, fun W' hW => ?_, hK _ ?_⟩
      · go_simp
      clear hK K
      simp only [Act.put, List.setIfInBounds_toArray, List.set_cons_zero, List.set_cons_succ]
      refine wpQuiet_step (fun K hK => ?_)
      rw [if_pos (by rfl)]
      refine ⟨.bool true, fun W' hW => ?_, hK _ ?_⟩
      · go_simp
      clear hK K
      simp only [Act.put, List.setIfInBounds_toArray, List.set_cons_zero, List.set_cons_succ]
      refine wpQuiet_nil ?_
      intro ws1 hW9
      clear z_F c_F0 c_F1 c_F2 c_F3 c_F4 c_F5 c_F6 c_F7 c_F8 c_F9 c_F10 c_F11 c_F12 c_F13 z_P c_P0 c_P1 c_P2 c_P3 z_U c_U0 c_U1 c_U2 c_U3 z_O c_O0 c_O1 c_O2 c_O3
      replace X_A := X_A.keep hW9
      replace X_F := X_F.keep hW9
      replace X_P := X_P.keep hW9
      replace X_U := X_U.keep hW9
      replace X_E := X_E.keep hW9
      replace X_O := X_O.keep hW9
      replace T := hid (T.out.keep hW9)
      replace BW := hid (BW.out.trans (hW9.mono BW.out.size))
      clear hW9
      go_wp2
      go_ret
      exact ⟨rfl, BW.out⟩
    · skip
      have h1 : fx ≠ 0 := fun e => hx0 (HFZ.out.1 e)
      have h2 : fr = fO b := by rw [← HFR.out, HP1.out hx0, fO_eq]
      clear HFX HFR HP0 HP1 HFZ
      subst h2
      have hz := eqz_el (a := fx) HFL.out
      simp only [h1, decide_false] at hz
      have heq := fun W : World => eq_same_el (limb fx 0 : Int) (limb fx 1 : Int) (limb fx 2 : Int) (limb fx 3 : Int) W
      have heq2 := fun W : World => eq_same_el (limb (fO b) 0 : Int) (limb (fO b) 1 : Int) (limb (fO b) 2 : Int) (limb (fO b) 3 : Int) W
      clear h1 hx0
      have ALC := hid (fun (W : World) (h : Tab W) => alive_any W h)
      have z_F := X_F.lt
      have c_F0 := X_F.cell (i := 0) rfl
      have c_F1 := X_F.cell (i := 1) rfl
      have c_F2 := X_F.cell (i := 2) rfl
      have c_F3 := X_F.cell (i := 3) rfl
      have c_F4 := X_F.cell (i := 4) rfl
      have c_F5 := X_F.cell (i := 5) rfl
      have c_F6 := X_F.cell (i := 6) rfl
      have c_F7 := X_F.cell (i := 7) rfl
      have c_F8 := X_F.cell (i := 8) rfl
      have c_F9 := X_F.cell (i := 9) rfl
      have c_F10 := X_F.cell (i := 10) rfl
      have c_F11 := X_F.cell (i := 11) rfl
      have c_F12 := X_F.cell (i := 12) rfl
      have c_F13 := X_F.cell (i := 13) rfl
      have z_P := X_P.lt
      have c_P0 := X_P.cell (i := 0) rfl
      have c_P1 := X_P.cell (i := 1) rfl
      have c_P2 := X_P.cell (i := 2) rfl
      have c_P3 := X_P.cell (i := 3) rfl
      have z_U := X_U.lt
      have c_U0 := X_U.cell (i := 0) rfl
      have c_U1 := X_U.cell (i := 1) rfl
      have c_U2 := X_U.cell (i := 2) rfl
      have c_U3 := X_U.cell (i := 3) rfl
      have z_O := X_O.lt
      have c_O0 := X_O.cell (i := 0) rfl
      have c_O1 := X_O.cell (i := 1) rfl
      have c_O2 := X_O.cell (i := 2) rfl
      have c_O3 := X_O.cell (i := 3) rfl
      go_wp2_with fail
      refine wp_region_soft (C := fun W' => Below v6.heap.size v6 W') 25 (by kernel_rfl) (by kernel_rfl) ((Below.refl _ _).drew) ?_
      simp only [List.take_succ_cons, List.take_zero, List.drop_succ_cons, List.drop_zero]
      refine wpQuiet_step (fun K hK => ?_)
      rw [if_pos (by rfl)]
      refine ⟨.bool true, fun W' hW => ?_, hK _ ?_⟩
      · go_simp
        refine (ALC.out _ (T.out.below hW (Nat.le_refl _))).mono ?_
        rintro e w' ⟨rfl, b⟩
        exact ⟨rfl, hW.trans (b.mono hW.size)⟩
      clear hK K
      simp only [Act.put, List.setIfInBounds_toArray, List.set_cons_zero, List.set_cons_succ]
      refine wpQuiet_step (fun K hK => ?_)
      rw [if_pos (by rfl)]
      refine ⟨.bool true, fun W' hW => ?_, hK _ ?_⟩
      · go_simp
      clear hK K
      simp only [Act.put, List.setIfInBounds_toArray, List.set_cons_zero, List.set_cons_succ]
      refine wpQuiet_step (fun K hK => ?_)
      rw [if_pos (by rfl)]
      refine ⟨fld (fID b) (fP b) (fI b) (fO b) (fS b), fun W' hW => ?_, hK _ ?_⟩
      · have e_0 := (hW.cell (p := ⟨bF, 0, none⟩) z_F).trans c_F0
        have e_1 := (hW.cell (p := ⟨bF, 1, none⟩) z_F).trans c_F1
        have e_2 := (hW.cell (p := ⟨bF, 2, none⟩) z_F).trans c_F2
        have e_3 := (hW.cell (p := ⟨bF, 3, none⟩) z_F).trans c_F3
        have e_4 := (hW.cell (p := ⟨bF, 4, none⟩) z_F).trans c_F4
        have e_5 := (hW.cell (p := ⟨bF, 5, none⟩) z_F).trans c_F5
        have e_6 := (hW.cell (p := ⟨bF, 6, none⟩) z_F).trans c_F6
        have e_7 := (hW.cell (p := ⟨bF, 7, none⟩) z_F).trans c_F7
        have e_8 := (hW.cell (p := ⟨bF, 8, none⟩) z_F).trans c_F8
        have e_9 := (hW.cell (p := ⟨bF, 9, none⟩) z_F).trans c_F9
        have e_10 := (hW.cell (p := ⟨bF, 10, none⟩) z_F).trans c_F10
        have e_11 := (hW.cell (p := ⟨bF, 11, none⟩) z_F).trans c_F11
        have e_12 := (hW.cell (p := ⟨bF, 12, none⟩) z_F).trans c_F12
        have e_13 := (hW.cell (p := ⟨bF, 13, none⟩) z_F).trans c_F13
        go_simp
      clear hK K
      simp only [Act.put, List.setIfInBounds_toArray, List.set_cons_zero, List.set_cons_succ]
      refine wpQuiet_step (fun K hK => ?_)
      rw [if_pos (by rfl)]
      refine ⟨vec fx, fun W' hW => ?_, hK _ ?_⟩
      · have e_0 := (hW.cell (p := ⟨bU, 0, none⟩) z_U).trans c_U0
        have e_1 := (hW.cell (p := ⟨bU, 1, none⟩) z_U).trans c_U1
        have e_2 := (hW.cell (p := ⟨bU, 2, none⟩) z_U).trans c_U2
        have e_3 := (hW.cell (p := ⟨bU, 3, none⟩) z_U).trans c_U3
        go_simp
      clear hK K
      simp only [Act.put, List.setIfInBounds_toArray, List.set_cons_zero, List.set_cons_succ]
      refine wpQuiet_step (fun K hK => ?_)
      rw [if_pos (by rfl)]
      refine ⟨vec (fP b), fun W' hW => ?_, hK _ ?_⟩
      · have e_0 := (hW.cell (p := ⟨bF + 1, 0, none⟩) z_P).trans c_P0
        have e_1 := (hW.cell (p := ⟨bF + 1, 1, none⟩) z_P).trans c_P1
        have e_2 := (hW.cell (p := ⟨bF + 1, 2, none⟩) z_P).trans c_P2
        have e_3 := (hW.cell (p := ⟨bF + 1, 3, none⟩) z_P).trans c_P3
        go_simp
      clear hK K
      simp only [Act.put, List.setIfInBounds_toArray, List.set_cons_zero, List.set_cons_succ]
      refine wpQuiet_step (fun K hK => ?_)
      rw [if_pos (by rfl)]
      refine ⟨vec fx, fun W' hW => ?_, hK _ ?_⟩
      · go_simp
        refine (Q2.out _).mono ?_
        rintro e w' ⟨rfl, b⟩
        exact ⟨rfl, hW.trans (b.mono hW.size)⟩
      clear hK K
      simp only [Act.put, List.setIfInBounds_toArray, List.set_cons_zero, List.set_cons_succ]
      refine wpQuiet_step (fun K hK => ?_)
      rw [if_pos (by rfl)]
      refine ⟨vec fx, fun W' hW => ?_, hK _ ?_⟩
      · have e_0 := (hW.cell (p := ⟨bU, 0, none⟩) z_U).trans c_U0
        have e_1 := (hW.cell (p := ⟨bU, 1, none⟩) z_U).trans c_U1
        have e_2 := (hW.cell (p := ⟨bU, 2, none⟩) z_U).trans c_U2
        have e_3 := (hW.cell (p := ⟨bU, 3, none⟩) z_U).trans c_U3
        go_simp
      clear hK K
      simp only [Act.put, List.setIfInBounds_toArray, List.set_cons_zero, List.set_cons_succ]
      refine wpQuiet_step (fun K hK => ?_)
      rw [if_pos (by rfl)]
      refine ⟨.bool true, fun W' hW => ?_, hK _ ?_⟩
      · go_simp
      clear hK K
      simp only [Act.put, List.setIfInBounds_toArray, List.set_cons_zero, List.set_cons_succ]
      refine wpQuiet_step (fun K hK => ?_)
      rw [if_pos (by rfl)]
      refine ⟨.bool true, fun W' hW => ?_, hK _ ?_⟩
      · go_simp
      clear hK K
      simp only [Act.put, List.setIfInBounds_toArray, List.set_cons_zero, List.set_cons_succ]
      refine wpQuiet_step (fun K hK => ?_)
      rw [if_pos (by rfl)]
      refine ⟨.bool true, fun W' hW => ?_, hK _ ?_⟩
      · go_simp
      clear hK K
      simp only [Act.put, List.setIfInBounds_toArray, List.set_cons_zero, List.set_cons_succ]
      refine wpQuiet_step (fun K hK => ?_)
      rw [if_pos (by rfl)]
      refine ⟨vec fx, fun W' hW => ?_, hK _ ?_⟩
      · have e_0 := (hW.cell (p := ⟨bU, 0, none⟩) z_U).trans c_U0
        have e_1 := (hW.cell (p := ⟨bU, 1, none⟩) z_U).trans c_U1
        have e_2 := (hW.cell (p := ⟨bU, 2, none⟩) z_U).trans c_U2
        have e_3 := (hW.cell (p := ⟨bU, 3, none⟩) z_U).trans c_U3
        go_simp
      clear hK K
      simp only [Act.put, List.setIfInBounds_toArray, List.set_cons_zero, List.set_cons_succ]
      refine wpQuiet_step (fun K hK => ?_)
      rw [if_pos (by rfl)]
      refine ⟨.agg #[.int .u64 0, .int .u64 0, .int .u64 0, .int .u64 0], fun W' hW => ?_, hK _ ?_⟩
      · go_simp
      clear hK K
      simp only [Act.put, List.setIfInBounds_toArray, List.set_cons_zero, List.set_cons_succ]
      refine wpQuiet_step (fun K hK => ?_)
      rw [if_pos (by rfl)]
      refine ⟨.bool false, fun W' hW => ?_, hK _ ?_⟩
      · go_simp
      clear hK K
      simp only [Act.put, List.setIfInBounds_toArray, List.set_cons_zero, List.set_cons_succ]
      refine wpQuiet_step (fun K hK => ?_)
      rw [if_pos (by rfl)]
      refine ⟨.bool false, fun W' hW => ?_, hK _ ?_⟩
      · go_simp
      clear hK K
      simp only [Act.put, List.setIfInBounds_toArray, List.set_cons_zero, List.set_cons_succ]
      refine wpQuiet_step (fun K hK => ?_)
      rw [if_neg (Bool.eq_false_iff.1 (by rfl))]
      refine hK _ ?_
      clear hK K
      simp only [Act.put, List.setIfInBounds_toArray, List.set_cons_zero, List.set_cons_succ]
      refine wpQuiet_step (fun K hK => ?_)
      rw [if_neg (Bool.eq_false_iff.1 (by rfl))]
      refine hK _ ?_
      clear hK K
      simp only [Act.put, List.setIfInBounds_toArray, List.set_cons_zero, List.set_cons_succ]
      refine wpQuiet_step (fun K hK => ?_)
      rw [if_neg (Bool.eq_false_iff.1 (by rfl))]
      refine hK _ ?_
      clear hK K
      simp only [Act.put, List.setIfInBounds_toArray, List.set_cons_zero, List.set_cons_succ]
      refine wpQuiet_step (fun K hK => ?_)
      rw [if_pos (by rfl)]
      refine ⟨.bool false, fun W' hW => ?_, hK _ ?_⟩
      · go_simp
      clear hK K
      simp only [Act.put, List.setIfInBounds_toArray, List.set_cons_zero, List.set_cons_succ]
      refine wpQuiet_step (fun K hK => ?_)
      rw [if_pos (by rfl)]
      refine ⟨.bool false, fun W' hW => ?_, hK _ ?_⟩
      · go_simp
      clear hK K
      simp only [Act.put, List.setIfInBounds_toArray, List.set_cons_zero, List.set_cons_succ]
      refine wpQuiet_step (fun K hK => ?_)
      rw [if_pos (by rfl)]
      refine ⟨vec (fO b), fun W' hW => ?_, hK _ ?_⟩
      · have e_0 := (hW.cell (p := ⟨bO, 0, none⟩) z_O).trans c_O0
        have e_1 := (hW.cell (p := ⟨bO, 1, none⟩) z_O).trans c_O1
        have e_2 := (hW.cell (p := ⟨bO, 2, none⟩) z_O).trans c_O2
        have e_3 := (hW.cell (p := ⟨bO, 3, none⟩) z_O).trans c_O3
        go_simp
      clear hK K
      simp only [Act.put, List.setIfInBounds_toArray, List.set_cons_zero, List.set_cons_succ]
      refine wpQuiet_step (fun K hK => ?_)
      rw [if_pos (by rfl)]
      refine ⟨.pointer (some ⟨bF, 6, none⟩), fun W' hW => ?_, hK _ ?_⟩
      · go_simp
      clear hK K
      simp only [Act.put, List.setIfInBounds_toArray, List.set_cons_zero, List.set_cons_succ]
      refine wpQuiet_step (fun K hK => ?_)
      rw [if_pos (by rfl)]
      refine ⟨vec (fO b), fun W' hW => ?_, hK _ ?_⟩
      · have e_6 := (hW.cell (p := ⟨bF, 6, none⟩) z_F).trans c_F6
        have e_7 := (hW.cell (p := ⟨bF, 7, none⟩) z_F).trans c_F7
        have e_8 := (hW.cell (p := ⟨bF, 8, none⟩) z_F).trans c_F8
        have e_9 := (hW.cell (p := ⟨bF, 9, none⟩) z_F).trans c_F9
        go_simp
      clear hK K
      simp only [Act.put, List.setIfInBounds_toArray, List.set_cons_zero, List.set_cons_succ]
      refine wpQuiet_step (fun K hK => ?_)
      rw [if_pos (by rfl)]
      refine ⟨.bool true, fun W' hW => ?_, hK _ ?_⟩
      · go_simp
      clear hK K
      simp only [Act.put, List.setIfInBounds_toArray, List.set_cons_zero, List.set_cons_succ]
      refine wpQuiet_step (fun K hK => ?_)
      rw [if_pos (by rfl)]
      refine ⟨.bool true, fun W' hW => ?_, hK _ ?_⟩
      · go_simp
      clear hK K
      simp only [Act.put, List.setIfInBounds_toArray, List.set_cons_zero, List.set_cons_succ]
      refine wpQuiet_step (fun K hK => ?_)
      rw [if_pos (by rfl)]
      refine ⟨.bool true, fun W' hW => ?_, hK _ ?_⟩
      · go_simp
      clear hK K
      simp only [Act.put, List.setIfInBounds_toArray, List.set_cons_zero, List.set_cons_succ]
      refine wpQuiet_nil ?_
      intro ws2 hW9
      clear z_F c_F0 c_F1 c_F2 c_F3 c_F4 c_F5 c_F6 c_F7 c_F8 c_F9 c_F10 c_F11 c_F12 c_F13 z_P c_P0 c_P1 c_P2 c_P3 z_U c_U0 c_U1 c_U2 c_U3 z_O c_O0 c_O1 c_O2 c_O3
      replace X_A := X_A.keep hW9
      replace X_F := X_F.keep hW9
      replace X_P := X_P.keep hW9
      replace X_U := X_U.keep hW9
      replace X_E := X_E.keep hW9
      replace X_O := X_O.keep hW9
      replace T := hid (T.out.keep hW9)
      replace BW := hid (BW.out.trans (hW9.mono BW.out.size))
      clear hW9
      go_wp2
      go_ret
      exact ⟨rfl, BW.out⟩
end Go.Proofs.YtedkdcdfehhhpaaDoor
