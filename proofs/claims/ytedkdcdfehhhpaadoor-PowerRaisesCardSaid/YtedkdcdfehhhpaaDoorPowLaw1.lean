/-
  PowerRaises: Pow returns the same element as the reference.
-/
import Derived.Test.YtedkdcdfehhhpaaDoorAlive06
import Derived.Deep.RegionHeld3
import Derived.Deep.DeepCutAuto
namespace Go.Proofs.YtedkdcdfehhhpaaDoor
open Go.RowKit

set_option maxRecDepth 100000 in
set_option maxHeartbeats 4000000 in
theorem raises_law (b : Bool) (a e : Nat) (w : World) (hT : Tab w) (ha : a < B256) (he : e < B256) :
    Calls Tryd.prog 3 #[.bool b, vec a, vec e] w (Ret (.bool true) w) := by
  have BW := hid (Below.refl w.heap.size w)
  have T := hid hT
  clear hT
  go_enter Tryd.func3, Tryd.ntmps3
  go_wp2_with fail
  obtain ⟨v1, hv9⟩ : ∃ v, ((w.alloc (.cells #[.int .u64 (limb a 0 : Int), .int .u64 (limb a 1 : Int), .int .u64 (limb a 2 : Int), .int .u64 (limb a 3 : Int)] 23)).alloc (.cells #[.int .u64 (limb e 0 : Int), .int .u64 (limb e 1 : Int), .int .u64 (limb e 2 : Int), .int .u64 (limb e 3 : Int)] 23)) = v := ⟨_, rfl⟩
  have hG9 : Below w.heap.size w v1 := by rw [← hv9]; go_grown
  have X_A : Blk v1 (w.heap.size) 23 [.int .u64 (limb a 0 : Int), .int .u64 (limb a 1 : Int), .int .u64 (limb a 2 : Int), .int .u64 (limb a 3 : Int)] := by rw [← hv9]; exact Blk.alloc (Blk.new rfl) _
  have X_E : Blk v1 (w.heap.size + 1) 23 [.int .u64 (limb e 0 : Int), .int .u64 (limb e 1 : Int), .int .u64 (limb e 2 : Int), .int .u64 (limb e 3 : Int)] := by rw [← hv9]; exact Blk.new (by simp)
  obtain ⟨bA, hb9⟩ : ∃ k, w.heap.size = k := ⟨_, rfl⟩
  rw [hb9] at X_A
  rw [hb9] at X_E
  have g_bA : w.heap.size ≤ bA := by rw [← hb9]; exact BW.out.size
  replace T := hid (T.out.keep hG9)
  replace BW := hid (BW.out.trans (hG9.mono BW.out.size))
  clear hG9
  rw [hv9]
  try rw [hb9]
  clear hv9 hb9
  refine (lget_any b _ T.out).mono ?_
  rintro e v2 ⟨rfl, b9⟩
  replace X_A := X_A.keep b9
  replace X_E := X_E.keep b9
  replace T := hid (T.out.keep b9)
  replace BW := hid (BW.out.trans (b9.mono BW.out.size))
  clear b9
  have z_A := X_A.lt
  have c_A0 := X_A.cell (i := 0) rfl
  have c_A1 := X_A.cell (i := 1) rfl
  have c_A2 := X_A.cell (i := 2) rfl
  have c_A3 := X_A.cell (i := 3) rfl
  go_wp2_with fail
  obtain ⟨v3, hv9⟩ : ∃ v, ((v2.alloc (.cells #[.int .i64 (fID b), .int .u64 (limb (fP b) 0 : Int), .int .u64 (limb (fP b) 1 : Int), .int .u64 (limb (fP b) 2 : Int), .int .u64 (limb (fP b) 3 : Int), .int .u64 (fI b : Int), .int .u64 (limb (fO b) 0 : Int), .int .u64 (limb (fO b) 1 : Int), .int .u64 (limb (fO b) 2 : Int), .int .u64 (limb (fO b) 3 : Int), .int .u64 (limb (fS b) 0 : Int), .int .u64 (limb (fS b) 1 : Int), .int .u64 (limb (fS b) 2 : Int), .int .u64 (limb (fS b) 3 : Int)] 26)).alloc (.cells #[.int .u64 (limb (fP b) 0 : Int), .int .u64 (limb (fP b) 1 : Int), .int .u64 (limb (fP b) 2 : Int), .int .u64 (limb (fP b) 3 : Int)] 23)) = v := ⟨_, rfl⟩
  have hG9 : Below v2.heap.size v2 v3 := by rw [← hv9]; go_grown
  have X_F : Blk v3 (v2.heap.size) 26 [.int .i64 (fID b), .int .u64 (limb (fP b) 0 : Int), .int .u64 (limb (fP b) 1 : Int), .int .u64 (limb (fP b) 2 : Int), .int .u64 (limb (fP b) 3 : Int), .int .u64 (fI b : Int), .int .u64 (limb (fO b) 0 : Int), .int .u64 (limb (fO b) 1 : Int), .int .u64 (limb (fO b) 2 : Int), .int .u64 (limb (fO b) 3 : Int), .int .u64 (limb (fS b) 0 : Int), .int .u64 (limb (fS b) 1 : Int), .int .u64 (limb (fS b) 2 : Int), .int .u64 (limb (fS b) 3 : Int)] := by rw [← hv9]; exact Blk.alloc (Blk.new rfl) _
  have X_P : Blk v3 (v2.heap.size + 1) 23 [.int .u64 (limb (fP b) 0 : Int), .int .u64 (limb (fP b) 1 : Int), .int .u64 (limb (fP b) 2 : Int), .int .u64 (limb (fP b) 3 : Int)] := by rw [← hv9]; exact Blk.new (by simp)
  obtain ⟨bF, hb9⟩ : ∃ k, v2.heap.size = k := ⟨_, rfl⟩
  rw [hb9] at X_F
  rw [hb9] at X_P
  have g_bF : w.heap.size ≤ bF := by rw [← hb9]; exact BW.out.size
  have q_A_bF : bA < bF := by rw [← hb9]; exact X_A.lt
  have q_E_bF : bA + 1 < bF := by rw [← hb9]; exact X_E.lt
  clear z_A c_A0 c_A1 c_A2 c_A3
  replace X_A := X_A.keep hG9
  replace X_E := X_E.keep hG9
  replace T := hid (T.out.keep hG9)
  replace BW := hid (BW.out.trans (hG9.mono BW.out.size))
  clear hG9
  rw [hv9]
  try rw [hb9]
  clear hv9 hb9
  refine (rmod_any (fP b) a (fP_lt b) (by have := fP_two b; omega) ha _).mono ?_
  rintro e v4 ⟨rfl, b9⟩
  replace X_A := X_A.keep b9
  replace X_E := X_E.keep b9
  replace X_F := X_F.keep b9
  replace X_P := X_P.keep b9
  replace T := hid (T.out.keep b9)
  replace BW := hid (BW.out.trans (b9.mono BW.out.size))
  clear b9
  have xlt : mulm (fP b) 1 a < fP b := mulm_lt _ _ (by have := fP_two b; omega)
  obtain ⟨x, hx⟩ : ∃ x, mulm (fP b) 1 a = x := ⟨_, rfl⟩
  rw [hx] at xlt ⊢
  have HX := hid xlt
  clear xlt hx
  have FX := hid (fun (z : Nat) (hz : z < fP b) (W : World) => lform_any (fP b) z (fP_lt b) (by have := fP_two b; omega) (Nat.lt_trans hz (fP_lt b)) W)
  have PC := hid (fun (z e : Nat) (hz : z < fP b) (he : e < B256) (W : World) => pow_any (fID b) (fP b) (fI b) (fS b) z e (fOK b) hz he W)
  rw [← fO_eq b] at PC
  have IC := hid (fun (z : Nat) (hz : z < fP b) (W : World) => inverse_any (fID b) (fP b) (fI b) (fS b) z (fOK b) hz W)
  rw [← fO_eq b] at IC
  have VLC := hid (fun (z : Nat) (hz : z < fP b) (W : World) => rvalue_any (fP b) (frm (fP b) z) (fP_lt b) (fP_odd b) (fP_inv b) (frm_lt z (by have := fP_two b; omega)) W)
  have F1 := hid (FX.out x HX.out)
  have P1c := hid (PC.out x e HX.out he)
  have RC := hid (fun W : World => rpow_any (fP b) x e (fP_lt b) (by have := fP_two b; omega) HX.out he W)
  have F2 := hid (FX.out (powm (fP b) x e) (powm_lt _ _ (by have := fP_two b; omega)))
  obtain ⟨r, hr⟩ : ∃ r, powm (fP b) x e = r := ⟨_, rfl⟩
  rw [hr] at P1c RC F2
  obtain ⟨fx, hfx⟩ : ∃ q, frm (fP b) x = q := ⟨_, rfl⟩
  rw [hfx] at F1 P1c
  obtain ⟨fr, hfr⟩ : ∃ q, frm (fP b) r = q := ⟨_, rfl⟩
  rw [hfr] at P1c F2
  clear hr hfx hfr FX PC IC VLC
  have heq := fun W : World => eq_same_el (limb fr 0 : Int) (limb fr 1 : Int) (limb fr 2 : Int) (limb fr 3 : Int) W
  go_wp2_with fail
  obtain ⟨v5, hv9⟩ : ∃ v, (v4.alloc (.cells #[.int .u64 (limb x 0 : Int), .int .u64 (limb x 1 : Int), .int .u64 (limb x 2 : Int), .int .u64 (limb x 3 : Int)] 23)) = v := ⟨_, rfl⟩
  have hG9 : Below v4.heap.size v4 v5 := by rw [← hv9]; go_grown
  have X_X : Blk v5 (v4.heap.size) 23 [.int .u64 (limb x 0 : Int), .int .u64 (limb x 1 : Int), .int .u64 (limb x 2 : Int), .int .u64 (limb x 3 : Int)] := by rw [← hv9]; exact Blk.new rfl
  obtain ⟨bX, hb9⟩ : ∃ k, v4.heap.size = k := ⟨_, rfl⟩
  rw [hb9] at X_X
  have g_bX : w.heap.size ≤ bX := by rw [← hb9]; exact BW.out.size
  have q_A_bX : bA < bX := by rw [← hb9]; exact X_A.lt
  have q_E_bX : bA + 1 < bX := by rw [← hb9]; exact X_E.lt
  have q_F_bX : bF < bX := by rw [← hb9]; exact X_F.lt
  have q_P_bX : bF + 1 < bX := by rw [← hb9]; exact X_P.lt
  replace X_A := X_A.keep hG9
  replace X_E := X_E.keep hG9
  replace X_F := X_F.keep hG9
  replace X_P := X_P.keep hG9
  replace T := hid (T.out.keep hG9)
  replace BW := hid (BW.out.trans (hG9.mono BW.out.size))
  clear hG9
  rw [hv9]
  try rw [hb9]
  clear hv9 hb9
  have z_F := X_F.lt
  have c_F0 := X_F.cell (i := 0) rfl
  have c_F1 := X_F.cell (i := 1) rfl
  have c_F2 := X_F.cell (i := 2) rfl
  have c_F3 := X_F.cell (i := 3) rfl
  have c_F4 := X_F.cell (i := 4) rfl
  have c_F5 := X_F.cell (i := 5) rfl
  have c_F6 := X_F.cell (i := 6) rfl
  have c_F7 := X_F.cell (i := 7) rfl
  have c_F8 := X_F.cell (i := 8) rfl
  have c_F9 := X_F.cell (i := 9) rfl
  have c_F10 := X_F.cell (i := 10) rfl
  have c_F11 := X_F.cell (i := 11) rfl
  have c_F12 := X_F.cell (i := 12) rfl
  have c_F13 := X_F.cell (i := 13) rfl
  have z_P := X_P.lt
  have c_P0 := X_P.cell (i := 0) rfl
  have c_P1 := X_P.cell (i := 1) rfl
  have c_P2 := X_P.cell (i := 2) rfl
  have c_P3 := X_P.cell (i := 3) rfl
  have z_X := X_X.lt
  have c_X0 := X_X.cell (i := 0) rfl
  have c_X1 := X_X.cell (i := 1) rfl
  have c_X2 := X_X.cell (i := 2) rfl
  have c_X3 := X_X.cell (i := 3) rfl
  have z_E := X_E.lt
  have c_E0 := X_E.cell (i := 0) rfl
  have c_E1 := X_E.cell (i := 1) rfl
  have c_E2 := X_E.cell (i := 2) rfl
  have c_E3 := X_E.cell (i := 3) rfl
  go_wp2_with fail
  go_region_held3 (fun w' => ∀ b o, b < v5.heap.size → w'.cell? ⟨b, o, none⟩ = v5.cell? ⟨b, o, none⟩) ((intro b o h; first | with_reducible exact c5 b o h | with_reducible exact c4 b o h | with_reducible exact c3 b o h | with_reducible exact c2 b o h | with_reducible exact c1 b o h | with_reducible exact cell_drew | with_reducible exact cell_drew.trans (cell_alloc h) | (with_reducible refine (cell_alloc (by (try simp); omega)).trans ?_; first | with_reducible exact c5 b o h | with_reducible exact c4 b o h | with_reducible exact c3 b o h | with_reducible exact c2 b o h | with_reducible exact c1 b o h | with_reducible exact cell_drew) | with_reducible exact (below_set4 H5.out (by omega) _ _ _ _).cell (p := ⟨b, o, none⟩) h | with_reducible exact (below_set4 H4.out (by omega) _ _ _ _).cell (p := ⟨b, o, none⟩) h | with_reducible exact (below_set4 H3.out (by omega) _ _ _ _).cell (p := ⟨b, o, none⟩) h | with_reducible exact (below_set4 H2.out (by omega) _ _ _ _).cell (p := ⟨b, o, none⟩) h | with_reducible exact (below_set4 H1.out (by omega) _ _ _ _).cell (p := ⟨b, o, none⟩) h)) (first | (go_at_call 19; refine (F2.out _).mono ?_; rintro e ra5 ⟨rfl, b9⟩; have H5 : Hid (Below v5.heap.size v5 ra5) := hid H4.out.trans (b9.mono H4.out.size); clear b9; have c5 := bcell H5.out; have z5 := H5.out.size) | (go_at_call 20; refine (RC.out _).mono ?_; rintro e ra4 ⟨rfl, b9⟩; have H4 : Hid (Below v5.heap.size v5 ra4) := hid H3.out.trans (b9.mono H3.out.size); clear b9; have c4 := bcell H4.out; have z4 := H4.out.size) | (go_at_call 18; refine (P1c.out _).mono ?_; rintro e ra3 ⟨rfl, b9⟩; have H3 : Hid (Below v5.heap.size v5 ra3) := hid H2.out.trans (b9.mono H2.out.size); clear b9; have c3 := bcell H3.out; have z3 := H3.out.size) | (go_at_call 19; refine (F1.out _).mono ?_; rintro e ra2 ⟨rfl, b9⟩; have H2 : Hid (Below v5.heap.size v5 ra2) := hid H1.out.trans (b9.mono H1.out.size); clear b9; have c2 := bcell H2.out; have z2 := H2.out.size) | (go_at_call 17; refine (alive_any v5.drew T.out).mono ?_; rintro e ra1 ⟨rfl, b9⟩; have H1 : Hid (Below v5.heap.size v5 ra1) := hid (Below.drew (Below.refl _ v5)).trans b9; clear b9; have c1 := bcell H1.out; have z1 := H1.out.size))
  have hH9 := H5.out
  clear z_F c_F0 c_F1 c_F2 c_F3 c_F4 c_F5 c_F6 c_F7 c_F8 c_F9 c_F10 c_F11 c_F12 c_F13 z_P c_P0 c_P1 c_P2 c_P3 z_X c_X0 c_X1 c_X2 c_X3 z_E c_E0 c_E1 c_E2 c_E3
  replace X_A := X_A.keep hH9
  replace X_E := X_E.keep hH9
  replace X_F := X_F.keep hH9
  replace X_P := X_P.keep hH9
  replace X_X := X_X.keep hH9
  replace T := hid (T.out.keep hH9)
  replace BW := hid (BW.out.trans (hH9.mono BW.out.size))
  clear hH9
  clear H1 c1 z1 H2 c2 z2 H3 c3 z3 H4 c4 z4 H5 c5 z5
  go_wp2
  go_ret
  exact ⟨rfl, BW.out⟩
end Go.Proofs.YtedkdcdfehhhpaaDoor
