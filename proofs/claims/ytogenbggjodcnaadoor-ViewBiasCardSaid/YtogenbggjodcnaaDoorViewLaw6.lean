/-
  ViewBias: the Bias of each field is 2^512 modulo its modulus, and less than the modulus.
-/
import Derived.Test.YtogenbggjodcnaaDoorAlive22
import Derived.Test.YtogenbggjodcnaaDoorRShf22
import Derived.Deep.RegionHeld3
namespace Go.Proofs.YtogenbggjodcnaaDoor
open Go.RowKit

attribute [local go_sem] Oper.semAt_some
theorem sq22 (b : Bool) : mulm (fP b) (powm (fP b) 2 256) (powm (fP b) 2 256) = fS b := by
  cases b
  · show mulm P1 (powm P1 2 256) (powm P1 2 256) = S1
    rw [radix_P1, square_P1]
  · show mulm P2 (powm P2 2 256) (powm P2 2 256) = S2
    rw [radix_P2, square_P2]
set_option maxRecDepth 100000 in
set_option maxHeartbeats 4000000 in
theorem vbias_law (b : Bool) (w : World) (hT : Tab w) :
    Calls Tryd.prog 13 #[.bool b] w (Ret (.bool true) w) := by
  have BW := hid (Below.refl w.heap.size w)
  have T := hid hT
  clear hT
  have hp2 := fP_two b
  have hpb := fP_lt b
  have RDC := hid (fun W : World => rradix_any (fP b) hpb (by omega) W)
  have BC := hid (fun W : World => bias_any b W)
  have hrl : powm (fP b) 2 256 < fP b := powm_lt _ _ (by omega)
  have MLC := hid (fun W : World => rmul_any (fP b) (powm (fP b) 2 256) (powm (fP b) 2 256) hpb hrl (Nat.lt_trans hrl hpb) W)
  rw [sq22] at MLC
  have hsl : fS b < fP b := fS_lt9 b
  have CNC : ∀ W : World, Calls Tryd.prog 55 #[FV b, vec (fS b)] W (Ret (.int .u64 18446744073709551615) W) := fun W => by
    have h := contains_any (fP b) (fS b) hpb (Nat.lt_trans hsl hpb) (id := fID b) (i := (fI b : Int)) (o0 := (limb (fO b) 0 : Int)) (o1 := (limb (fO b) 1 : Int)) (o2 := (limb (fO b) 2 : Int)) (o3 := (limb (fO b) 3 : Int)) (s0 := (limb (fS b) 0 : Int)) (s1 := (limb (fS b) 1 : Int)) (s2 := (limb (fS b) 2 : Int)) (s3 := (limb (fS b) 3 : Int)) W
    rw [brw_eq, if_pos hsl, msk_eq, if_pos (show 1 % 2 = 1 by decide)] at h
    exact h
  have CN := hid CNC
  have EQV := fun W : World => eq_same_v22 (limb (fS b) 0 : Int) (limb (fS b) 1 : Int) (limb (fS b) 2 : Int) (limb (fS b) 3 : Int) W
  obtain ⟨rv, hrv⟩ : ∃ z, powm (fP b) 2 256 = z := ⟨_, rfl⟩
  rw [hrv] at RDC MLC
  clear CNC hrl hsl hrv
  go_enter Tryd.func13, Tryd.ntmps13
  go_wp2_with fail
  refine (get22_any b _ T.out).mono ?_
  rintro e v1 ⟨rfl, b9⟩
  replace T := hid (T.out.keep b9)
  replace BW := hid (BW.out.trans (b9.mono BW.out.size))
  clear b9
  go_wp2_with fail
  obtain ⟨v2, hv9⟩ : ∃ v, ((v1.alloc (.cells #[.int .i64 (fID b), .int .u64 (limb (fP b) 0 : Int), .int .u64 (limb (fP b) 1 : Int), .int .u64 (limb (fP b) 2 : Int), .int .u64 (limb (fP b) 3 : Int), .int .u64 (fI b : Int), .int .u64 (limb (fO b) 0 : Int), .int .u64 (limb (fO b) 1 : Int), .int .u64 (limb (fO b) 2 : Int), .int .u64 (limb (fO b) 3 : Int), .int .u64 (limb (fS b) 0 : Int), .int .u64 (limb (fS b) 1 : Int), .int .u64 (limb (fS b) 2 : Int), .int .u64 (limb (fS b) 3 : Int)] 31)).alloc (.cells #[.int .u64 (limb (fP b) 0 : Int), .int .u64 (limb (fP b) 1 : Int), .int .u64 (limb (fP b) 2 : Int), .int .u64 (limb (fP b) 3 : Int)] 28)) = v := ⟨_, rfl⟩
  have hG9 : Below v1.heap.size v1 v2 := by rw [← hv9]; go_grown
  have X_F : Blk v2 (v1.heap.size) 31 [.int .i64 (fID b), .int .u64 (limb (fP b) 0 : Int), .int .u64 (limb (fP b) 1 : Int), .int .u64 (limb (fP b) 2 : Int), .int .u64 (limb (fP b) 3 : Int), .int .u64 (fI b : Int), .int .u64 (limb (fO b) 0 : Int), .int .u64 (limb (fO b) 1 : Int), .int .u64 (limb (fO b) 2 : Int), .int .u64 (limb (fO b) 3 : Int), .int .u64 (limb (fS b) 0 : Int), .int .u64 (limb (fS b) 1 : Int), .int .u64 (limb (fS b) 2 : Int), .int .u64 (limb (fS b) 3 : Int)] := by rw [← hv9]; exact Blk.alloc (Blk.new rfl) _
  have X_P : Blk v2 (v1.heap.size + 1) 28 [.int .u64 (limb (fP b) 0 : Int), .int .u64 (limb (fP b) 1 : Int), .int .u64 (limb (fP b) 2 : Int), .int .u64 (limb (fP b) 3 : Int)] := by rw [← hv9]; exact Blk.new (by simp)
  obtain ⟨bF, hb9⟩ : ∃ k, v1.heap.size = k := ⟨_, rfl⟩
  rw [hb9] at X_F
  rw [hb9] at X_P
  have g_bF : w.heap.size ≤ bF := by rw [← hb9]; exact BW.out.size
  replace T := hid (T.out.keep hG9)
  replace BW := hid (BW.out.trans (hG9.mono BW.out.size))
  clear hG9
  rw [hv9]
  try rw [hb9]
  clear hv9 hb9
  refine (RDC.out _).mono ?_
  rintro e v3 ⟨rfl, b9⟩
  replace X_F := X_F.keep b9
  replace X_P := X_P.keep b9
  replace T := hid (T.out.keep b9)
  replace BW := hid (BW.out.trans (b9.mono BW.out.size))
  clear b9
  go_upto_region 3 with (fail)
  obtain ⟨v4, hv9⟩ : ∃ v, (v3.alloc (.cells #[.int .u64 (limb rv 0 : Int), .int .u64 (limb rv 1 : Int), .int .u64 (limb rv 2 : Int), .int .u64 (limb rv 3 : Int)] 28)) = v := ⟨_, rfl⟩
  have hG9 : Below v3.heap.size v3 v4 := by rw [← hv9]; go_grown
  have X_R : Blk v4 (v3.heap.size) 28 [.int .u64 (limb rv 0 : Int), .int .u64 (limb rv 1 : Int), .int .u64 (limb rv 2 : Int), .int .u64 (limb rv 3 : Int)] := by rw [← hv9]; exact Blk.new rfl
  obtain ⟨bR, hb9⟩ : ∃ k, v3.heap.size = k := ⟨_, rfl⟩
  rw [hb9] at X_R
  have g_bR : w.heap.size ≤ bR := by rw [← hb9]; exact BW.out.size
  have q_F_bR : bF < bR := by rw [← hb9]; exact X_F.lt
  have q_P_bR : bF + 1 < bR := by rw [← hb9]; exact X_P.lt
  replace X_F := X_F.keep hG9
  replace X_P := X_P.keep hG9
  replace T := hid (T.out.keep hG9)
  replace BW := hid (BW.out.trans (hG9.mono BW.out.size))
  clear hG9
  rw [hv9]
  try rw [hb9]
  clear hv9 hb9
  have z_F := X_F.lt
  have c_F0 := X_F.cell (i := 0) rfl
  have c_F1 := X_F.cell (i := 1) rfl
  have c_F2 := X_F.cell (i := 2) rfl
  have c_F3 := X_F.cell (i := 3) rfl
  have c_F4 := X_F.cell (i := 4) rfl
  have c_F5 := X_F.cell (i := 5) rfl
  have c_F6 := X_F.cell (i := 6) rfl
  have c_F7 := X_F.cell (i := 7) rfl
  have c_F8 := X_F.cell (i := 8) rfl
  have c_F9 := X_F.cell (i := 9) rfl
  have c_F10 := X_F.cell (i := 10) rfl
  have c_F11 := X_F.cell (i := 11) rfl
  have c_F12 := X_F.cell (i := 12) rfl
  have c_F13 := X_F.cell (i := 13) rfl
  have z_P := X_P.lt
  have c_P0 := X_P.cell (i := 0) rfl
  have c_P1 := X_P.cell (i := 1) rfl
  have c_P2 := X_P.cell (i := 2) rfl
  have c_P3 := X_P.cell (i := 3) rfl
  have z_R := X_R.lt
  have c_R0 := X_R.cell (i := 0) rfl
  have c_R1 := X_R.cell (i := 1) rfl
  have c_R2 := X_R.cell (i := 2) rfl
  have c_R3 := X_R.cell (i := 3) rfl
  go_wp2_with fail
  go_region_held3 (fun w' => ∀ b o, b < v4.heap.size → w'.cell? ⟨b, o, none⟩ = v4.cell? ⟨b, o, none⟩) ((intro b o h; first | with_reducible exact c5 b o h | with_reducible exact c4 b o h | with_reducible exact c3 b o h | with_reducible exact c2 b o h | with_reducible exact c1 b o h | with_reducible exact cell_drew | with_reducible exact cell_drew.trans (cell_alloc h) | (with_reducible refine (cell_alloc (by (try simp); omega)).trans ?_; first | with_reducible exact c5 b o h | with_reducible exact c4 b o h | with_reducible exact c3 b o h | with_reducible exact c2 b o h | with_reducible exact c1 b o h | with_reducible exact cell_drew) | with_reducible exact (below_set4 H5.out (by omega) _ _ _ _).cell (p := ⟨b, o, none⟩) h | with_reducible exact (below_set4 H4.out (by omega) _ _ _ _).cell (p := ⟨b, o, none⟩) h | with_reducible exact (below_set4 H3.out (by omega) _ _ _ _).cell (p := ⟨b, o, none⟩) h | with_reducible exact (below_set4 H2.out (by omega) _ _ _ _).cell (p := ⟨b, o, none⟩) h | with_reducible exact (below_set4 H1.out (by omega) _ _ _ _).cell (p := ⟨b, o, none⟩) h)) (first | (go_at_call 55; refine (CN.out _).mono ?_; rintro e ra5 ⟨rfl, b9⟩; have H5 : Hid (Below v4.heap.size v4 ra5) := hid H4.out.trans (b9.mono H4.out.size); clear b9; have c5 := bcell H5.out; have z5 := H5.out.size) | (go_at_call 53; refine (BC.out ra3).mono ?_; rintro e ra4 ⟨rfl, b9⟩; have H4 : Hid (Below v4.heap.size v4 ra4) := hid H3.out.trans (b9.mono H3.out.size); clear b9; have c4 := bcell H4.out; have z4 := H4.out.size) | (go_at_call 54; refine (MLC.out _).mono ?_; rintro e ra3 ⟨rfl, b9⟩; have H3 : Hid (Below v4.heap.size v4 ra3) := hid H2.out.trans (b9.mono H2.out.size); clear b9; have c3 := bcell H3.out; have z3 := H3.out.size) | (go_at_call 53; refine (BC.out ra1).mono ?_; rintro e ra2 ⟨rfl, b9⟩; have H2 : Hid (Below v4.heap.size v4 ra2) := hid H1.out.trans (b9.mono H1.out.size); clear b9; have c2 := bcell H2.out; have z2 := H2.out.size) | (go_at_call 35; refine (alive22_any _ (T.out.keep (by first | with_reducible exact Below.drew (Below.refl _ _) | with_reducible exact Below.drew ((Below.refl _ _).alloc (Nat.le_refl _) _)))).mono ?_; rintro e ra1 ⟨rfl, b9⟩; have H1 : Hid (Below v4.heap.size v4 ra1) := hid (Below.drew (Below.refl _ v4)).trans b9; clear b9; have c1 := bcell H1.out; have z1 := H1.out.size))
  have hH9 := H5.out
  clear z_F c_F0 c_F1 c_F2 c_F3 c_F4 c_F5 c_F6 c_F7 c_F8 c_F9 c_F10 c_F11 c_F12 c_F13 z_P c_P0 c_P1 c_P2 c_P3 z_R c_R0 c_R1 c_R2 c_R3
  replace X_F := X_F.keep hH9
  replace X_P := X_P.keep hH9
  replace X_R := X_R.keep hH9
  replace T := hid (T.out.keep hH9)
  replace BW := hid (BW.out.trans (hH9.mono BW.out.size))
  clear hH9
  clear H1 c1 z1 H2 c2 z2 H3 c3 z3 H4 c4 z4 H5 c5 z5
  go_wp2
  go_ret
  exact ⟨rfl, BW.out⟩
end Go.Proofs.YtogenbggjodcnaaDoor
