/-
  Differences and negations of elements; the element of a point.
-/
import Derived.Test.YthdjjogdjabflaaDoorMont
import Derived.Test.YthdjjogdjabflaaDoorLimbs
import Derived.Test.YthdjjogdjabflaaDoorBase
import Derived.Test.YthdjjogdjabflaaDoorRefV
import Derived.Test.YthdjjogdjabflaaDoorLags
import Derived.Test.YthdjjogdjabflaaDoorPlainN
import Derived.Test.YthdjjogdjabflaaDoorKit
namespace Go.Proofs.YthdjjogdjabflaaDoor
open Go.RowKit

attribute [local go_sem] Oper.semAt_some
theorem pick_sub {m a b : Nat} (hm : m < B256) (ha : a < m) (hb : b < m) : pick (msk (brw a b)) (sum (dif a b) m) (dif a b) = subm m a b := by
  rw [pick_eq, msk_mod, brw_eq]
  by_cases h : a < b
  · rw [if_pos h, if_pos rfl, subm_brw hm ha hb h]
  · rw [if_neg h, if_neg (by decide), subm_nob hm ha hb h]
theorem fS_eq9 (s : Bool) : fS s = B256 * B256 % fP s := by
  have h : ∀ p o q : Nat, powm p 2 256 = o → mulm p o o = q → q = B256 * B256 % p := fun p o q h1 h2 => by
    rw [← h2, ← h1, mulm_eq, powm_eq, ← Nat.mul_mod]; rfl
  cases s
  · exact h P1 O1 S1 radix_P1 square_P1
  · exact h P2 O2 S2 radix_P2 square_P2
theorem fS_lt9 (s : Bool) : fS s < fP s := by rw [fS_eq9]; exact Nat.mod_lt _ (by have := fP_two s; omega)
theorem mont_S9 (s : Bool) (v : Nat) : mont (fP s) v (fS s) = frm (fP s) v := by
  have hr := rinv_eq (fP_inv s)
  rw [mont_eq, frm_eq, fS_eq9]
  generalize fP s = m at *
  generalize rinv m = r at *
  have e1 : v * (B256 * B256 % m) * r % m = v * (B256 * B256) * r % m := by
    rw [← Nat.mod_mul_mod, Nat.mul_mod_mod, Nat.mod_mul_mod]
  have e2 : v * (B256 * B256) * r = (B256 * v) * (B256 * r) := by
    rw [Nat.mul_assoc v, Nat.mul_assoc B256 B256, Nat.mul_left_comm v B256, Nat.mul_assoc B256 v]
  rw [e1, e2, Nat.mul_mod, hr, Nat.mul_one, Nat.mod_mod]
set_option maxRecDepth 100000 in
set_option maxHeartbeats 2000000 in
theorem msub_any (b : Bool) (x y : Nat) (hx : x < fP b) (hy : y < fP b) (w : World) :
    Calls Tryd.prog 41 #[FV b, vec x, vec y] w (Ret (vec (subm (fP b) x y)) w) := by
  have BW := hid (Below.refl w.heap.size w)
  have hp := fP_lt b
  have HP := hid (pick_sub hp hx hy)
  have M1 := hid (fun W : World => lsub_any x y (by omega) (by omega) W)
  have M2 := hid (fun W : World => ladd_any (dif x y) (fP b) (dif_lt _ _) hp W)
  have M3 := hid (fun W : World => (fromBit_any (brw x y) (by rw [brw_eq]; unfold B64; split <;> omega) W).mono (R' := Ret (.int .u64 (msk (brw x y) : Int)) W) (by rintro e w' ⟨rfl, rfl⟩; exact ⟨rfl, Below.refl _ _⟩))
  have M4 := hid (fun W : World => lchoose_any (msk (brw x y)) (sum (dif x y) (fP b)) (dif x y) (msk_lt _) W)
  rw [HP.out] at M4
  clear HP hp
  go_enter Tryd.func41, Tryd.ntmps41
  go_wp2_with fail
  obtain ⟨v1, hv9⟩ : ∃ v, ((((w.alloc (.cells #[.int .i64 (fID b), .int .u64 (limb (fP b) 0 : Int), .int .u64 (limb (fP b) 1 : Int), .int .u64 (limb (fP b) 2 : Int), .int .u64 (limb (fP b) 3 : Int), .int .u64 (fI b : Int), .int .u64 (limb (fO b) 0 : Int), .int .u64 (limb (fO b) 1 : Int), .int .u64 (limb (fO b) 2 : Int), .int .u64 (limb (fO b) 3 : Int), .int .u64 (limb (fS b) 0 : Int), .int .u64 (limb (fS b) 1 : Int), .int .u64 (limb (fS b) 2 : Int), .int .u64 (limb (fS b) 3 : Int)] 32)).alloc (.cells #[.int .u64 (limb x 0 : Int), .int .u64 (limb x 1 : Int), .int .u64 (limb x 2 : Int), .int .u64 (limb x 3 : Int)] 30)).alloc (.cells #[.int .u64 (limb y 0 : Int), .int .u64 (limb y 1 : Int), .int .u64 (limb y 2 : Int), .int .u64 (limb y 3 : Int)] 30)).alloc (.cells #[.int .u64 0, .int .u64 0, .int .u64 0, .int .u64 0] 30)) = v := ⟨_, rfl⟩
  have hG9 : Below w.heap.size w v1 := by rw [← hv9]; go_grown
  have X_F : Blk v1 (w.heap.size) 32 [.int .i64 (fID b), .int .u64 (limb (fP b) 0 : Int), .int .u64 (limb (fP b) 1 : Int), .int .u64 (limb (fP b) 2 : Int), .int .u64 (limb (fP b) 3 : Int), .int .u64 (fI b : Int), .int .u64 (limb (fO b) 0 : Int), .int .u64 (limb (fO b) 1 : Int), .int .u64 (limb (fO b) 2 : Int), .int .u64 (limb (fO b) 3 : Int), .int .u64 (limb (fS b) 0 : Int), .int .u64 (limb (fS b) 1 : Int), .int .u64 (limb (fS b) 2 : Int), .int .u64 (limb (fS b) 3 : Int)] := by rw [← hv9]; exact Blk.alloc (Blk.alloc (Blk.alloc (Blk.new rfl) _) _) _
  have X_A : Blk v1 (w.heap.size + 1) 30 [.int .u64 (limb x 0 : Int), .int .u64 (limb x 1 : Int), .int .u64 (limb x 2 : Int), .int .u64 (limb x 3 : Int)] := by rw [← hv9]; exact Blk.alloc (Blk.alloc (Blk.new (by simp)) _) _
  have X_B : Blk v1 (w.heap.size + 1 + 1) 30 [.int .u64 (limb y 0 : Int), .int .u64 (limb y 1 : Int), .int .u64 (limb y 2 : Int), .int .u64 (limb y 3 : Int)] := by rw [← hv9]; exact Blk.alloc (Blk.new (by simp)) _
  have X_R : Blk v1 (w.heap.size + 1 + 1 + 1) 30 [.int .u64 0, .int .u64 0, .int .u64 0, .int .u64 0] := by rw [← hv9]; exact Blk.new (by simp)
  obtain ⟨bF, hb9⟩ : ∃ k, w.heap.size = k := ⟨_, rfl⟩
  rw [hb9] at X_F
  rw [hb9] at X_A
  rw [hb9] at X_B
  rw [hb9] at X_R
  have g_bF : w.heap.size ≤ bF := by rw [← hb9]; exact BW.out.size
  replace BW := hid (BW.out.trans (hG9.mono BW.out.size))
  clear hG9
  rw [hv9]
  try rw [hb9]
  clear hv9 hb9
  refine (M1.out _).mono ?_
  rintro e v2 ⟨rfl, b9⟩
  replace X_F := X_F.keep b9
  replace X_A := X_A.keep b9
  replace X_B := X_B.keep b9
  replace X_R := X_R.keep b9
  replace BW := hid (BW.out.trans (b9.mono BW.out.size))
  clear b9
  have z_F := X_F.lt
  have c_F0 := X_F.cell (i := 0) rfl
  have c_F1 := X_F.cell (i := 1) rfl
  have c_F2 := X_F.cell (i := 2) rfl
  have c_F3 := X_F.cell (i := 3) rfl
  have c_F4 := X_F.cell (i := 4) rfl
  have c_F5 := X_F.cell (i := 5) rfl
  have c_F6 := X_F.cell (i := 6) rfl
  have c_F7 := X_F.cell (i := 7) rfl
  have c_F8 := X_F.cell (i := 8) rfl
  have c_F9 := X_F.cell (i := 9) rfl
  have c_F10 := X_F.cell (i := 10) rfl
  have c_F11 := X_F.cell (i := 11) rfl
  have c_F12 := X_F.cell (i := 12) rfl
  have c_F13 := X_F.cell (i := 13) rfl
  go_wp2_with fail
  obtain ⟨v3, hv9⟩ : ∃ v, (v2.alloc (.cells #[.int .u64 (limb (dif x y) 0 : Int), .int .u64 (limb (dif x y) 1 : Int), .int .u64 (limb (dif x y) 2 : Int), .int .u64 (limb (dif x y) 3 : Int)] 29)) = v := ⟨_, rfl⟩
  have hG9 : Below v2.heap.size v2 v3 := by rw [← hv9]; go_grown
  have X_D : Blk v3 (v2.heap.size) 29 [.int .u64 (limb (dif x y) 0 : Int), .int .u64 (limb (dif x y) 1 : Int), .int .u64 (limb (dif x y) 2 : Int), .int .u64 (limb (dif x y) 3 : Int)] := by rw [← hv9]; exact Blk.new rfl
  obtain ⟨bD, hb9⟩ : ∃ k, v2.heap.size = k := ⟨_, rfl⟩
  rw [hb9] at X_D
  have g_bD : w.heap.size ≤ bD := by rw [← hb9]; exact BW.out.size
  have q_F_bD : bF < bD := by rw [← hb9]; exact X_F.lt
  have q_A_bD : bF + 1 < bD := by rw [← hb9]; exact X_A.lt
  have q_B_bD : bF + 1 + 1 < bD := by rw [← hb9]; exact X_B.lt
  have q_R_bD : bF + 1 + 1 + 1 < bD := by rw [← hb9]; exact X_R.lt
  clear z_F c_F0 c_F1 c_F2 c_F3 c_F4 c_F5 c_F6 c_F7 c_F8 c_F9 c_F10 c_F11 c_F12 c_F13
  replace X_F := X_F.keep hG9
  replace X_A := X_A.keep hG9
  replace X_B := X_B.keep hG9
  replace X_R := X_R.keep hG9
  replace BW := hid (BW.out.trans (hG9.mono BW.out.size))
  clear hG9
  rw [hv9]
  try rw [hb9]
  clear hv9 hb9
  refine (M2.out _).mono ?_
  rintro e v4 ⟨rfl, b9⟩
  replace X_F := X_F.keep b9
  replace X_A := X_A.keep b9
  replace X_B := X_B.keep b9
  replace X_R := X_R.keep b9
  replace X_D := X_D.keep b9
  replace BW := hid (BW.out.trans (b9.mono BW.out.size))
  clear b9
  have z_D := X_D.lt
  have c_D0 := X_D.cell (i := 0) rfl
  have c_D1 := X_D.cell (i := 1) rfl
  have c_D2 := X_D.cell (i := 2) rfl
  have c_D3 := X_D.cell (i := 3) rfl
  go_wp2_with fail
  obtain ⟨v5, hv9⟩ : ∃ v, (v4.alloc (.cells #[.int .u64 (limb (sum (dif x y) (fP b)) 0 : Int), .int .u64 (limb (sum (dif x y) (fP b)) 1 : Int), .int .u64 (limb (sum (dif x y) (fP b)) 2 : Int), .int .u64 (limb (sum (dif x y) (fP b)) 3 : Int)] 29)) = v := ⟨_, rfl⟩
  have hG9 : Below v4.heap.size v4 v5 := by rw [← hv9]; go_grown
  have X_S : Blk v5 (v4.heap.size) 29 [.int .u64 (limb (sum (dif x y) (fP b)) 0 : Int), .int .u64 (limb (sum (dif x y) (fP b)) 1 : Int), .int .u64 (limb (sum (dif x y) (fP b)) 2 : Int), .int .u64 (limb (sum (dif x y) (fP b)) 3 : Int)] := by rw [← hv9]; exact Blk.new rfl
  obtain ⟨bS, hb9⟩ : ∃ k, v4.heap.size = k := ⟨_, rfl⟩
  rw [hb9] at X_S
  have g_bS : w.heap.size ≤ bS := by rw [← hb9]; exact BW.out.size
  have q_F_bS : bF < bS := by rw [← hb9]; exact X_F.lt
  have q_A_bS : bF + 1 < bS := by rw [← hb9]; exact X_A.lt
  have q_B_bS : bF + 1 + 1 < bS := by rw [← hb9]; exact X_B.lt
  have q_R_bS : bF + 1 + 1 + 1 < bS := by rw [← hb9]; exact X_R.lt
  have q_D_bS : bD < bS := by rw [← hb9]; exact X_D.lt
  clear z_D c_D0 c_D1 c_D2 c_D3
  replace X_F := X_F.keep hG9
  replace X_A := X_A.keep hG9
  replace X_B := X_B.keep hG9
  replace X_R := X_R.keep hG9
  replace X_D := X_D.keep hG9
  replace BW := hid (BW.out.trans (hG9.mono BW.out.size))
  clear hG9
  rw [hv9]
  try rw [hb9]
  clear hv9 hb9
  have z_S := X_S.lt
  have c_S0 := X_S.cell (i := 0) rfl
  have c_S1 := X_S.cell (i := 1) rfl
  have c_S2 := X_S.cell (i := 2) rfl
  have c_S3 := X_S.cell (i := 3) rfl
  have z_D := X_D.lt
  have c_D0 := X_D.cell (i := 0) rfl
  have c_D1 := X_D.cell (i := 1) rfl
  have c_D2 := X_D.cell (i := 2) rfl
  have c_D3 := X_D.cell (i := 3) rfl
  refine wp_region_soft (C := fun W' => Below v5.heap.size v5 W') 5 (by kernel_rfl) (by kernel_rfl) ((Below.refl _ _).drew) ?_
  simp only [List.take_succ_cons, List.take_zero, List.drop_succ_cons, List.drop_zero]
  refine wpQuiet_step (fun K hK => ?_)
  rw [if_pos (by rfl)]
  refine ⟨.int .u64 (brw x y : Int), fun W' hW => ?_, hK _ ?_⟩
  · go_simp
  clear hK K
  simp only [Act.put, List.setIfInBounds_toArray, List.set_cons_zero, List.set_cons_succ]
  refine wpQuiet_step (fun K hK => ?_)
  rw [if_pos (by rfl)]
  refine ⟨.int .u64 (msk (brw x y) : Int), fun W' hW => ?_, hK _ ?_⟩
  · go_simp
    refine (M3.out _).mono ?_
    rintro e w' ⟨rfl, b⟩
    exact ⟨rfl, hW.trans (b.mono hW.size)⟩
  clear hK K
  simp only [Act.put, List.setIfInBounds_toArray, List.set_cons_zero, List.set_cons_succ]
  refine wpQuiet_step (fun K hK => ?_)
  rw [if_pos (by rfl)]
  refine ⟨vec (sum (dif x y) (fP b)), fun W' hW => ?_, hK _ ?_⟩
  · have e_0 := (hW.cell (p := ⟨bS, 0, none⟩) z_S).trans c_S0
    have e_1 := (hW.cell (p := ⟨bS, 1, none⟩) z_S).trans c_S1
    have e_2 := (hW.cell (p := ⟨bS, 2, none⟩) z_S).trans c_S2
    have e_3 := (hW.cell (p := ⟨bS, 3, none⟩) z_S).trans c_S3
    go_simp
  clear hK K
  simp only [Act.put, List.setIfInBounds_toArray, List.set_cons_zero, List.set_cons_succ]
  refine wpQuiet_step (fun K hK => ?_)
  rw [if_pos (by rfl)]
  refine ⟨vec (dif x y), fun W' hW => ?_, hK _ ?_⟩
  · have e_0 := (hW.cell (p := ⟨bD, 0, none⟩) z_D).trans c_D0
    have e_1 := (hW.cell (p := ⟨bD, 1, none⟩) z_D).trans c_D1
    have e_2 := (hW.cell (p := ⟨bD, 2, none⟩) z_D).trans c_D2
    have e_3 := (hW.cell (p := ⟨bD, 3, none⟩) z_D).trans c_D3
    go_simp
  clear hK K
  simp only [Act.put, List.setIfInBounds_toArray, List.set_cons_zero, List.set_cons_succ]
  refine wpQuiet_step (fun K hK => ?_)
  rw [if_pos (by rfl)]
  refine ⟨vec (subm (fP b) x y), fun W' hW => ?_, hK _ ?_⟩
  · go_simp
    refine (M4.out _).mono ?_
    rintro e w' ⟨rfl, b⟩
    exact ⟨rfl, hW.trans (b.mono hW.size)⟩
  clear hK K
  simp only [Act.put, List.setIfInBounds_toArray, List.set_cons_zero, List.set_cons_succ]
  refine wpQuiet_nil ?_
  intro ws0 hW9
  clear z_S c_S0 c_S1 c_S2 c_S3 z_D c_D0 c_D1 c_D2 c_D3
  replace X_F := X_F.keep hW9
  replace X_A := X_A.keep hW9
  replace X_B := X_B.keep hW9
  replace X_R := X_R.keep hW9
  replace X_D := X_D.keep hW9
  replace X_S := X_S.keep hW9
  replace BW := hid (BW.out.trans (hW9.mono BW.out.size))
  clear hW9
  have z_R := X_R.lt
  have c_R0 := X_R.cell (i := 0) rfl
  have f_R0 := X_R.frozen 0
  have c_R1 := X_R.cell (i := 1) rfl
  have f_R1 := X_R.frozen 1
  have c_R2 := X_R.cell (i := 2) rfl
  have f_R2 := X_R.frozen 2
  have c_R3 := X_R.cell (i := 3) rfl
  have f_R3 := X_R.frozen 3
  have hBW := BW.out
  have zBW := hBW.size
  go_wp2
  refine bodyPost_ret (by simp only [results, Tryd.results41]; go_simp; try rfl) rfl ?_
  exact ⟨rfl, by go_grown⟩

set_option maxRecDepth 100000 in
set_option maxHeartbeats 2000000 in
theorem mneg_any (b : Bool) (y : Nat) (hy : y < fP b) (w : World) :
    Calls Tryd.prog 79 #[FV b, vec y] w (Ret (vec (subm (fP b) 0 y)) w) := by
  have BW := hid (Below.refl w.heap.size w)
  have M1 := hid (fun W : World => msub_any b 0 y (by omega) hy W)
  rw [← vec_zero] at M1
  go_enter Tryd.func79, Tryd.ntmps79
  go_wp2_with fail
  obtain ⟨v1, hv9⟩ : ∃ v, (((w.alloc (.cells #[.int .i64 (fID b), .int .u64 (limb (fP b) 0 : Int), .int .u64 (limb (fP b) 1 : Int), .int .u64 (limb (fP b) 2 : Int), .int .u64 (limb (fP b) 3 : Int), .int .u64 (fI b : Int), .int .u64 (limb (fO b) 0 : Int), .int .u64 (limb (fO b) 1 : Int), .int .u64 (limb (fO b) 2 : Int), .int .u64 (limb (fO b) 3 : Int), .int .u64 (limb (fS b) 0 : Int), .int .u64 (limb (fS b) 1 : Int), .int .u64 (limb (fS b) 2 : Int), .int .u64 (limb (fS b) 3 : Int)] 32)).alloc (.cells #[.int .u64 (limb y 0 : Int), .int .u64 (limb y 1 : Int), .int .u64 (limb y 2 : Int), .int .u64 (limb y 3 : Int)] 30)).alloc (.cells #[.int .u64 0, .int .u64 0, .int .u64 0, .int .u64 0] 30)) = v := ⟨_, rfl⟩
  have hG9 : Below w.heap.size w v1 := by rw [← hv9]; go_grown
  have X_F : Blk v1 (w.heap.size) 32 [.int .i64 (fID b), .int .u64 (limb (fP b) 0 : Int), .int .u64 (limb (fP b) 1 : Int), .int .u64 (limb (fP b) 2 : Int), .int .u64 (limb (fP b) 3 : Int), .int .u64 (fI b : Int), .int .u64 (limb (fO b) 0 : Int), .int .u64 (limb (fO b) 1 : Int), .int .u64 (limb (fO b) 2 : Int), .int .u64 (limb (fO b) 3 : Int), .int .u64 (limb (fS b) 0 : Int), .int .u64 (limb (fS b) 1 : Int), .int .u64 (limb (fS b) 2 : Int), .int .u64 (limb (fS b) 3 : Int)] := by rw [← hv9]; exact Blk.alloc (Blk.alloc (Blk.new rfl) _) _
  have X_A : Blk v1 (w.heap.size + 1) 30 [.int .u64 (limb y 0 : Int), .int .u64 (limb y 1 : Int), .int .u64 (limb y 2 : Int), .int .u64 (limb y 3 : Int)] := by rw [← hv9]; exact Blk.alloc (Blk.new (by simp)) _
  have X_R : Blk v1 (w.heap.size + 1 + 1) 30 [.int .u64 0, .int .u64 0, .int .u64 0, .int .u64 0] := by rw [← hv9]; exact Blk.new (by simp)
  obtain ⟨bF, hb9⟩ : ∃ k, w.heap.size = k := ⟨_, rfl⟩
  rw [hb9] at X_F
  rw [hb9] at X_A
  rw [hb9] at X_R
  have g_bF : w.heap.size ≤ bF := by rw [← hb9]; exact BW.out.size
  replace BW := hid (BW.out.trans (hG9.mono BW.out.size))
  clear hG9
  rw [hv9]
  try rw [hb9]
  clear hv9 hb9
  refine (M1.out _).mono ?_
  rintro e v2 ⟨rfl, b9⟩
  replace X_F := X_F.keep b9
  replace X_A := X_A.keep b9
  replace X_R := X_R.keep b9
  replace BW := hid (BW.out.trans (b9.mono BW.out.size))
  clear b9
  have z_R := X_R.lt
  have c_R0 := X_R.cell (i := 0) rfl
  have f_R0 := X_R.frozen 0
  have c_R1 := X_R.cell (i := 1) rfl
  have f_R1 := X_R.frozen 1
  have c_R2 := X_R.cell (i := 2) rfl
  have f_R2 := X_R.frozen 2
  have c_R3 := X_R.cell (i := 3) rfl
  have f_R3 := X_R.frozen 3
  have hBW := BW.out
  have zBW := hBW.size
  go_wp2
  refine bodyPost_ret (by simp only [results, Tryd.results79]; go_simp; try rfl) rfl ?_
  exact ⟨rfl, by go_grown⟩

set_option maxRecDepth 100000 in
set_option maxHeartbeats 2000000 in
theorem to9_any (b : Bool) (n : Nat) (hn : n < B256) (w : World) :
    Calls Tryd.prog 64 #[FV b, vec n] w (Ret (vec (frm (fP b) n)) w) := by
  have BW := hid (Below.refl w.heap.size w)
  have M := hid (fun W : World => mmul_any (fID b) (fP b) (fI b) (fO b) (fS b) n (fS b) (fOK b) hn (Nat.lt_trans (fS_lt9 b) (fP_lt b)) (Nat.mul_lt_mul_of_lt_of_lt hn (fS_lt9 b)) W)
  rw [mont_S9] at M
  go_enter Tryd.func64, Tryd.ntmps64
  go_wp2_with fail
  obtain ⟨v1, hv9⟩ : ∃ v, (((w.alloc (.cells #[.int .i64 (fID b), .int .u64 (limb (fP b) 0 : Int), .int .u64 (limb (fP b) 1 : Int), .int .u64 (limb (fP b) 2 : Int), .int .u64 (limb (fP b) 3 : Int), .int .u64 (fI b : Int), .int .u64 (limb (fO b) 0 : Int), .int .u64 (limb (fO b) 1 : Int), .int .u64 (limb (fO b) 2 : Int), .int .u64 (limb (fO b) 3 : Int), .int .u64 (limb (fS b) 0 : Int), .int .u64 (limb (fS b) 1 : Int), .int .u64 (limb (fS b) 2 : Int), .int .u64 (limb (fS b) 3 : Int)] 32)).alloc (.cells #[.int .u64 (limb n 0 : Int), .int .u64 (limb n 1 : Int), .int .u64 (limb n 2 : Int), .int .u64 (limb n 3 : Int)] 29)).alloc (.cells #[.int .u64 0, .int .u64 0, .int .u64 0, .int .u64 0] 30)) = v := ⟨_, rfl⟩
  have hG9 : Below w.heap.size w v1 := by rw [← hv9]; go_grown
  have X_F : Blk v1 (w.heap.size) 32 [.int .i64 (fID b), .int .u64 (limb (fP b) 0 : Int), .int .u64 (limb (fP b) 1 : Int), .int .u64 (limb (fP b) 2 : Int), .int .u64 (limb (fP b) 3 : Int), .int .u64 (fI b : Int), .int .u64 (limb (fO b) 0 : Int), .int .u64 (limb (fO b) 1 : Int), .int .u64 (limb (fO b) 2 : Int), .int .u64 (limb (fO b) 3 : Int), .int .u64 (limb (fS b) 0 : Int), .int .u64 (limb (fS b) 1 : Int), .int .u64 (limb (fS b) 2 : Int), .int .u64 (limb (fS b) 3 : Int)] := by rw [← hv9]; exact Blk.alloc (Blk.alloc (Blk.new rfl) _) _
  have X_V : Blk v1 (w.heap.size + 1) 29 [.int .u64 (limb n 0 : Int), .int .u64 (limb n 1 : Int), .int .u64 (limb n 2 : Int), .int .u64 (limb n 3 : Int)] := by rw [← hv9]; exact Blk.alloc (Blk.new (by simp)) _
  have X_R : Blk v1 (w.heap.size + 1 + 1) 30 [.int .u64 0, .int .u64 0, .int .u64 0, .int .u64 0] := by rw [← hv9]; exact Blk.new (by simp)
  obtain ⟨bF, hb9⟩ : ∃ k, w.heap.size = k := ⟨_, rfl⟩
  rw [hb9] at X_F
  rw [hb9] at X_V
  rw [hb9] at X_R
  have g_bF : w.heap.size ≤ bF := by rw [← hb9]; exact BW.out.size
  replace BW := hid (BW.out.trans (hG9.mono BW.out.size))
  clear hG9
  rw [hv9]
  try rw [hb9]
  clear hv9 hb9
  refine (M.out _).mono ?_
  rintro e v2 ⟨rfl, b9⟩
  replace X_F := X_F.keep b9
  replace X_V := X_V.keep b9
  replace X_R := X_R.keep b9
  replace BW := hid (BW.out.trans (b9.mono BW.out.size))
  clear b9
  have z_R := X_R.lt
  have c_R0 := X_R.cell (i := 0) rfl
  have f_R0 := X_R.frozen 0
  have c_R1 := X_R.cell (i := 1) rfl
  have f_R1 := X_R.frozen 1
  have c_R2 := X_R.cell (i := 2) rfl
  have f_R2 := X_R.frozen 2
  have c_R3 := X_R.cell (i := 3) rfl
  have f_R3 := X_R.frozen 3
  have hBW := BW.out
  have zBW := hBW.size
  go_wp2
  refine bodyPost_ret (by simp only [results, Tryd.results64]; go_simp; try rfl) rfl ?_
  exact ⟨rfl, by go_grown⟩

theorem vec_pt {x : Int} (h1 : 1 ≤ x) (h2 : x ≤ 255) : (.agg #[.int .u64 x, .int .u64 0, .int .u64 0, .int .u64 0] : Value) = vec x.toNat := by
  have e : x = ((x.toNat : Nat) : Int) := by omega
  have := vec_small (x := x.toNat) (by omega)
  rw [this, ← e]
theorem topt_any (b : Bool) (x : Int) (h1 : 1 ≤ x) (h2 : x ≤ 255) (w : World) : Calls Tryd.prog 64 #[FV b, .agg #[.int .u64 x, .int .u64 0, .int .u64 0, .int .u64 0]] w (Ret (vec (frm (fP b) x.toNat)) w) := by
  rw [vec_pt h1 h2]
  exact to9_any b x.toNat (by unfold B256; omega) w
set_option maxRecDepth 100000 in
set_option maxHeartbeats 2000000 in
theorem point_any (x : Int) (h1 : 1 ≤ x) (h2 : x ≤ 255) (w : World) :
    Calls Tryd.prog 26 #[.int .i64 x] w (Ret (vec x.toNat) w) := by
  have hv := vec_pt h1 h2
  have HV := hid hv
  clear hv
  go_enter Tryd.func26, Tryd.ntmps26
  go_wp2
  refine bodyPost_ret (by simp only [results, Tryd.results26]; go_simp; try rfl) rfl ?_
  exact ⟨by rw [← HV.out], by go_grown⟩
end Go.Proofs.YthdjjogdjabflaaDoor
