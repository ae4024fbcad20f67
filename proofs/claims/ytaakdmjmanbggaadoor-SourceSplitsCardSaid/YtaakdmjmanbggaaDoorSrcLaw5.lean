/-
  SourceSplits: the bytes taken in two parts are those taken at once, and the elements likewise.
-/
import Derived.Test.YtaakdmjmanbggaaDoorAlive14
import Derived.Test.YtaakdmjmanbggaaDoorElEq
import Derived.Test.YtaakdmjmanbggaaDoorCat
import Derived.Deep.RegionHeld3
import Derived.Deep.DeepCutAuto
import Derived.Deep.QuietTactic
namespace Go.Proofs.YtaakdmjmanbggaaDoor
open Go.RowKit

theorem els_split (p : Nat) (l : List Nat) (n k : Nat) : els p l n ++ els p (l.drop (64 * n)) k = els p l (n + k) := by
  unfold els
  rw [List.range_add, List.map_append, List.map_map]
  refine congrArg _ (List.map_congr_left fun i _ => ?_)
  show _ = frm p (wid p ((l.drop (64 * (n + i))).take 64))
  rw [List.drop_drop, Nat.mul_add]
theorem elements_ok (b : Bool) (s g : Nat) (l : List Nat) (k : Nat) (hl : l.length < 1000000) (hk : 64 * k ≤ l.length) (w : World) (hS : Src w 65 s g l) :
    Calls Tryd.prog 17 #[.pointer (some ⟨s, 0, none⟩), FV b, .int .i64 (k : Int)] w fun e w' => ∃ r, e = .returned (.tuple #[r, .int .i64 0]) ∧
      w'.ownsRow w.heap.size 42 4 r k (nums (els (fP b) l k)) ∧ NumSl w' r (els (fP b) l k) ∧ Src w' 65 s g (l.drop (64 * k)) ∧ Only (fun j => j = s) w w' := by
  have h : chk l.length (k : Int) 64 = 0 := by unfold chk; rw [if_neg (by omega), if_neg (by omega)]
  obtain ⟨k', hk', _, ht⟩ := echk_ok h
  obtain rfl : k = k' := by omega
  have q0 : 0 < fP b := by have := fP_two b; omega
  refine (elements_any b s g l (k : Int) hl w hS).mono ?_
  rintro e w' ⟨r, rfl, ho, hs, hO⟩
  rw [ht] at ho hs
  rw [h]
  exact ⟨r, rfl, ho, nums_own (by rw [els_len]; exact ho) (fun x hx => Nat.lt_trans (els_lt l k q0 x hx) (fP_lt b)), hs, hO⟩
theorem rem_facts {d n : Nat} (_h : d < 256) (hn : d % 4 = n) : (d : Int).tmod 4 = (n : Int) ∧ IntKind.u8.wrap (n : Int) = (n : Int) ∧ IntKind.i64.wrap (n : Int) = (n : Int) ∧ n < 4 := ⟨by rw [Int.tmod_eq_emod_of_nonneg (by omega)]; omega, by rw [IntKind.wrap_u8]; omega, by rw [IntKind.wrap_i64]; omega, by omega⟩
set_option maxRecDepth 100000 in
set_option maxHeartbeats 8000000 in
theorem splits_law (b : Bool) (v : Value) (l : List Nat) (d0 d1 : Nat) (w : World) (hT : Tab w) (hS : ByteSl w v l) (hd0 : d0 < 256) (hd1 : d1 < 256) :
    Calls Tryd.prog 8 #[.bool b, v, .agg #[.int .u8 (d0 : Int), .int .u8 (d1 : Int)]] w (Ret (.bool true) w) := by
  have BW := hid (Below.refl w.heap.size w)
  have T := hid hT
  have T0 := hid hT
  have N_b := hid hS
  obtain ⟨a, cap, rfl, hcap, _⟩ := hS
  clear hT
  by_cases h1 : 2000 < l.length
  · skip
    go_enter Tryd.func8, Tryd.ntmps8
    go_wp2_with fail
    obtain ⟨v1, hv9⟩ : ∃ v, (w.alloc (.cells #[.int .u8 (d0 : Int), .int .u8 (d1 : Int)] 60)) = v := ⟨_, rfl⟩
    have hG9 : Below w.heap.size w v1 := by rw [← hv9]; go_grown
    have X_D : Blk v1 (w.heap.size) 60 [.int .u8 (d0 : Int), .int .u8 (d1 : Int)] := by rw [← hv9]; exact Blk.new rfl
    obtain ⟨bD, hb9⟩ : ∃ k, w.heap.size = k := ⟨_, rfl⟩
    rw [hb9] at X_D
    have g_bD : w.heap.size ≤ bD := by rw [← hb9]; exact BW.out.size
    replace N_b := hid (N_b.out.below hG9)
    replace T := hid (T.out.keep hG9)
    replace BW := hid (BW.out.trans (hG9.mono BW.out.size))
    clear hG9
    rw [hv9]
    try rw [hb9]
    clear hv9 hb9
    refine (alive_any _ T.out).mono ?_
    rintro e v2 ⟨rfl, b9⟩
    replace X_D := X_D.keep b9
    replace N_b := hid (N_b.out.below b9)
    replace T := hid (T.out.keep b9)
    replace BW := hid (BW.out.trans (b9.mono BW.out.size))
    clear b9
    go_wp2
    go_ret
    exact ⟨rfl, BW.out⟩
  have hl : l.length < 1000000 := by omega
  go_enter Tryd.func8, Tryd.ntmps8
  go_wp2_with fail
  obtain ⟨v1, hv9⟩ : ∃ v, (w.alloc (.cells #[.int .u8 (d0 : Int), .int .u8 (d1 : Int)] 60)) = v := ⟨_, rfl⟩
  have hG9 : Below w.heap.size w v1 := by rw [← hv9]; go_grown
  have X_D : Blk v1 (w.heap.size) 60 [.int .u8 (d0 : Int), .int .u8 (d1 : Int)] := by rw [← hv9]; exact Blk.new rfl
  obtain ⟨bD, hb9⟩ : ∃ k, w.heap.size = k := ⟨_, rfl⟩
  rw [hb9] at X_D
  have g_bD : w.heap.size ≤ bD := by rw [← hb9]; exact BW.out.size
  replace N_b := hid (N_b.out.below hG9)
  replace T := hid (T.out.keep hG9)
  replace BW := hid (BW.out.trans (hG9.mono BW.out.size))
  clear hG9
  rw [hv9]
  try rw [hb9]
  clear hv9 hb9
  refine (lget_any b _ T.out).mono ?_
  rintro e v2 ⟨rfl, b9⟩
  replace X_D := X_D.keep b9
  replace N_b := hid (N_b.out.below b9)
  replace T := hid (T.out.keep b9)
  replace BW := hid (BW.out.trans (b9.mono BW.out.size))
  clear b9
  go_wp2_with fail
  obtain ⟨v3, hv9⟩ : ∃ v, ((v2.alloc (.cells #[.int .i64 (fID b), .int .u64 (limb (fP b) 0 : Int), .int .u64 (limb (fP b) 1 : Int), .int .u64 (limb (fP b) 2 : Int), .int .u64 (limb (fP b) 3 : Int), .int .u64 (fI b : Int), .int .u64 (limb (fO b) 0 : Int), .int .u64 (limb (fO b) 1 : Int), .int .u64 (limb (fO b) 2 : Int), .int .u64 (limb (fO b) 3 : Int), .int .u64 (limb (fS b) 0 : Int), .int .u64 (limb (fS b) 1 : Int), .int .u64 (limb (fS b) 2 : Int), .int .u64 (limb (fS b) 3 : Int)] 44)).alloc (.cells #[.int .u64 (limb (fP b) 0 : Int), .int .u64 (limb (fP b) 1 : Int), .int .u64 (limb (fP b) 2 : Int), .int .u64 (limb (fP b) 3 : Int)] 41)) = v := ⟨_, rfl⟩
  have hG9 : Below v2.heap.size v2 v3 := by rw [← hv9]; go_grown
  have X_F : Blk v3 (v2.heap.size) 44 [.int .i64 (fID b), .int .u64 (limb (fP b) 0 : Int), .int .u64 (limb (fP b) 1 : Int), .int .u64 (limb (fP b) 2 : Int), .int .u64 (limb (fP b) 3 : Int), .int .u64 (fI b : Int), .int .u64 (limb (fO b) 0 : Int), .int .u64 (limb (fO b) 1 : Int), .int .u64 (limb (fO b) 2 : Int), .int .u64 (limb (fO b) 3 : Int), .int .u64 (limb (fS b) 0 : Int), .int .u64 (limb (fS b) 1 : Int), .int .u64 (limb (fS b) 2 : Int), .int .u64 (limb (fS b) 3 : Int)] := by rw [← hv9]; exact Blk.alloc (Blk.new rfl) _
  have X_P : Blk v3 (v2.heap.size + 1) 41 [.int .u64 (limb (fP b) 0 : Int), .int .u64 (limb (fP b) 1 : Int), .int .u64 (limb (fP b) 2 : Int), .int .u64 (limb (fP b) 3 : Int)] := by rw [← hv9]; exact Blk.new (by simp)
  obtain ⟨bF, hb9⟩ : ∃ k, v2.heap.size = k := ⟨_, rfl⟩
  rw [hb9] at X_F
  rw [hb9] at X_P
  have g_bF : w.heap.size ≤ bF := by rw [← hb9]; exact BW.out.size
  have q_D_bF : bD < bF := by rw [← hb9]; exact X_D.lt
  replace X_D := X_D.keep hG9
  replace N_b := hid (N_b.out.below hG9)
  replace T := hid (T.out.keep hG9)
  replace BW := hid (BW.out.trans (hG9.mono BW.out.size))
  clear hG9
  rw [hv9]
  try rw [hb9]
  clear hv9 hb9
  obtain ⟨n, hn⟩ : ∃ q, d0 % 4 = q := ⟨_, rfl⟩
  obtain ⟨k, hk⟩ : ∃ q, d1 % 4 = q := ⟨_, rfl⟩
  obtain ⟨zn, zn1, zn2, hn4⟩ := rem_facts hd0 hn
  obtain ⟨zk, zk1, zk2, hk4⟩ := rem_facts hd1 hk
  have z_D := X_D.lt
  have c_D0 := X_D.cell (i := 0) rfl
  have c_D1 := X_D.cell (i := 1) rfl
  refine wp_region_soft (C := fun W' => Below v3.heap.size v3 W') 9 (by kernel_rfl) (by kernel_rfl) ((Below.refl _ _).drew) ?_
  simp only [List.take_succ_cons, List.take_zero, List.drop_succ_cons, List.drop_zero]
  refine wpQuiet_step (fun K hK => ?_)
  rw [if_pos (by rfl)]
  refine ⟨.pointer (some ⟨bD, 0, none⟩), fun W' hW => ?_, hK _ ?_⟩
  · go_simp
  clear hK K
  simp only [Act.put, List.setIfInBounds_toArray, List.set_cons_zero, List.set_cons_succ]
  refine wpQuiet_step (fun K hK => ?_)
  rw [if_pos (by rfl)]
  refine ⟨.int .u8 (d0 : Int), fun W' hW => ?_, hK _ ?_⟩
  · have e_0 := (hW.cell (p := ⟨bD, 0, none⟩) z_D).trans c_D0
    go_simp
  clear hK K
  simp only [Act.put, List.setIfInBounds_toArray, List.set_cons_zero, List.set_cons_succ]
  refine wpQuiet_step (fun K hK => ?_)
  rw [if_pos (by rfl)]
  refine ⟨.int .u8 (n : Int), fun W' hW => ?_, hK _ ?_⟩
  · go_simp
  clear hK K
  simp only [Act.put, List.setIfInBounds_toArray, List.set_cons_zero, List.set_cons_succ]
  refine wpQuiet_step (fun K hK => ?_)
  rw [if_pos (by rfl)]
  refine ⟨.int .i64 (n : Int), fun W' hW => ?_, hK _ ?_⟩
  · go_simp
  clear hK K
  simp only [Act.put, List.setIfInBounds_toArray, List.set_cons_zero, List.set_cons_succ]
  refine wpQuiet_step (fun K hK => ?_)
  rw [if_pos (by rfl)]
  refine ⟨.pointer (some ⟨bD, 1, none⟩), fun W' hW => ?_, hK _ ?_⟩
  · go_simp
  clear hK K
  simp only [Act.put, List.setIfInBounds_toArray, List.set_cons_zero, List.set_cons_succ]
  refine wpQuiet_step (fun K hK => ?_)
  rw [if_pos (by rfl)]
  refine ⟨.int .u8 (d1 : Int), fun W' hW => ?_, hK _ ?_⟩
  · have e_1 := (hW.cell (p := ⟨bD, 1, none⟩) z_D).trans c_D1
    go_simp
  clear hK K
  simp only [Act.put, List.setIfInBounds_toArray, List.set_cons_zero, List.set_cons_succ]
  refine wpQuiet_step (fun K hK => ?_)
  rw [if_pos (by rfl)]
  refine ⟨.int .u8 (k : Int), fun W' hW => ?_, hK _ ?_⟩
  · go_simp
  clear hK K
  simp only [Act.put, List.setIfInBounds_toArray, List.set_cons_zero, List.set_cons_succ]
  refine wpQuiet_step (fun K hK => ?_)
  rw [if_pos (by rfl)]
  refine ⟨.int .i64 (k : Int), fun W' hW => ?_, hK _ ?_⟩
  · go_simp
  clear hK K
  simp only [Act.put, List.setIfInBounds_toArray, List.set_cons_zero, List.set_cons_succ]
  refine wpQuiet_step (fun K hK => ?_)
  rw [if_pos (by rfl)]
  refine ⟨.int .i64 (n : Int), fun W' hW => ?_, hK _ ?_⟩
  · go_simp
  clear hK K
  simp only [Act.put, List.setIfInBounds_toArray, List.set_cons_zero, List.set_cons_succ]
  refine wpQuiet_nil ?_
  intro ws0 hW9
  clear z_D c_D0 c_D1
  replace X_D := X_D.keep hW9
  replace X_F := X_F.keep hW9
  replace X_P := X_P.keep hW9
  replace N_b := hid (N_b.out.below hW9)
  replace T := hid (T.out.keep hW9)
  replace BW := hid (BW.out.trans (hW9.mono BW.out.size))
  clear hW9
  clear zn zn1 zn2 zk zk1 zk2 hn hk
  go_wp2_with fail
  refine (newsrc_any _ l _ N_b.out (by first | decide | (simp; omega) | omega)).mono ?_
  rintro e v4 ⟨sS, gS, rfl, hs9, gs9, gg9, gl9, b9⟩
  have g_sS := gs9
  have g_gS := gg9
  have h_gS := gl9
  clear gs9 gg9 gl9
  have h_sS := hs9.lt
  have n_sS_D := X_D.lt
  have n_sS_F := X_F.lt
  have n_sS_P := X_P.lt
  have n_sS_w := BW.out.size
  have N_S := hid hs9
  clear hs9
  replace X_D := X_D.keep b9
  replace X_F := X_F.keep b9
  replace X_P := X_P.keep b9
  replace N_b := hid (N_b.out.below b9)
  replace T := hid (T.out.keep b9)
  replace BW := hid (BW.out.trans (b9.mono BW.out.size))
  clear b9
  go_wp2_with fail
  refine (newsrc_any _ l _ N_b.out (by first | decide | (simp; omega) | omega)).mono ?_
  rintro e v5 ⟨sU, gU, rfl, hs9, gs9, gg9, gl9, b9⟩
  have g_sU := gs9
  have g_gU := gg9
  have h_gU := gl9
  clear gs9 gg9 gl9
  have h_sU := hs9.lt
  have n_sU_S := N_S.out.lt
  have n_sU_D := X_D.lt
  have n_sU_F := X_F.lt
  have n_sU_P := X_P.lt
  have n_sU_w := BW.out.size
  have N_U := hid hs9
  clear hs9
  replace X_D := X_D.keep b9
  replace X_F := X_F.keep b9
  replace X_P := X_P.keep b9
  replace N_b := hid (N_b.out.below b9)
  replace N_S := hid (N_S.out.below b9)
  replace T := hid (T.out.keep b9)
  replace BW := hid (BW.out.trans (b9.mono BW.out.size))
  clear b9
  have HC := hid (Int.natCast_add n k).symm
  by_cases hbig : (l.length : Int) < 64 * ((n : Int) + (k : Int)) + (n : Int) + (k : Int)
  · skip
    go_wp2_with fail
    refine (alive_any _ T.out).mono ?_
    rintro e v6 ⟨rfl, b9⟩
    replace X_D := X_D.keep b9
    replace X_F := X_F.keep b9
    replace X_P := X_P.keep b9
    replace N_b := hid (N_b.out.below b9)
    replace N_S := hid (N_S.out.below b9)
    replace N_U := hid (N_U.out.below b9)
    replace T := hid (T.out.keep b9)
    replace BW := hid (BW.out.trans (b9.mono BW.out.size))
    clear b9
    go_wp2
    go_ret
    exact ⟨rfl, BW.out⟩
  have HB := hid hbig
  have hlen : 64 * (n + k) + n + k ≤ l.length := by omega
  have hle1 : 64 * n ≤ l.length := by omega
  have z_F := X_F.lt
  have c_F0 := X_F.cell (i := 0) rfl
  have c_F1 := X_F.cell (i := 1) rfl
  have c_F2 := X_F.cell (i := 2) rfl
  have c_F3 := X_F.cell (i := 3) rfl
  have c_F4 := X_F.cell (i := 4) rfl
  have c_F5 := X_F.cell (i := 5) rfl
  have c_F6 := X_F.cell (i := 6) rfl
  have c_F7 := X_F.cell (i := 7) rfl
  have c_F8 := X_F.cell (i := 8) rfl
  have c_F9 := X_F.cell (i := 9) rfl
  have c_F10 := X_F.cell (i := 10) rfl
  have c_F11 := X_F.cell (i := 11) rfl
  have c_F12 := X_F.cell (i := 12) rfl
  have c_F13 := X_F.cell (i := 13) rfl
  go_wp2_with fail
  have EC9 := elements_ok b sS gS l n (by first | omega | (simp; omega)) (by first | omega | (simp; omega)) _ N_S.out
  refine EC9.mono ?_
  clear EC9
  rintro e v6 ⟨rv6, rfl, ho9, hy9, hs9, hO9⟩
  clear z_F c_F0 c_F1 c_F2 c_F3 c_F4 c_F5 c_F6 c_F7 c_F8 c_F9 c_F10 c_F11 c_F12 c_F13
  replace X_D := X_D.only hO9 (by omega)
  replace X_F := X_F.only hO9 (by omega)
  replace X_P := X_P.only hO9 (by omega)
  replace N_b := hid (N_b.out.src N_S.out hO9)
  replace N_U := hid (N_U.out.other N_S.out (by omega) hO9)
  replace BW := hid (Below.src BW.out hO9 (by omega))
  replace T := hid (T0.out.below BW.out (Nat.le_refl _))
  replace N_S := hid hs9
  clear hs9
  clear hO9
  obtain ⟨a_x, c_x, rfl, _, _, _⟩ := owns_form ho9
  have N_x := hid hy9
  clear hy9 ho9
  have z_F := X_F.lt
  have c_F0 := X_F.cell (i := 0) rfl
  have c_F1 := X_F.cell (i := 1) rfl
  have c_F2 := X_F.cell (i := 2) rfl
  have c_F3 := X_F.cell (i := 3) rfl
  have c_F4 := X_F.cell (i := 4) rfl
  have c_F5 := X_F.cell (i := 5) rfl
  have c_F6 := X_F.cell (i := 6) rfl
  have c_F7 := X_F.cell (i := 7) rfl
  have c_F8 := X_F.cell (i := 8) rfl
  have c_F9 := X_F.cell (i := 9) rfl
  have c_F10 := X_F.cell (i := 10) rfl
  have c_F11 := X_F.cell (i := 11) rfl
  have c_F12 := X_F.cell (i := 12) rfl
  have c_F13 := X_F.cell (i := 13) rfl
  go_wp2_with fail
  have EC9 := elements_ok b sS gS (l.drop (64 * n)) k (by first | omega | (simp; omega)) (by first | omega | (simp; omega)) _ N_S.out
  refine EC9.mono ?_
  clear EC9
  rintro e v7 ⟨rv7, rfl, ho9, hy9, hs9, hO9⟩
  clear z_F c_F0 c_F1 c_F2 c_F3 c_F4 c_F5 c_F6 c_F7 c_F8 c_F9 c_F10 c_F11 c_F12 c_F13
  replace X_D := X_D.only hO9 (by omega)
  replace X_F := X_F.only hO9 (by omega)
  replace X_P := X_P.only hO9 (by omega)
  replace N_b := hid (N_b.out.src N_S.out hO9)
  replace N_U := hid (N_U.out.other N_S.out (by omega) hO9)
  replace N_x := hid (N_x.out.src N_S.out hO9)
  replace BW := hid (Below.src BW.out hO9 (by omega))
  replace T := hid (T0.out.below BW.out (Nat.le_refl _))
  replace N_S := hid hs9
  clear hs9
  clear hO9
  obtain ⟨a_y, c_y, rfl, _, _, _⟩ := owns_form ho9
  have N_y := hid hy9
  clear hy9 ho9
  have z_F := X_F.lt
  have c_F0 := X_F.cell (i := 0) rfl
  have c_F1 := X_F.cell (i := 1) rfl
  have c_F2 := X_F.cell (i := 2) rfl
  have c_F3 := X_F.cell (i := 3) rfl
  have c_F4 := X_F.cell (i := 4) rfl
  have c_F5 := X_F.cell (i := 5) rfl
  have c_F6 := X_F.cell (i := 6) rfl
  have c_F7 := X_F.cell (i := 7) rfl
  have c_F8 := X_F.cell (i := 8) rfl
  have c_F9 := X_F.cell (i := 9) rfl
  have c_F10 := X_F.cell (i := 10) rfl
  have c_F11 := X_F.cell (i := 11) rfl
  have c_F12 := X_F.cell (i := 12) rfl
  have c_F13 := X_F.cell (i := 13) rfl
  go_wp2_with fail
  have EC9 := elements_ok b sU gU l (n + k) (by first | omega | (simp; omega)) (by first | omega | (simp; omega)) _ N_U.out
  rw [Int.natCast_add] at EC9
  refine EC9.mono ?_
  clear EC9
  rintro e v8 ⟨rv8, rfl, ho9, hy9, hs9, hO9⟩
  clear z_F c_F0 c_F1 c_F2 c_F3 c_F4 c_F5 c_F6 c_F7 c_F8 c_F9 c_F10 c_F11 c_F12 c_F13
  replace X_D := X_D.only hO9 (by omega)
  replace X_F := X_F.only hO9 (by omega)
  replace X_P := X_P.only hO9 (by omega)
  replace N_b := hid (N_b.out.src N_U.out hO9)
  replace N_S := hid (N_S.out.other N_U.out (by omega) hO9)
  replace N_x := hid (N_x.out.src N_U.out hO9)
  replace N_y := hid (N_y.out.src N_U.out hO9)
  replace BW := hid (Below.src BW.out hO9 (by omega))
  replace T := hid (T0.out.below BW.out (Nat.le_refl _))
  replace N_U := hid hs9
  clear hs9
  clear hO9
  obtain ⟨a_z, c_z, rfl, _, _, _⟩ := owns_form ho9
  have N_z := hid hy9
  clear hy9 ho9
  go_wp2_with fail
  have EC9 := take_ok sS gS ((l.drop (64 * n)).drop (64 * k)) n (by first | omega | (simp; omega)) (by first | omega | (simp; omega)) _ N_S.out
  refine EC9.mono ?_
  clear EC9
  rintro e v9 ⟨rv9, rfl, ho9, hy9, hs9, hO9⟩
  replace X_D := X_D.only hO9 (by omega)
  replace X_F := X_F.only hO9 (by omega)
  replace X_P := X_P.only hO9 (by omega)
  replace N_b := hid (N_b.out.src N_S.out hO9)
  replace N_U := hid (N_U.out.other N_S.out (by omega) hO9)
  replace N_x := hid (N_x.out.src N_S.out hO9)
  replace N_y := hid (N_y.out.src N_S.out hO9)
  replace N_z := hid (N_z.out.src N_S.out hO9)
  replace BW := hid (Below.src BW.out hO9 (by omega))
  replace T := hid (T0.out.below BW.out (Nat.le_refl _))
  replace N_S := hid hs9
  clear hs9
  clear hO9
  obtain ⟨a_p, c_p, rfl, _, _, _⟩ := owns_form ho9
  have N_p := hid hy9
  clear hy9 ho9
  go_wp2_with fail
  have EC9 := take_ok sS gS (((l.drop (64 * n)).drop (64 * k)).drop n) k (by first | omega | (simp; omega)) (by first | omega | (simp; omega)) _ N_S.out
  refine EC9.mono ?_
  clear EC9
  rintro e v10 ⟨rv10, rfl, ho9, hy9, hs9, hO9⟩
  replace X_D := X_D.only hO9 (by omega)
  replace X_F := X_F.only hO9 (by omega)
  replace X_P := X_P.only hO9 (by omega)
  replace N_b := hid (N_b.out.src N_S.out hO9)
  replace N_U := hid (N_U.out.other N_S.out (by omega) hO9)
  replace N_x := hid (N_x.out.src N_S.out hO9)
  replace N_y := hid (N_y.out.src N_S.out hO9)
  replace N_z := hid (N_z.out.src N_S.out hO9)
  replace N_p := hid (N_p.out.src N_S.out hO9)
  replace BW := hid (Below.src BW.out hO9 (by omega))
  replace T := hid (T0.out.below BW.out (Nat.le_refl _))
  replace N_S := hid hs9
  clear hs9
  clear hO9
  obtain ⟨a_q, c_q, rfl, _, _, _⟩ := owns_form ho9
  have N_q := hid hy9
  clear hy9 ho9
  go_wp2_with fail
  have EC9 := take_ok sU gU (l.drop (64 * (n + k))) (n + k) (by first | omega | (simp; omega)) (by first | omega | (simp; omega)) _ N_U.out
  rw [Int.natCast_add] at EC9
  refine EC9.mono ?_
  clear EC9
  rintro e v11 ⟨rv11, rfl, ho9, hy9, hs9, hO9⟩
  replace X_D := X_D.only hO9 (by omega)
  replace X_F := X_F.only hO9 (by omega)
  replace X_P := X_P.only hO9 (by omega)
  replace N_b := hid (N_b.out.src N_U.out hO9)
  replace N_S := hid (N_S.out.other N_U.out (by omega) hO9)
  replace N_x := hid (N_x.out.src N_U.out hO9)
  replace N_y := hid (N_y.out.src N_U.out hO9)
  replace N_z := hid (N_z.out.src N_U.out hO9)
  replace N_p := hid (N_p.out.src N_U.out hO9)
  replace N_q := hid (N_q.out.src N_U.out hO9)
  replace BW := hid (Below.src BW.out hO9 (by omega))
  replace T := hid (T0.out.below BW.out (Nat.le_refl _))
  replace N_U := hid hs9
  clear hs9
  clear hO9
  obtain ⟨a_r, c_r, rfl, _, _, _⟩ := owns_form ho9
  have N_r := hid hy9
  clear hy9 ho9
  clear X_F X_P X_D
  go_wp2_with fail
  refine (alive_any _ T.out).mono ?_
  rintro e v12 ⟨rfl, b9⟩
  replace N_b := hid (N_b.out.below b9)
  replace N_S := hid (N_S.out.below b9)
  replace N_U := hid (N_U.out.below b9)
  replace N_x := hid (N_x.out.below b9)
  replace N_y := hid (N_y.out.below b9)
  replace N_z := hid (N_z.out.below b9)
  replace N_p := hid (N_p.out.below b9)
  replace N_q := hid (N_q.out.below b9)
  replace N_r := hid (N_r.out.below b9)
  replace T := hid (T.out.keep b9)
  replace BW := hid (BW.out.trans (b9.mono BW.out.size))
  clear b9
  go_wp2_with fail
  obtain ⟨v13, hv9⟩ : ∃ v, (v12.alloc (.cells #[.slice a_x n c_x, .slice a_y k c_y] 47)) = v := ⟨_, rfl⟩
  have hG9 : Below v12.heap.size v12 v13 := by rw [← hv9]; go_grown
  have X_C : Blk v13 (v12.heap.size) 47 [.slice a_x n c_x, .slice a_y k c_y] := by rw [← hv9]; exact Blk.new rfl
  obtain ⟨bC, hb9⟩ : ∃ k, v12.heap.size = k := ⟨_, rfl⟩
  rw [hb9] at X_C
  have g_bC : w.heap.size ≤ bC := by rw [← hb9]; exact BW.out.size
  have q_S_bC := N_S.out.lt
  rw [hb9] at q_S_bC
  have q_U_bC := N_U.out.lt
  rw [hb9] at q_U_bC
  replace N_b := hid (N_b.out.below hG9)
  replace N_S := hid (N_S.out.below hG9)
  replace N_U := hid (N_U.out.below hG9)
  replace N_x := hid (N_x.out.below hG9)
  replace N_y := hid (N_y.out.below hG9)
  replace N_z := hid (N_z.out.below hG9)
  replace N_p := hid (N_p.out.below hG9)
  replace N_q := hid (N_q.out.below hG9)
  replace N_r := hid (N_r.out.below hG9)
  replace T := hid (T.out.keep hG9)
  replace BW := hid (BW.out.trans (hG9.mono BW.out.size))
  clear hG9
  rw [hv9]
  try rw [hb9]
  clear hv9 hb9
  refine (concat_e bC 2 _ _ (els (fP b) l n) (els (fP b) (l.drop (64 * n)) k) _ (X_C.cell (i := 0) rfl) (X_C.cell (i := 1) rfl) N_x.out N_y.out (by rw [els_len, els_len]; omega)).mono ?_
  rintro e v14 ⟨rv14, rfl, ho9, b9⟩
  rw [els_split, els_len] at ho9
  clear X_C
  replace N_b := hid (N_b.out.below b9)
  replace N_S := hid (N_S.out.below b9)
  replace N_U := hid (N_U.out.below b9)
  replace N_x := hid (N_x.out.below b9)
  replace N_y := hid (N_y.out.below b9)
  replace N_z := hid (N_z.out.below b9)
  replace N_p := hid (N_p.out.below b9)
  replace N_q := hid (N_q.out.below b9)
  replace N_r := hid (N_r.out.below b9)
  replace T := hid (T.out.keep b9)
  replace BW := hid (BW.out.trans (b9.mono BW.out.size))
  clear b9
  have N_w := hid (nums_own (by rw [els_len]; exact ho9) (fun x hx => Nat.lt_trans (els_lt l (n + k) (by have := fP_two b; omega) x hx) (fP_lt b)))
  clear ho9 N_x N_y
  go_wp2_with fail
  refine (equale_same _ _ (els (fP b) l (n + k)) (by rw [els_len]; omega) _ N_w.out N_z.out).mono ?_
  rintro e v15 ⟨rfl, b9⟩
  replace N_b := hid (N_b.out.below b9)
  replace N_S := hid (N_S.out.below b9)
  replace N_U := hid (N_U.out.below b9)
  replace N_z := hid (N_z.out.below b9)
  replace N_p := hid (N_p.out.below b9)
  replace N_q := hid (N_q.out.below b9)
  replace N_r := hid (N_r.out.below b9)
  replace N_w := hid (N_w.out.below b9)
  replace T := hid (T.out.keep b9)
  replace BW := hid (BW.out.trans (b9.mono BW.out.size))
  clear b9
  clear N_w N_z
  go_wp2_with fail
  obtain ⟨v16, hv9⟩ : ∃ v, (v15.alloc (.cells #[.slice a_p n c_p, .slice a_q k c_q] 22)) = v := ⟨_, rfl⟩
  have hG9 : Below v15.heap.size v15 v16 := by rw [← hv9]; go_grown
  have X_G : Blk v16 (v15.heap.size) 22 [.slice a_p n c_p, .slice a_q k c_q] := by rw [← hv9]; exact Blk.new rfl
  obtain ⟨bG, hb9⟩ : ∃ k, v15.heap.size = k := ⟨_, rfl⟩
  rw [hb9] at X_G
  have g_bG : w.heap.size ≤ bG := by rw [← hb9]; exact BW.out.size
  have q_S_bG := N_S.out.lt
  rw [hb9] at q_S_bG
  have q_U_bG := N_U.out.lt
  rw [hb9] at q_U_bG
  replace N_b := hid (N_b.out.below hG9)
  replace N_S := hid (N_S.out.below hG9)
  replace N_U := hid (N_U.out.below hG9)
  replace N_p := hid (N_p.out.below hG9)
  replace N_q := hid (N_q.out.below hG9)
  replace N_r := hid (N_r.out.below hG9)
  replace T := hid (T.out.keep hG9)
  replace BW := hid (BW.out.trans (hG9.mono BW.out.size))
  clear hG9
  rw [hv9]
  try rw [hb9]
  clear hv9 hb9
  obtain ⟨D1, hD1⟩ : ∃ q, (l.drop (64 * n)).drop (64 * k) = q := ⟨_, rfl⟩
  have hD2 : l.drop (64 * (n + k)) = D1 := by rw [← hD1, List.drop_drop, Nat.mul_add]
  rw [hD1] at N_p N_q N_S
  rw [hD2] at N_r N_U
  have hDl : n + k ≤ D1.length := by rw [← hD2]; simp; omega
  refine (concat_b bG 2 _ _ (D1.take n) ((D1.drop n).take k) _ (X_G.cell (i := 0) rfl) (X_G.cell (i := 1) rfl) N_p.out N_q.out (by simp; omega)).mono ?_
  rintro e v17 ⟨rv17, rfl, ho9, b9⟩
  rw [← List.take_add] at ho9
  clear X_G
  have hl9 : (D1.take (n + k)).length = n + k := by rw [List.length_take]; omega
  replace N_b := hid (N_b.out.below b9)
  replace N_S := hid (N_S.out.below b9)
  replace N_U := hid (N_U.out.below b9)
  replace N_p := hid (N_p.out.below b9)
  replace N_q := hid (N_q.out.below b9)
  replace N_r := hid (N_r.out.below b9)
  replace T := hid (T.out.keep b9)
  replace BW := hid (BW.out.trans (b9.mono BW.out.size))
  clear b9
  have N_w := hid (bys_own ho9 rfl N_r.out.byt)
  clear ho9 N_p N_q
  go_wp2_with fail
  refine (equal_same _ _ (D1.take (n + k)) _ N_w.out N_r.out).mono ?_
  rintro e v18 ⟨rfl, b9⟩
  replace N_b := hid (N_b.out.below b9)
  replace N_S := hid (N_S.out.below b9)
  replace N_U := hid (N_U.out.below b9)
  replace N_r := hid (N_r.out.below b9)
  replace N_w := hid (N_w.out.below b9)
  replace T := hid (T.out.keep b9)
  replace BW := hid (BW.out.trans (b9.mono BW.out.size))
  clear b9
  obtain ⟨n9, hn9⟩ : ∃ q, (D1.drop (n + k)).length = q := ⟨_, rfl⟩
  have LS := left_ret sS gS _ _ N_S.out
  have LU := hid (fun (W : World) (h : Src W 65 sU gU (D1.drop (n + k))) => left_ret sU gU _ W h)
  rw [List.drop_drop, hn9] at LS
  rw [hn9] at LU
  have HLS := hid LS
  clear LS hn9
  go_wp2_with fail
  refine (HLS.out).mono ?_
  rintro e v19 ⟨rfl, b9⟩
  replace N_b := hid (N_b.out.below b9)
  replace N_S := hid (N_S.out.below b9)
  replace N_U := hid (N_U.out.below b9)
  replace N_r := hid (N_r.out.below b9)
  replace N_w := hid (N_w.out.below b9)
  replace T := hid (T.out.keep b9)
  replace BW := hid (BW.out.trans (b9.mono BW.out.size))
  clear b9
  clear HLS
  go_wp2_with fail
  refine (LU.out _ N_U.out).mono ?_
  rintro e v20 ⟨rfl, b9⟩
  replace N_b := hid (N_b.out.below b9)
  replace N_S := hid (N_S.out.below b9)
  replace N_U := hid (N_U.out.below b9)
  replace N_r := hid (N_r.out.below b9)
  replace N_w := hid (N_w.out.below b9)
  replace T := hid (T.out.keep b9)
  replace BW := hid (BW.out.trans (b9.mono BW.out.size))
  clear b9
  go_wp2
  go_ret
  exact ⟨rfl, BW.out⟩
end Go.Proofs.YtaakdmjmanbggaaDoor
