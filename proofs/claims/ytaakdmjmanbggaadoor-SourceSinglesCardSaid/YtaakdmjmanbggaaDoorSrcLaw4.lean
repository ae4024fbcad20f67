/-
  SourceSingles: Element returns the first one of Elements, or ErrRandom.
-/
import Derived.Test.YtaakdmjmanbggaaDoorAlive14
import Derived.Test.YtaakdmjmanbggaaDoorElEq
import Derived.Deep.RegionHeld3
import Derived.Deep.DeepCutAuto
import Derived.Deep.QuietTactic
namespace Go.Proofs.YtaakdmjmanbggaaDoor
open Go.RowKit

theorem ekn_one {m : Nat} (h : 64 ≤ m) : chk m 1 64 = 0 ∧ ekn m 1 = 1 := by
  have e : chk m 1 64 = 0 := by unfold chk; rw [if_neg (by omega), if_neg (by omega)]
  exact ⟨e, by unfold ekn; rw [if_pos e]; rfl⟩
theorem ekn_few {m : Nat} (h : m < 64) : chk m 1 64 = 7 ∧ ekn m 1 = 0 := by
  have e : chk m 1 64 = 7 := by unfold chk; rw [if_neg (by omega), if_pos (by omega)]
  exact ⟨e, by unfold ekn; rw [if_neg (by rw [e]; decide)]⟩
set_option maxRecDepth 100000 in
set_option maxHeartbeats 8000000 in
theorem singles_law (b : Bool) (v : Value) (l : List Nat) (w : World) (hT : Tab w) (hS : ByteSl w v l) :
    Calls Tryd.prog 7 #[.bool b, v] w (Ret (.bool true) w) := by
  have BW := hid (Below.refl w.heap.size w)
  have T := hid hT
  have T0 := hid hT
  have N_b := hid hS
  obtain ⟨a, cap, rfl, _, _⟩ := hS
  clear hT
  by_cases h1 : 2000 < l.length
  · skip
    go_enter Tryd.func7, Tryd.ntmps7
    go_wp2_with fail
    refine (alive_any _ T.out).mono ?_
    rintro e v1 ⟨rfl, b9⟩
    replace N_b := hid (N_b.out.below b9)
    replace T := hid (T.out.keep b9)
    replace BW := hid (BW.out.trans (b9.mono BW.out.size))
    clear b9
    go_wp2
    go_ret
    exact ⟨rfl, BW.out⟩
  have hl : l.length < 1000000 := by omega
  go_enter Tryd.func7, Tryd.ntmps7
  go_wp2_with fail
  refine (lget_any b _ T.out).mono ?_
  rintro e v1 ⟨rfl, b9⟩
  replace N_b := hid (N_b.out.below b9)
  replace T := hid (T.out.keep b9)
  replace BW := hid (BW.out.trans (b9.mono BW.out.size))
  clear b9
  go_wp2_with fail
  obtain ⟨v2, hv9⟩ : ∃ v, ((v1.alloc (.cells #[.int .i64 (fID b), .int .u64 (limb (fP b) 0 : Int), .int .u64 (limb (fP b) 1 : Int), .int .u64 (limb (fP b) 2 : Int), .int .u64 (limb (fP b) 3 : Int), .int .u64 (fI b : Int), .int .u64 (limb (fO b) 0 : Int), .int .u64 (limb (fO b) 1 : Int), .int .u64 (limb (fO b) 2 : Int), .int .u64 (limb (fO b) 3 : Int), .int .u64 (limb (fS b) 0 : Int), .int .u64 (limb (fS b) 1 : Int), .int .u64 (limb (fS b) 2 : Int), .int .u64 (limb (fS b) 3 : Int)] 44)).alloc (.cells #[.int .u64 (limb (fP b) 0 : Int), .int .u64 (limb (fP b) 1 : Int), .int .u64 (limb (fP b) 2 : Int), .int .u64 (limb (fP b) 3 : Int)] 41)) = v := ⟨_, rfl⟩
  have hG9 : Below v1.heap.size v1 v2 := by rw [← hv9]; go_grown
  have X_F : Blk v2 (v1.heap.size) 44 [.int .i64 (fID b), .int .u64 (limb (fP b) 0 : Int), .int .u64 (limb (fP b) 1 : Int), .int .u64 (limb (fP b) 2 : Int), .int .u64 (limb (fP b) 3 : Int), .int .u64 (fI b : Int), .int .u64 (limb (fO b) 0 : Int), .int .u64 (limb (fO b) 1 : Int), .int .u64 (limb (fO b) 2 : Int), .int .u64 (limb (fO b) 3 : Int), .int .u64 (limb (fS b) 0 : Int), .int .u64 (limb (fS b) 1 : Int), .int .u64 (limb (fS b) 2 : Int), .int .u64 (limb (fS b) 3 : Int)] := by rw [← hv9]; exact Blk.alloc (Blk.new rfl) _
  have X_P : Blk v2 (v1.heap.size + 1) 41 [.int .u64 (limb (fP b) 0 : Int), .int .u64 (limb (fP b) 1 : Int), .int .u64 (limb (fP b) 2 : Int), .int .u64 (limb (fP b) 3 : Int)] := by rw [← hv9]; exact Blk.new (by simp)
  obtain ⟨bF, hb9⟩ : ∃ k, v1.heap.size = k := ⟨_, rfl⟩
  rw [hb9] at X_F
  rw [hb9] at X_P
  have g_bF : w.heap.size ≤ bF := by rw [← hb9]; exact BW.out.size
  replace N_b := hid (N_b.out.below hG9)
  replace T := hid (T.out.keep hG9)
  replace BW := hid (BW.out.trans (hG9.mono BW.out.size))
  clear hG9
  rw [hv9]
  try rw [hb9]
  clear hv9 hb9
  refine (newsrc_any _ l _ N_b.out (by first | decide | (simp; omega) | omega)).mono ?_
  rintro e v3 ⟨sS, gS, rfl, hs9, gs9, gg9, gl9, b9⟩
  have g_sS := gs9
  have g_gS := gg9
  have h_gS := gl9
  clear gs9 gg9 gl9
  have h_sS := hs9.lt
  have n_sS_F := X_F.lt
  have n_sS_P := X_P.lt
  have n_sS_w := BW.out.size
  have N_S := hid hs9
  clear hs9
  replace X_F := X_F.keep b9
  replace X_P := X_P.keep b9
  replace N_b := hid (N_b.out.below b9)
  replace T := hid (T.out.keep b9)
  replace BW := hid (BW.out.trans (b9.mono BW.out.size))
  clear b9
  go_wp2_with fail
  refine (newsrc_any _ l _ N_b.out (by first | decide | (simp; omega) | omega)).mono ?_
  rintro e v4 ⟨sU, gU, rfl, hs9, gs9, gg9, gl9, b9⟩
  have g_sU := gs9
  have g_gU := gg9
  have h_gU := gl9
  clear gs9 gg9 gl9
  have h_sU := hs9.lt
  have n_sU_S := N_S.out.lt
  have n_sU_F := X_F.lt
  have n_sU_P := X_P.lt
  have n_sU_w := BW.out.size
  have N_U := hid hs9
  clear hs9
  replace X_F := X_F.keep b9
  replace X_P := X_P.keep b9
  replace N_b := hid (N_b.out.below b9)
  replace N_S := hid (N_S.out.below b9)
  replace T := hid (T.out.keep b9)
  replace BW := hid (BW.out.trans (b9.mono BW.out.size))
  clear b9
  go_wp2_with fail
  go_loopw [32] (fun i wr => ∃ k j : Nat, k ≤ 5 ∧ i = .int .i64 (k : Int) ∧ Src wr 65 sS gS (l.drop j) ∧ Src wr 65 sU gU (l.drop j) ∧ Below w.heap.size w wr ∧ Blk wr bF 44 [.int .i64 (fID b), .int .u64 (limb (fP b) 0 : Int), .int .u64 (limb (fP b) 1 : Int), .int .u64 (limb (fP b) 2 : Int), .int .u64 (limb (fP b) 3 : Int), .int .u64 (fI b : Int), .int .u64 (limb (fO b) 0 : Int), .int .u64 (limb (fO b) 1 : Int), .int .u64 (limb (fO b) 2 : Int), .int .u64 (limb (fO b) 3 : Int), .int .u64 (limb (fS b) 0 : Int), .int .u64 (limb (fS b) 1 : Int), .int .u64 (limb (fS b) 2 : Int), .int .u64 (limb (fS b) 3 : Int)] ∧ sS < wr.heap.size ∧ sU < wr.heap.size) (fun i _ => 5 - (intOf i).toNat)
  case atStart => exact ⟨0, 0, Nat.zero_le _, rfl, by rw [List.drop_zero]; exact N_S.out, by rw [List.drop_zero]; exact N_U.out, BW.out, X_F, N_S.out.lt, N_U.out.lt⟩
  case round =>
    obtain ⟨k, j, hk, rfl, hs, hu, hB, hX, zS, zU⟩ := hrel
    replace N_S := hid hs
    replace N_U := hid hu
    replace BW := hid hB
    replace X_F := hX
    clear hs hu hB hX N_b X_P
    replace T := hid (T0.out.below BW.out (Nat.le_refl _))
    by_cases hlt : k < 5
    · skip
      obtain ⟨L, hL⟩ : ∃ q, l.drop j = q := ⟨_, rfl⟩
      rw [hL] at N_S N_U
      have hLn : L.length < 1000000 := by rw [← hL]; simp; omega
      have HL := hid hL
      clear hL
      by_cases hq : 64 ≤ L.length
      · skip
        have z_F := X_F.lt
        have c_F0 := X_F.cell (i := 0) rfl
        have c_F1 := X_F.cell (i := 1) rfl
        have c_F2 := X_F.cell (i := 2) rfl
        have c_F3 := X_F.cell (i := 3) rfl
        have c_F4 := X_F.cell (i := 4) rfl
        have c_F5 := X_F.cell (i := 5) rfl
        have c_F6 := X_F.cell (i := 6) rfl
        have c_F7 := X_F.cell (i := 7) rfl
        have c_F8 := X_F.cell (i := 8) rfl
        have c_F9 := X_F.cell (i := 9) rfl
        have c_F10 := X_F.cell (i := 10) rfl
        have c_F11 := X_F.cell (i := 11) rfl
        have c_F12 := X_F.cell (i := 12) rfl
        have c_F13 := X_F.cell (i := 13) rfl
        go_wp2_with fail
        have EC := hid (fun (W : World) (h : Src W 65 sS gS L) => element_ok b sS gS L hLn hq W h)
        obtain ⟨z, hz⟩ : ∃ z, frm (fP b) (wid (fP b) (L.take 64)) = z := ⟨_, rfl⟩
        rw [hz] at EC
        have hze : els (fP b) L 1 = [z] := by rw [← hz]; unfold els; simp
        have hzl : ∀ x ∈ [z], x < B256 := by intro x hx; rw [List.mem_singleton] at hx; rw [hx, ← hz]; exact Nat.lt_trans (frm_lt _ (by have := fP_two b; omega)) (fP_lt b)
        clear hz
        refine (EC.out _ N_S.out).mono ?_
        rintro e v5 ⟨rfl, hs9, hO9⟩
        clear EC
        clear z_F c_F0 c_F1 c_F2 c_F3 c_F4 c_F5 c_F6 c_F7 c_F8 c_F9 c_F10 c_F11 c_F12 c_F13
        replace X_F := X_F.only hO9 (by omega)
        replace N_U := hid (N_U.out.other N_S.out (by omega) hO9)
        replace BW := hid (Below.src BW.out hO9 (by omega))
        replace T := hid (T0.out.below BW.out (Nat.le_refl _))
        replace N_S := hid hs9
        clear hs9
        clear hO9
        have z_F := X_F.lt
        have c_F0 := X_F.cell (i := 0) rfl
        have c_F1 := X_F.cell (i := 1) rfl
        have c_F2 := X_F.cell (i := 2) rfl
        have c_F3 := X_F.cell (i := 3) rfl
        have c_F4 := X_F.cell (i := 4) rfl
        have c_F5 := X_F.cell (i := 5) rfl
        have c_F6 := X_F.cell (i := 6) rfl
        have c_F7 := X_F.cell (i := 7) rfl
        have c_F8 := X_F.cell (i := 8) rfl
        have c_F9 := X_F.cell (i := 9) rfl
        have c_F10 := X_F.cell (i := 10) rfl
        have c_F11 := X_F.cell (i := 11) rfl
        have c_F12 := X_F.cell (i := 12) rfl
        have c_F13 := X_F.cell (i := 13) rfl
        go_wp2_with fail
        obtain ⟨v6, hv9⟩ : ∃ v, (v5.alloc (.cells #[.int .u64 (limb z 0 : Int), .int .u64 (limb z 1 : Int), .int .u64 (limb z 2 : Int), .int .u64 (limb z 3 : Int)] 42)) = v := ⟨_, rfl⟩
        have hG9 : Below v5.heap.size v5 v6 := by rw [← hv9]; go_grown
        have X_X : Blk v6 (v5.heap.size) 42 [.int .u64 (limb z 0 : Int), .int .u64 (limb z 1 : Int), .int .u64 (limb z 2 : Int), .int .u64 (limb z 3 : Int)] := by rw [← hv9]; exact Blk.new rfl
        obtain ⟨bX, hb9⟩ : ∃ k, v5.heap.size = k := ⟨_, rfl⟩
        rw [hb9] at X_X
        have g_bX : w.heap.size ≤ bX := by rw [← hb9]; exact BW.out.size
        have q_F_bX : bF < bX := by rw [← hb9]; exact X_F.lt
        have q_S_bX := N_S.out.lt
        rw [hb9] at q_S_bX
        have q_U_bX := N_U.out.lt
        rw [hb9] at q_U_bX
        clear z_F c_F0 c_F1 c_F2 c_F3 c_F4 c_F5 c_F6 c_F7 c_F8 c_F9 c_F10 c_F11 c_F12 c_F13
        replace X_F := X_F.keep hG9
        replace N_S := hid (N_S.out.below hG9)
        replace N_U := hid (N_U.out.below hG9)
        replace T := hid (T.out.keep hG9)
        replace BW := hid (BW.out.trans (hG9.mono BW.out.size))
        clear hG9
        rw [hv9]
        try rw [hb9]
        clear hv9 hb9
        refine (elements_any b sU gU L 1 hLn _ N_U.out).mono ?_
        rintro e v7 ⟨r, rfl, ho9, hs9, hO9⟩
        obtain ⟨q1, q2⟩ := ekn_one hq
        rw [q1]
        rw [q2] at ho9 hs9
        clear q1 q2
        replace X_F := X_F.only hO9 (by omega)
        replace X_X := X_X.only hO9 (by omega)
        replace N_S := hid (N_S.out.other N_U.out (by omega) hO9)
        replace BW := hid (Below.src BW.out hO9 (by omega))
        replace T := hid (T0.out.below BW.out (Nat.le_refl _))
        replace N_U := hid hs9
        clear hs9
        clear hO9
        rw [hze] at ho9
        have N_r := hid (nums_own (xs := [z]) ho9 hzl)
        obtain ⟨ar, cr, rfl, _, _, _⟩ := owns_form ho9
        clear ho9 hze
        obtain ⟨n9, hn9⟩ : ∃ q, (L.drop 64).length = q := ⟨_, rfl⟩
        have LS := left_any sS gS _ _ N_S.out
        have LU := left_any sU gU _ _ N_U.out
        rw [Nat.mul_one] at LU
        rw [hn9] at LS LU
        have HLS := hid LS
        have HLU := hid LU
        clear LS LU hn9
        have z_X := X_X.lt
        have c_X0 := X_X.cell (i := 0) rfl
        have c_X1 := X_X.cell (i := 1) rfl
        have c_X2 := X_X.cell (i := 2) rfl
        have c_X3 := X_X.cell (i := 3) rfl
        go_wp2_with fail
        refine HLS.out.mono ?_
        rintro e w' ⟨rfl, rfl⟩
        go_wp2_with fail
        refine HLU.out.mono ?_
        rintro e w' ⟨rfl, rfl⟩
        clear z_X c_X0 c_X1 c_X2 c_X3
        have z_X := X_X.lt
        have c_X0 := X_X.cell (i := 0) rfl
        have c_X1 := X_X.cell (i := 1) rfl
        have c_X2 := X_X.cell (i := 2) rfl
        have c_X3 := X_X.cell (i := 3) rfl
        go_wp2_with fail
        obtain ⟨v8, hv9⟩ : ∃ v, (v7.alloc (.cells #[.int .u64 (limb z 0 : Int), .int .u64 (limb z 1 : Int), .int .u64 (limb z 2 : Int), .int .u64 (limb z 3 : Int)] 42)) = v := ⟨_, rfl⟩
        have hG9 : Below v7.heap.size v7 v8 := by rw [← hv9]; go_grown
        have X_Y : Blk v8 (v7.heap.size) 42 [.int .u64 (limb z 0 : Int), .int .u64 (limb z 1 : Int), .int .u64 (limb z 2 : Int), .int .u64 (limb z 3 : Int)] := by rw [← hv9]; exact Blk.new rfl
        obtain ⟨bY, hb9⟩ : ∃ k, v7.heap.size = k := ⟨_, rfl⟩
        rw [hb9] at X_Y
        have g_bY : w.heap.size ≤ bY := by rw [← hb9]; exact BW.out.size
        have q_F_bY : bF < bY := by rw [← hb9]; exact X_F.lt
        have q_X_bY : bX < bY := by rw [← hb9]; exact X_X.lt
        have q_S_bY := N_S.out.lt
        rw [hb9] at q_S_bY
        have q_U_bY := N_U.out.lt
        rw [hb9] at q_U_bY
        clear z_X c_X0 c_X1 c_X2 c_X3
        replace X_F := X_F.keep hG9
        replace X_X := X_X.keep hG9
        replace N_S := hid (N_S.out.below hG9)
        replace N_U := hid (N_U.out.below hG9)
        replace N_r := hid (N_r.out.below hG9)
        replace T := hid (T.out.keep hG9)
        replace BW := hid (BW.out.trans (hG9.mono BW.out.size))
        clear hG9
        rw [hv9]
        try rw [hb9]
        clear hv9 hb9
        have N_y := hid (show NumSl v8 (.slice (some ⟨bY, 0, none⟩) 1 1) [z] from ⟨_, 1, rfl, Nat.le_refl _, .inr ⟨bY, 0, rfl, fun j x hj => by
          match j with
          | 0 =>
            cases hj
            exact ⟨hzl z (List.mem_singleton.2 rfl), X_Y.cell (i := 0) rfl, X_Y.cell (i := 1) rfl, X_Y.cell (i := 2) rfl, X_Y.cell (i := 3) rfl⟩
          | j + 1 => simp at hj⟩⟩)
        refine (equale_same _ _ [z] (by simp) _ N_r.out N_y.out).mono ?_
        rintro e v9 ⟨rfl, b9⟩
        replace X_F := X_F.keep b9
        replace X_X := X_X.keep b9
        replace X_Y := X_Y.keep b9
        replace N_S := hid (N_S.out.below b9)
        replace N_U := hid (N_U.out.below b9)
        replace N_r := hid (N_r.out.below b9)
        replace N_y := hid (N_y.out.below b9)
        replace T := hid (T.out.keep b9)
        replace BW := hid (BW.out.trans (b9.mono BW.out.size))
        clear b9
        go_wp2
        go_roundw
        case rel => exact ⟨k + 1, j + 64, by omega, by go_num, by rw [← List.drop_drop, HL.out]; exact N_S.out, by rw [← List.drop_drop, HL.out]; exact N_U.out, BW.out, X_F, N_S.out.lt, N_U.out.lt⟩
        case measure => simp [intOf]; omega
      · skip
        have z_F := X_F.lt
        have c_F0 := X_F.cell (i := 0) rfl
        have c_F1 := X_F.cell (i := 1) rfl
        have c_F2 := X_F.cell (i := 2) rfl
        have c_F3 := X_F.cell (i := 3) rfl
        have c_F4 := X_F.cell (i := 4) rfl
        have c_F5 := X_F.cell (i := 5) rfl
        have c_F6 := X_F.cell (i := 6) rfl
        have c_F7 := X_F.cell (i := 7) rfl
        have c_F8 := X_F.cell (i := 8) rfl
        have c_F9 := X_F.cell (i := 9) rfl
        have c_F10 := X_F.cell (i := 10) rfl
        have c_F11 := X_F.cell (i := 11) rfl
        have c_F12 := X_F.cell (i := 12) rfl
        have c_F13 := X_F.cell (i := 13) rfl
        go_wp2_with fail
        have EC := hid (fun (W : World) (h : Src W 65 sS gS L) => element_no b sS gS L hLn (by omega) W h)
        rw [limbs_zero] at EC
        refine (EC.out _ N_S.out).mono ?_
        rintro e v10 ⟨rfl, hs9, hO9⟩
        clear EC
        clear z_F c_F0 c_F1 c_F2 c_F3 c_F4 c_F5 c_F6 c_F7 c_F8 c_F9 c_F10 c_F11 c_F12 c_F13
        replace X_F := X_F.only hO9 (by omega)
        replace N_U := hid (N_U.out.other N_S.out (by omega) hO9)
        replace BW := hid (Below.src BW.out hO9 (by omega))
        replace T := hid (T0.out.below BW.out (Nat.le_refl _))
        replace N_S := hid hs9
        clear hs9
        clear hO9
        have z_F := X_F.lt
        have c_F0 := X_F.cell (i := 0) rfl
        have c_F1 := X_F.cell (i := 1) rfl
        have c_F2 := X_F.cell (i := 2) rfl
        have c_F3 := X_F.cell (i := 3) rfl
        have c_F4 := X_F.cell (i := 4) rfl
        have c_F5 := X_F.cell (i := 5) rfl
        have c_F6 := X_F.cell (i := 6) rfl
        have c_F7 := X_F.cell (i := 7) rfl
        have c_F8 := X_F.cell (i := 8) rfl
        have c_F9 := X_F.cell (i := 9) rfl
        have c_F10 := X_F.cell (i := 10) rfl
        have c_F11 := X_F.cell (i := 11) rfl
        have c_F12 := X_F.cell (i := 12) rfl
        have c_F13 := X_F.cell (i := 13) rfl
        go_wp2_with fail
        obtain ⟨v11, hv9⟩ : ∃ v, (v10.alloc (.cells #[.int .u64 0, .int .u64 0, .int .u64 0, .int .u64 0] 42)) = v := ⟨_, rfl⟩
        have hG9 : Below v10.heap.size v10 v11 := by rw [← hv9]; go_grown
        have X_X : Blk v11 (v10.heap.size) 42 [.int .u64 0, .int .u64 0, .int .u64 0, .int .u64 0] := by rw [← hv9]; exact Blk.new rfl
        obtain ⟨bX, hb9⟩ : ∃ k, v10.heap.size = k := ⟨_, rfl⟩
        rw [hb9] at X_X
        have g_bX : w.heap.size ≤ bX := by rw [← hb9]; exact BW.out.size
        have q_F_bX : bF < bX := by rw [← hb9]; exact X_F.lt
        have q_S_bX := N_S.out.lt
        rw [hb9] at q_S_bX
        have q_U_bX := N_U.out.lt
        rw [hb9] at q_U_bX
        clear z_F c_F0 c_F1 c_F2 c_F3 c_F4 c_F5 c_F6 c_F7 c_F8 c_F9 c_F10 c_F11 c_F12 c_F13
        replace X_F := X_F.keep hG9
        replace N_S := hid (N_S.out.below hG9)
        replace N_U := hid (N_U.out.below hG9)
        replace T := hid (T.out.keep hG9)
        replace BW := hid (BW.out.trans (hG9.mono BW.out.size))
        clear hG9
        rw [hv9]
        try rw [hb9]
        clear hv9 hb9
        refine (elements_any b sU gU L 1 hLn _ N_U.out).mono ?_
        rintro e v12 ⟨r, rfl, ho9, hs9, hO9⟩
        obtain ⟨q1, q2⟩ := ekn_few (show L.length < 64 by omega)
        rw [q1]
        rw [q2] at ho9 hs9
        clear q1 q2
        replace X_F := X_F.only hO9 (by omega)
        replace X_X := X_X.only hO9 (by omega)
        replace N_S := hid (N_S.out.other N_U.out (by omega) hO9)
        replace BW := hid (Below.src BW.out hO9 (by omega))
        replace T := hid (T0.out.below BW.out (Nat.le_refl _))
        replace N_U := hid hs9
        clear hs9
        clear hO9
        obtain ⟨ar, cr, rfl, _, _, _⟩ := owns_form ho9
        clear ho9
        obtain ⟨n9, hn9⟩ : ∃ q, (L.drop (64 * 0)).length = q := ⟨_, rfl⟩
        have N_S2 := hid (show Src v12 65 sS gS (L.drop (64 * 0)) from by rw [Nat.mul_zero, List.drop_zero]; exact N_S.out)
        have LS := left_any sS gS _ _ N_S2.out
        have LU := left_any sU gU _ _ N_U.out
        rw [hn9] at LS LU

        have HLS := hid LS
        have HLU := hid LU
        clear LS LU hn9
        have z_X := X_X.lt
        have c_X0 := X_X.cell (i := 0) rfl
        have c_X1 := X_X.cell (i := 1) rfl
        have c_X2 := X_X.cell (i := 2) rfl
        have c_X3 := X_X.cell (i := 3) rfl
        have heq := fun W : World => eq_same_el 0 0 0 0 W
        go_wp2_with fail
        refine HLS.out.mono ?_
        rintro e w' ⟨rfl, rfl⟩
        go_wp2_with fail
        refine HLU.out.mono ?_
        rintro e w' ⟨rfl, rfl⟩
        go_wp2
        go_roundw
        case rel => exact ⟨k + 1, j, by omega, by go_num, by rw [HL.out]; exact N_S.out, by rw [HL.out]; simpa using N_U.out, BW.out, X_F, N_S.out.lt, N_U.out.lt⟩
        case measure => simp [intOf]; omega
    · skip
      clear N_S N_U X_F
      go_wp2_with fail
      refine (alive_any _ T.out).mono ?_
      rintro e v13 ⟨rfl, b9⟩
      replace T := hid (T.out.keep b9)
      replace BW := hid (BW.out.trans (b9.mono BW.out.size))
      clear b9
      go_wp2
      go_ret
      exact ⟨rfl, BW.out⟩
end Go.Proofs.YtaakdmjmanbggaaDoor
