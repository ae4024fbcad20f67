/-
  SourceElements: for every field, all bytes and every sequence of numbers, Elements returns the same elements, or the same error, as the reference.
-/
import Derived.Test.YtaakdmjmanbggaaDoorAlive14
import Derived.Test.YtaakdmjmanbggaaDoorRElems
import Derived.Deep.RegionHeld3
import Derived.Deep.DeepCutAuto
import Derived.Deep.QuietTactic
namespace Go.Proofs.YtaakdmjmanbggaaDoor
open Go.RowKit

theorem wids_lt {p : Nat} (l : List Nat) (n : Nat) (hp : 0 < p) : ∀ x ∈ wids p l n, x < p := fun x hx => by
  unfold wids at hx
  obtain ⟨i, _, rfl⟩ := List.mem_map.1 hx
  exact wid_lt _ hp
theorem ekn_le (m : Nat) (n : Int) : ekn m n ≤ m := by
  by_cases h : chk m n 64 = 0
  · obtain ⟨k, _, h1, h2⟩ := echk_ok h; omega
  · unfold ekn; rw [if_neg h]; omega
set_option maxRecDepth 100000 in
set_option maxHeartbeats 8000000 in
theorem elements_law (b : Bool) (v u : Value) (l : List Nat) (m : List Int) (w : World) (hT : Tab w) (hS : ByteSl w v l) (hI : IntSl w u m) :
    Calls Tryd.prog 5 #[.bool b, v, u] w (Ret (.bool true) w) := by
  have BW := hid (Below.refl w.heap.size w)
  have T := hid hT
  have T0 := hid hT
  have N_b := hid hS
  have N_i := hid hI
  obtain ⟨a, cap, rfl, _, _⟩ := hS
  obtain ⟨a2, cap2, rfl, _⟩ := hI
  clear hT
  by_cases h1 : 2000 < l.length
  · skip
    go_enter Tryd.func5, Tryd.ntmps5
    go_wp2_with fail
    refine (alive_any _ T.out).mono ?_
    rintro e v1 ⟨rfl, b9⟩
    replace N_b := hid (N_b.out.below b9)
    replace N_i := hid (N_i.out.below b9)
    replace T := hid (T.out.keep b9)
    replace BW := hid (BW.out.trans (b9.mono BW.out.size))
    clear b9
    go_wp2
    go_ret
    exact ⟨rfl, BW.out⟩
  by_cases h2 : 30 < m.length
  · skip
    go_enter Tryd.func5, Tryd.ntmps5
    go_wp2_with fail
    refine (alive_any _ T.out).mono ?_
    rintro e v1 ⟨rfl, b9⟩
    replace N_b := hid (N_b.out.below b9)
    replace N_i := hid (N_i.out.below b9)
    replace T := hid (T.out.keep b9)
    replace BW := hid (BW.out.trans (b9.mono BW.out.size))
    clear b9
    go_wp2
    go_ret
    exact ⟨rfl, BW.out⟩
  have hl : l.length < 1000000 := by omega
  go_enter Tryd.func5, Tryd.ntmps5
  go_wp2_with fail
  refine (lget_any b _ T.out).mono ?_
  rintro e v1 ⟨rfl, b9⟩
  replace N_b := hid (N_b.out.below b9)
  replace N_i := hid (N_i.out.below b9)
  replace T := hid (T.out.keep b9)
  replace BW := hid (BW.out.trans (b9.mono BW.out.size))
  clear b9
  go_wp2_with fail
  obtain ⟨v2, hv9⟩ : ∃ v, ((v1.alloc (.cells #[.int .i64 (fID b), .int .u64 (limb (fP b) 0 : Int), .int .u64 (limb (fP b) 1 : Int), .int .u64 (limb (fP b) 2 : Int), .int .u64 (limb (fP b) 3 : Int), .int .u64 (fI b : Int), .int .u64 (limb (fO b) 0 : Int), .int .u64 (limb (fO b) 1 : Int), .int .u64 (limb (fO b) 2 : Int), .int .u64 (limb (fO b) 3 : Int), .int .u64 (limb (fS b) 0 : Int), .int .u64 (limb (fS b) 1 : Int), .int .u64 (limb (fS b) 2 : Int), .int .u64 (limb (fS b) 3 : Int)] 44)).alloc (.cells #[.int .u64 (limb (fP b) 0 : Int), .int .u64 (limb (fP b) 1 : Int), .int .u64 (limb (fP b) 2 : Int), .int .u64 (limb (fP b) 3 : Int)] 41)) = v := ⟨_, rfl⟩
  have hG9 : Below v1.heap.size v1 v2 := by rw [← hv9]; go_grown
  have X_F : Blk v2 (v1.heap.size) 44 [.int .i64 (fID b), .int .u64 (limb (fP b) 0 : Int), .int .u64 (limb (fP b) 1 : Int), .int .u64 (limb (fP b) 2 : Int), .int .u64 (limb (fP b) 3 : Int), .int .u64 (fI b : Int), .int .u64 (limb (fO b) 0 : Int), .int .u64 (limb (fO b) 1 : Int), .int .u64 (limb (fO b) 2 : Int), .int .u64 (limb (fO b) 3 : Int), .int .u64 (limb (fS b) 0 : Int), .int .u64 (limb (fS b) 1 : Int), .int .u64 (limb (fS b) 2 : Int), .int .u64 (limb (fS b) 3 : Int)] := by rw [← hv9]; exact Blk.alloc (Blk.new rfl) _
  have X_P : Blk v2 (v1.heap.size + 1) 41 [.int .u64 (limb (fP b) 0 : Int), .int .u64 (limb (fP b) 1 : Int), .int .u64 (limb (fP b) 2 : Int), .int .u64 (limb (fP b) 3 : Int)] := by rw [← hv9]; exact Blk.new (by simp)
  obtain ⟨bF, hb9⟩ : ∃ k, v1.heap.size = k := ⟨_, rfl⟩
  rw [hb9] at X_F
  rw [hb9] at X_P
  have g_bF : w.heap.size ≤ bF := by rw [← hb9]; exact BW.out.size
  replace N_b := hid (N_b.out.below hG9)
  replace N_i := hid (N_i.out.below hG9)
  replace T := hid (T.out.keep hG9)
  replace BW := hid (BW.out.trans (hG9.mono BW.out.size))
  clear hG9
  rw [hv9]
  try rw [hb9]
  clear hv9 hb9
  refine (newsrc_any _ l _ N_b.out (by first | decide | (simp; omega) | omega)).mono ?_
  rintro e v3 ⟨sS, gS, rfl, hs9, gs9, gg9, gl9, b9⟩
  have g_sS := gs9
  have g_gS := gg9
  have h_gS := gl9
  clear gs9 gg9 gl9
  have h_sS := hs9.lt
  have n_sS_F := X_F.lt
  have n_sS_P := X_P.lt
  have n_sS_w := BW.out.size
  have N_S := hid hs9
  clear hs9
  replace X_F := X_F.keep b9
  replace X_P := X_P.keep b9
  replace N_b := hid (N_b.out.below b9)
  replace N_i := hid (N_i.out.below b9)
  replace T := hid (T.out.keep b9)
  replace BW := hid (BW.out.trans (b9.mono BW.out.size))
  clear b9
  go_wp2_with fail
  obtain ⟨v4, hv9⟩ : ∃ v, (v3.alloc (.cells #[.slice a l.length cap] 30)) = v := ⟨_, rfl⟩
  have hG9 : Below v3.heap.size v3 v4 := by rw [← hv9]; go_grown
  have X_Q : Blk v4 (v3.heap.size) 30 [.slice a l.length cap] := by rw [← hv9]; exact Blk.new rfl
  obtain ⟨bQ, hb9⟩ : ∃ k, v3.heap.size = k := ⟨_, rfl⟩
  rw [hb9] at X_Q
  have g_bQ : w.heap.size ≤ bQ := by rw [← hb9]; exact BW.out.size
  have q_F_bQ : bF < bQ := by rw [← hb9]; exact X_F.lt
  have q_P_bQ : bF + 1 < bQ := by rw [← hb9]; exact X_P.lt
  have q_S_bQ := N_S.out.lt
  rw [hb9] at q_S_bQ
  replace X_F := X_F.keep hG9
  replace X_P := X_P.keep hG9
  replace N_b := hid (N_b.out.below hG9)
  replace N_i := hid (N_i.out.below hG9)
  replace N_S := hid (N_S.out.below hG9)
  replace T := hid (T.out.keep hG9)
  replace BW := hid (BW.out.trans (hG9.mono BW.out.size))
  clear hG9
  rw [hv9]
  try rw [hb9]
  clear hv9 hb9
  obtain ⟨gQ, hq9⟩ := src_arg X_Q N_b.out
  have N_Q := hid hq9
  have h_Q := X_Q.lt
  clear hq9 X_Q
  go_loopw [41] (fun i wr => ∃ kk j : Nat, kk ≤ m.length ∧ i = .int .i64 (kk : Int) ∧ Src wr 65 sS gS (l.drop j) ∧ Src wr 30 bQ gQ (l.drop j) ∧ Below w.heap.size w wr ∧ IntSl wr (.slice a2 m.length cap2) m ∧ Blk wr bF 44 [.int .i64 (fID b), .int .u64 (limb (fP b) 0 : Int), .int .u64 (limb (fP b) 1 : Int), .int .u64 (limb (fP b) 2 : Int), .int .u64 (limb (fP b) 3 : Int), .int .u64 (fI b : Int), .int .u64 (limb (fO b) 0 : Int), .int .u64 (limb (fO b) 1 : Int), .int .u64 (limb (fO b) 2 : Int), .int .u64 (limb (fO b) 3 : Int), .int .u64 (limb (fS b) 0 : Int), .int .u64 (limb (fS b) 1 : Int), .int .u64 (limb (fS b) 2 : Int), .int .u64 (limb (fS b) 3 : Int)] ∧ Blk wr (bF + 1) 41 [.int .u64 (limb (fP b) 0 : Int), .int .u64 (limb (fP b) 1 : Int), .int .u64 (limb (fP b) 2 : Int), .int .u64 (limb (fP b) 3 : Int)]) (fun i _ => m.length - (intOf i).toNat)
  case atStart => exact ⟨0, 0, Nat.zero_le _, rfl, by rw [List.drop_zero]; exact N_S.out, by rw [List.drop_zero]; exact N_Q.out, BW.out, N_i.out, X_F, X_P⟩
  case round =>
    obtain ⟨kk, j, hko, rfl, hs, hq, hB, hi, hX1, hX2⟩ := hrel
    replace N_S := hid hs
    replace N_Q := hid hq
    replace N_i := hid hi
    replace BW := hid hB
    replace X_F := hX1
    replace X_P := hX2
    clear hs hq hB hi N_b hX1 hX2
    replace T := hid (T0.out.below BW.out (Nat.le_refl _))
    by_cases hlo : kk < m.length
    · skip
      have hx : m[kk]? = some (m[kk]) := List.getElem?_eq_getElem hlo
      obtain ⟨x, hx9⟩ : ∃ x, m[kk] = x := ⟨_, rfl⟩
      rw [hx9] at hx
      obtain ⟨g, off, rfl, hg, hc⟩ := N_i.out.at hx
      clear hx hx9
      obtain ⟨L, hL⟩ : ∃ q, l.drop j = q := ⟨_, rfl⟩
      rw [hL] at N_S N_Q
      have hLn : L.length < 1000000 := by rw [← hL]; simp; omega
      have HL := hid hL
      clear hL
      obtain ⟨wo, hwo⟩ : ∃ v, v = wr := ⟨_, rfl⟩
      subst hwo
      have z_F := X_F.lt
      have c_F0 := X_F.cell (i := 0) rfl
      have c_F1 := X_F.cell (i := 1) rfl
      have c_F2 := X_F.cell (i := 2) rfl
      have c_F3 := X_F.cell (i := 3) rfl
      have c_F4 := X_F.cell (i := 4) rfl
      have c_F5 := X_F.cell (i := 5) rfl
      have c_F6 := X_F.cell (i := 6) rfl
      have c_F7 := X_F.cell (i := 7) rfl
      have c_F8 := X_F.cell (i := 8) rfl
      have c_F9 := X_F.cell (i := 9) rfl
      have c_F10 := X_F.cell (i := 10) rfl
      have c_F11 := X_F.cell (i := 11) rfl
      have c_F12 := X_F.cell (i := 12) rfl
      have c_F13 := X_F.cell (i := 13) rfl
      go_wp2_with fail
      refine (elements_any b sS gS L x hLn _ N_S.out).mono ?_
      rintro e v5 ⟨r, rfl, ho9, hs9, hO9⟩
      clear hc hg
      clear z_F c_F0 c_F1 c_F2 c_F3 c_F4 c_F5 c_F6 c_F7 c_F8 c_F9 c_F10 c_F11 c_F12 c_F13
      replace X_F := X_F.only hO9 (by omega)
      replace X_P := X_P.only hO9 (by omega)
      replace N_i := hid (N_i.out.src N_S.out hO9)
      replace N_Q := hid (N_Q.out.other N_S.out (by omega) hO9)
      replace BW := hid (Below.src BW.out hO9 (by omega))
      replace T := hid (T0.out.below BW.out (Nat.le_refl _))
      replace N_S := hid hs9
      clear hs9
      clear hO9
      obtain ⟨ar, cr, rfl, _, _, _⟩ := owns_form ho9
      have N_x := hid (nums_own (by rw [els_len]; exact ho9) (fun x hx => Nat.lt_trans (els_lt L _ (by have := fP_two b; omega) x hx) (fP_lt b)))
      clear ho9
      have z_P := X_P.lt
      have c_P0 := X_P.cell (i := 0) rfl
      have c_P1 := X_P.cell (i := 1) rfl
      have c_P2 := X_P.cell (i := 2) rfl
      have c_P3 := X_P.cell (i := 3) rfl
      go_wp2_with fail
      refine (relements_any b bQ gQ L x hLn _ N_Q.out).mono ?_
      rintro e v6 ⟨r2, rfl, ho9, hs9, hO9⟩
      clear z_P c_P0 c_P1 c_P2 c_P3
      replace X_F := X_F.only hO9 (by omega)
      replace X_P := X_P.only hO9 (by omega)
      replace N_i := hid (N_i.out.src N_Q.out hO9)
      replace N_S := hid (N_S.out.other N_Q.out (by omega) hO9)
      replace N_x := hid (N_x.out.src N_Q.out hO9)
      replace BW := hid (Below.src BW.out hO9 (by omega))
      replace T := hid (T0.out.below BW.out (Nat.le_refl _))
      replace N_Q := hid hs9
      clear hs9
      clear hO9
      obtain ⟨ar2, cr2, rfl, _, _, _⟩ := owns_form ho9
      have N_y := hid (nums_own (by rw [wids_len]; exact ho9) (fun x hx => Nat.lt_trans (wids_lt L _ (by have := fP_two b; omega) x hx) (fP_lt b)))
      clear ho9
      obtain ⟨q, hq⟩ : ∃ q, chk L.length x 64 = q := ⟨_, rfl⟩
      rw [hq]
      obtain ⟨e, he⟩ : ∃ e, ekn L.length x = e := ⟨_, rfl⟩
      have hle : e < 1000000 := by rw [← he]; exact Nat.lt_of_le_of_lt (ekn_le _ _) hLn
      rw [he] at N_S N_Q N_x N_y ⊢
      clear hq he
      obtain ⟨aq, cq, hXq, _⟩ := N_Q.out
      have cQ := hXq.cell (i := 0) rfl
      have zQ := hXq.lt
      clear hXq
      obtain ⟨n9, hn9⟩ : ∃ q, (L.drop (64 * e)).length = q := ⟨_, rfl⟩
      have LR := hid (fun (W : World) (h : Src W 65 sS gS (L.drop (64 * e))) => left_ret sS gS _ W h)
      rw [hn9] at cQ LR
      clear hn9
      go_wp2_with fail
      refine wp_region_soft (C := fun W' => Below v6.heap.size v6 W') 19 (by kernel_rfl) (by kernel_rfl) ((Below.refl _ _).drew) ?_
      simp only [List.take_succ_cons, List.take_zero, List.drop_succ_cons, List.drop_zero]
      refine wpQuiet_step (fun K hK => ?_)
      rw [if_pos (by rfl)]
      refine ⟨.slice ar e cr, fun W' hW => ?_, hK _ ?_⟩
      · go_simp
      clear hK K
      simp only [Act.put, List.setIfInBounds_toArray, List.set_cons_zero, List.set_cons_succ]
      refine wpQuiet_step (fun K hK => ?_)
      rw [if_pos (by rfl)]
      refine ⟨.int .i64 (e : Int), fun W' hW => ?_, hK _ ?_⟩
      · go_simp
      clear hK K
      simp only [Act.put, List.setIfInBounds_toArray, List.set_cons_zero, List.set_cons_succ]
      refine wpQuiet_step (fun K hK => ?_)
      rw [if_pos (by rfl)]
      refine ⟨.slice ar2 e cr2, fun W' hW => ?_, hK _ ?_⟩
      · go_simp
      clear hK K
      simp only [Act.put, List.setIfInBounds_toArray, List.set_cons_zero, List.set_cons_succ]
      refine wpQuiet_step (fun K hK => ?_)
      rw [if_pos (by rfl)]
      refine ⟨.int .i64 (e : Int), fun W' hW => ?_, hK _ ?_⟩
      · go_simp
      clear hK K
      simp only [Act.put, List.setIfInBounds_toArray, List.set_cons_zero, List.set_cons_succ]
      refine wpQuiet_step (fun K hK => ?_)
      rw [if_pos (by rfl)]
      refine ⟨.bool false, fun W' hW => ?_, hK _ ?_⟩
      · go_simp
      clear hK K
      simp only [Act.put, List.setIfInBounds_toArray, List.set_cons_zero, List.set_cons_succ]
      refine wpQuiet_step (fun K hK => ?_)
      rw [if_pos (by rfl)]
      refine ⟨.bool false, fun W' hW => ?_, hK _ ?_⟩
      · go_simp
      clear hK K
      simp only [Act.put, List.setIfInBounds_toArray, List.set_cons_zero, List.set_cons_succ]
      refine wpQuiet_step (fun K hK => ?_)
      rw [if_pos (by rfl)]
      refine ⟨.int .i64 q, fun W' hW => ?_, hK _ ?_⟩
      · go_simp
      clear hK K
      simp only [Act.put, List.setIfInBounds_toArray, List.set_cons_zero, List.set_cons_succ]
      refine wpQuiet_step (fun K hK => ?_)
      rw [if_pos (by rfl)]
      refine ⟨.int .i64 q, fun W' hW => ?_, hK _ ?_⟩
      · go_simp
      clear hK K
      simp only [Act.put, List.setIfInBounds_toArray, List.set_cons_zero, List.set_cons_succ]
      refine wpQuiet_step (fun K hK => ?_)
      rw [if_pos (by rfl)]
      refine ⟨.bool false, fun W' hW => ?_, hK _ ?_⟩
      · go_simp
      clear hK K
      simp only [Act.put, List.setIfInBounds_toArray, List.set_cons_zero, List.set_cons_succ]
      refine wpQuiet_step (fun K hK => ?_)
      rw [if_pos (by rfl)]
      refine ⟨.bool false, fun W' hW => ?_, hK _ ?_⟩
      · go_simp
      clear hK K
      simp only [Act.put, List.setIfInBounds_toArray, List.set_cons_zero, List.set_cons_succ]
      refine wpQuiet_step (fun K hK => ?_)
      rw [if_pos (by rfl)]
      refine ⟨.bool false, fun W' hW => ?_, hK _ ?_⟩
      · go_simp
      clear hK K
      simp only [Act.put, List.setIfInBounds_toArray, List.set_cons_zero, List.set_cons_succ]
      refine wpQuiet_step (fun K hK => ?_)
      rw [if_pos (by rfl)]
      refine ⟨.pointer (some ⟨sS, 0, none⟩), fun W' hW => ?_, hK _ ?_⟩
      · go_simp
      clear hK K
      simp only [Act.put, List.setIfInBounds_toArray, List.set_cons_zero, List.set_cons_succ]
      refine wpQuiet_step (fun K hK => ?_)
      rw [if_pos (by rfl)]
      refine ⟨.int .i64 (n9 : Int), fun W' hW => ?_, hK _ ?_⟩
      · go_simp
        refine ((LR.out _ (N_S.out.below hW))).mono ?_
        rintro e w' ⟨rfl, b⟩
        exact ⟨rfl, hW.trans (b.mono hW.size)⟩
      clear hK K
      simp only [Act.put, List.setIfInBounds_toArray, List.set_cons_zero, List.set_cons_succ]
      refine wpQuiet_step (fun K hK => ?_)
      rw [if_pos (by rfl)]
      refine ⟨.pointer (some ⟨bQ, 0, none⟩), fun W' hW => ?_, hK _ ?_⟩
      · go_simp
      clear hK K
      simp only [Act.put, List.setIfInBounds_toArray, List.set_cons_zero, List.set_cons_succ]
      refine wpQuiet_step (fun K hK => ?_)
      rw [if_pos (by rfl)]
      refine ⟨.pointer (some ⟨bQ, 0, none⟩), fun W' hW => ?_, hK _ ?_⟩
      · go_simp
      clear hK K
      simp only [Act.put, List.setIfInBounds_toArray, List.set_cons_zero, List.set_cons_succ]
      refine wpQuiet_step (fun K hK => ?_)
      rw [if_pos (by rfl)]
      refine ⟨.pointer (some ⟨bQ, 0, none⟩), fun W' hW => ?_, hK _ ?_⟩
      · go_simp
      clear hK K
      simp only [Act.put, List.setIfInBounds_toArray, List.set_cons_zero, List.set_cons_succ]
      refine wpQuiet_step (fun K hK => ?_)
      rw [if_pos (by rfl)]
      refine ⟨.slice aq n9 cq, fun W' hW => ?_, hK _ ?_⟩
      · have e_0 := (hW.cell (p := ⟨bQ, 0, none⟩) zQ).trans cQ
        go_simp
      clear hK K
      simp only [Act.put, List.setIfInBounds_toArray, List.set_cons_zero, List.set_cons_succ]
      refine wpQuiet_step (fun K hK => ?_)
      rw [if_pos (by rfl)]
      refine ⟨.int .i64 (n9 : Int), fun W' hW => ?_, hK _ ?_⟩
      · go_simp
      clear hK K
      simp only [Act.put, List.setIfInBounds_toArray, List.set_cons_zero, List.set_cons_succ]
      refine wpQuiet_step (fun K hK => ?_)
      rw [if_pos (by rfl)]
      refine ⟨.bool false, fun W' hW => ?_, hK _ ?_⟩
      · go_simp
      clear hK K
      simp only [Act.put, List.setIfInBounds_toArray, List.set_cons_zero, List.set_cons_succ]
      refine wpQuiet_nil ?_
      intro ws0 hW9
      replace X_F := X_F.keep hW9
      replace X_P := X_P.keep hW9
      replace N_i := hid (N_i.out.below hW9)
      replace N_S := hid (N_S.out.below hW9)
      replace N_Q := hid (N_Q.out.below hW9)
      replace N_x := hid (N_x.out.below hW9)
      replace N_y := hid (N_y.out.below hW9)
      replace T := hid (T.out.keep hW9)
      replace BW := hid (BW.out.trans (hW9.mono BW.out.size))
      clear hW9
      clear cQ zQ LR
      go_wp2_with fail
      go_loopw [81] (fun i wr => ∃ k : Nat, k ≤ e ∧ i = .int .i64 (k : Int) ∧ Below ws0.heap.size ws0 wr) (fun i _ => e - (intOf i).toNat)
      case atStart => exact ⟨0, Nat.zero_le _, rfl, Below.refl _ _⟩
      case round =>
        obtain ⟨k, hk, rfl, hB⟩ := hrel
        have HB := hid hB
        have zB := hB.size
        by_cases hlt : k < e
        · skip
          replace X_F := X_F.keep hB
          replace X_P := X_P.keep hB
          replace N_i := hid (N_i.out.below hB)
          replace N_S := hid (N_S.out.below hB)
          replace N_Q := hid (N_Q.out.below hB)
          replace N_x := hid (N_x.out.below hB)
          replace N_y := hid (N_y.out.below hB)
          replace T := hid (T.out.keep hB)
          replace BW := hid (BW.out.trans (hB.mono BW.out.size))
          clear hB
          obtain ⟨y, hy9⟩ : ∃ y, wid (fP b) ((L.drop (64 * k)).take 64) = y := ⟨_, rfl⟩
          have hx := els_get (fP b) L hlt
          have hy := wids_get (fP b) L hlt
          have hyl := wid_lt (p := fP b) ((L.drop (64 * k)).take 64) (by have := fP_two b; omega)
          rw [hy9] at hx hy hyl
          obtain ⟨z, hz9⟩ : ∃ z, frm (fP b) y = z := ⟨_, rfl⟩
          have FC9 := hid (fun W : World => rform_any (fP b) y (fP_lt b) (by have := fP_two b; omega) (Nat.lt_trans hyl (fP_lt b)) W)
          rw [hz9] at hx FC9
          obtain ⟨g3, off3, hga, hg3, d0, d1, d2, d3⟩ := N_x.out.at4 hx
          obtain ⟨g4, off4, hgb, hg4, u0, u1, u2, u3⟩ := N_y.out.at4 hy
          subst hga hgb
          have heq := fun W : World => eq_same_el (limb z 0 : Int) (limb z 1 : Int) (limb z 2 : Int) (limb z 3 : Int) W
          have hki : (k : Int) < (e : Int) := by omega
          have hk0 : (0 : Int) ≤ (k : Int) := by omega
          clear hx hy hy9 hz9 hyl
          have z_P := X_P.lt
          have c_P0 := X_P.cell (i := 0) rfl
          have c_P1 := X_P.cell (i := 1) rfl
          have c_P2 := X_P.cell (i := 2) rfl
          have c_P3 := X_P.cell (i := 3) rfl
          go_wp2_with fail
          clear z_P c_P0 c_P1 c_P2 c_P3
          have z_P := X_P.lt
          have c_P0 := X_P.cell (i := 0) rfl
          have c_P1 := X_P.cell (i := 1) rfl
          have c_P2 := X_P.cell (i := 2) rfl
          have c_P3 := X_P.cell (i := 3) rfl
          refine wp_region_soft (C := fun W' => Below wr.heap.size wr W') 10 (by kernel_rfl) (by kernel_rfl) ((Below.refl _ _).drew) ?_
          simp only [List.take_succ_cons, List.take_zero, List.drop_succ_cons, List.drop_zero]
          refine wpQuiet_step (fun K hK => ?_)
          rw [if_pos (by rfl)]
          refine ⟨.slice (some ⟨g3, off3, none⟩) e cr, fun W' hW => ?_, hK _ ?_⟩
          · go_simp
          clear hK K
          simp only [Act.put, List.setIfInBounds_toArray, List.set_cons_zero, List.set_cons_succ]
          refine wpQuiet_step (fun K hK => ?_)
          rw [if_pos (by rfl)]
          refine ⟨.int .i64 (k : Int), fun W' hW => ?_, hK _ ?_⟩
          · go_simp
          clear hK K
          simp only [Act.put, List.setIfInBounds_toArray, List.set_cons_zero, List.set_cons_succ]
          refine wpQuiet_step (fun K hK => ?_)
          rw [if_pos (by rfl)]
          refine ⟨.pointer (some ⟨g3, off3 + k * 4, none⟩), fun W' hW => ?_, hK _ ?_⟩
          · go_simp
          clear hK K
          simp only [Act.put, List.setIfInBounds_toArray, List.set_cons_zero, List.set_cons_succ]
          refine wpQuiet_step (fun K hK => ?_)
          rw [if_pos (by rfl)]
          refine ⟨vec z, fun W' hW => ?_, hK _ ?_⟩
          · have e_0 := (hW.cell (p := ⟨g3, off3 + k * 4, none⟩) hg3).trans d0
            have e_1 := (hW.cell (p := ⟨g3, off3 + k * 4 + 1, none⟩) hg3).trans d1
            have e_2 := (hW.cell (p := ⟨g3, off3 + k * 4 + 2, none⟩) hg3).trans d2
            have e_3 := (hW.cell (p := ⟨g3, off3 + k * 4 + 3, none⟩) hg3).trans d3
            go_simp
          clear hK K
          simp only [Act.put, List.setIfInBounds_toArray, List.set_cons_zero, List.set_cons_succ]
          refine wpQuiet_step (fun K hK => ?_)
          rw [if_pos (by rfl)]
          refine ⟨vec (fP b), fun W' hW => ?_, hK _ ?_⟩
          · have e_0 := (hW.cell (p := ⟨bF + 1, 0, none⟩) z_P).trans c_P0
            have e_1 := (hW.cell (p := ⟨bF + 1, 1, none⟩) z_P).trans c_P1
            have e_2 := (hW.cell (p := ⟨bF + 1, 2, none⟩) z_P).trans c_P2
            have e_3 := (hW.cell (p := ⟨bF + 1, 3, none⟩) z_P).trans c_P3
            go_simp
          clear hK K
          simp only [Act.put, List.setIfInBounds_toArray, List.set_cons_zero, List.set_cons_succ]
          refine wpQuiet_step (fun K hK => ?_)
          rw [if_pos (by rfl)]
          refine ⟨.slice (some ⟨g4, off4, none⟩) e cr2, fun W' hW => ?_, hK _ ?_⟩
          · go_simp
          clear hK K
          simp only [Act.put, List.setIfInBounds_toArray, List.set_cons_zero, List.set_cons_succ]
          refine wpQuiet_step (fun K hK => ?_)
          rw [if_pos (by rfl)]
          refine ⟨.int .i64 (k : Int), fun W' hW => ?_, hK _ ?_⟩
          · go_simp
          clear hK K
          simp only [Act.put, List.setIfInBounds_toArray, List.set_cons_zero, List.set_cons_succ]
          refine wpQuiet_step (fun K hK => ?_)
          rw [if_pos (by rfl)]
          refine ⟨.pointer (some ⟨g4, off4 + k * 4, none⟩), fun W' hW => ?_, hK _ ?_⟩
          · go_simp
          clear hK K
          simp only [Act.put, List.setIfInBounds_toArray, List.set_cons_zero, List.set_cons_succ]
          refine wpQuiet_step (fun K hK => ?_)
          rw [if_pos (by rfl)]
          refine ⟨vec y, fun W' hW => ?_, hK _ ?_⟩
          · have e_0 := (hW.cell (p := ⟨g4, off4 + k * 4, none⟩) hg4).trans u0
            have e_1 := (hW.cell (p := ⟨g4, off4 + k * 4 + 1, none⟩) hg4).trans u1
            have e_2 := (hW.cell (p := ⟨g4, off4 + k * 4 + 2, none⟩) hg4).trans u2
            have e_3 := (hW.cell (p := ⟨g4, off4 + k * 4 + 3, none⟩) hg4).trans u3
            go_simp
          clear hK K
          simp only [Act.put, List.setIfInBounds_toArray, List.set_cons_zero, List.set_cons_succ]
          refine wpQuiet_step (fun K hK => ?_)
          rw [if_pos (by rfl)]
          refine ⟨vec z, fun W' hW => ?_, hK _ ?_⟩
          · go_simp
            refine (FC9.out _).mono ?_
            rintro e w' ⟨rfl, b⟩
            exact ⟨rfl, hW.trans (b.mono hW.size)⟩
          clear hK K
          simp only [Act.put, List.setIfInBounds_toArray, List.set_cons_zero, List.set_cons_succ]
          refine wpQuiet_nil ?_
          intro ws1 hW9
          clear z_P c_P0 c_P1 c_P2 c_P3
          replace X_F := X_F.keep hW9
          replace X_P := X_P.keep hW9
          replace N_i := hid (N_i.out.below hW9)
          replace N_S := hid (N_S.out.below hW9)
          replace N_Q := hid (N_Q.out.below hW9)
          replace N_x := hid (N_x.out.below hW9)
          replace N_y := hid (N_y.out.below hW9)
          replace T := hid (T.out.keep hW9)
          replace HB := hid (HB.out.trans (hW9.mono HB.out.size))
          replace BW := hid (BW.out.trans (hW9.mono BW.out.size))
          clear hW9
          go_wp2
          go_roundw
          case rel => exact ⟨k + 1, by omega, by go_num, by first | exact Below.drewN' (HB.out.alloc HB.out.size _) _ | exact HB.out.alloc HB.out.size _ | exact HB.out | (have := HB.out; go_grown)⟩
          case measure => simp [intOf]; omega
        · skip
          obtain rfl : e = k := by omega
          replace X_F := X_F.keep hB
          replace X_P := X_P.keep hB
          replace N_i := hid (N_i.out.below hB)
          replace N_S := hid (N_S.out.below hB)
          replace N_Q := hid (N_Q.out.below hB)
          replace N_x := hid (N_x.out.below hB)
          replace N_y := hid (N_y.out.below hB)
          replace T := hid (T.out.keep hB)
          replace BW := hid (BW.out.trans (hB.mono BW.out.size))
          clear hB
          clear HB zB hlt
          go_wp2
          go_roundw
          case rel => exact ⟨kk + 1, j + 64 * e, by omega, by go_num, by rw [← List.drop_drop, HL.out]; exact N_S.out, by rw [← List.drop_drop, HL.out]; exact N_Q.out, BW.out, N_i.out, X_F, X_P⟩
          case measure => simp [intOf]; omega
    · skip
      clear N_S N_Q N_i X_F X_P
      go_wp2_with fail
      refine (alive_any _ T.out).mono ?_
      rintro e v7 ⟨rfl, b9⟩
      replace T := hid (T.out.keep b9)
      replace BW := hid (BW.out.trans (b9.mono BW.out.size))
      clear b9
      go_wp2
      go_ret
      exact ⟨rfl, BW.out⟩
end Go.Proofs.YtaakdmjmanbggaaDoor
