/-
  SourceTakes: for all bytes and every sequence of numbers, Take and Left return the same results as the reference.
-/
import Derived.Test.YtaakdmjmanbggaaDoorAlive14
import Derived.Deep.RegionHeld3
import Derived.Deep.DeepCutAuto
import Derived.Deep.QuietTactic
namespace Go.Proofs.YtaakdmjmanbggaaDoor
open Go.RowKit

set_option maxRecDepth 100000 in
set_option maxHeartbeats 8000000 in
theorem takes_law (v u : Value) (l : List Nat) (m : List Int) (w : World) (hT : Tab w) (hS : ByteSl w v l) (hI : IntSl w u m) :
    Calls Tryd.prog 3 #[v, u] w (Ret (.bool true) w) := by
  have BW := hid (Below.refl w.heap.size w)
  have T := hid hT
  have T0 := hid hT
  have N_b := hid hS
  have N_i := hid hI
  obtain ⟨a, cap, rfl, _, _⟩ := hS
  obtain ⟨a2, cap2, rfl, _⟩ := hI
  clear hT
  by_cases h1 : 2000 < l.length
  · skip
    go_enter Tryd.func3, Tryd.ntmps3
    go_wp2_with fail
    refine (alive_any _ T.out).mono ?_
    rintro e v1 ⟨rfl, b9⟩
    replace N_b := hid (N_b.out.below b9)
    replace N_i := hid (N_i.out.below b9)
    replace T := hid (T.out.keep b9)
    replace BW := hid (BW.out.trans (b9.mono BW.out.size))
    clear b9
    go_wp2
    go_ret
    exact ⟨rfl, BW.out⟩
  by_cases h2 : 100 < m.length
  · skip
    go_enter Tryd.func3, Tryd.ntmps3
    go_wp2_with fail
    refine (alive_any _ T.out).mono ?_
    rintro e v1 ⟨rfl, b9⟩
    replace N_b := hid (N_b.out.below b9)
    replace N_i := hid (N_i.out.below b9)
    replace T := hid (T.out.keep b9)
    replace BW := hid (BW.out.trans (b9.mono BW.out.size))
    clear b9
    go_wp2
    go_ret
    exact ⟨rfl, BW.out⟩
  have hl : l.length < 1000000 := by omega
  go_enter Tryd.func3, Tryd.ntmps3
  go_wp2_with fail
  refine (newsrc_any _ l _ N_b.out (by first | decide | (simp; omega) | omega)).mono ?_
  rintro e v1 ⟨sS, gS, rfl, hs9, gs9, gg9, b9⟩
  have g_sS := gs9
  have g_gS := gg9
  clear gs9 gg9
  have h_sS := hs9.lt
  have n_sS_w := BW.out.size
  have N_S := hid hs9
  clear hs9
  replace N_b := hid (N_b.out.below b9)
  replace N_i := hid (N_i.out.below b9)
  replace T := hid (T.out.keep b9)
  replace BW := hid (BW.out.trans (b9.mono BW.out.size))
  clear b9
  go_wp2_with fail
  refine (left_any sS gS l _ N_S.out).mono ?_
  rintro e w' ⟨rfl, rfl⟩
  go_wp2_with fail
  obtain ⟨v2, hv9⟩ : ∃ v, (v1.alloc (.cells #[.slice a l.length cap] 30)) = v := ⟨_, rfl⟩
  have hG9 : Below v1.heap.size v1 v2 := by rw [← hv9]; go_grown
  have X_Q : Blk v2 (v1.heap.size) 30 [.slice a l.length cap] := by rw [← hv9]; exact Blk.new rfl
  obtain ⟨bQ, hb9⟩ : ∃ k, v1.heap.size = k := ⟨_, rfl⟩
  rw [hb9] at X_Q
  have g_bQ : w.heap.size ≤ bQ := by rw [← hb9]; exact BW.out.size
  have q_S_bQ := N_S.out.lt
  rw [hb9] at q_S_bQ
  replace N_b := hid (N_b.out.below hG9)
  replace N_i := hid (N_i.out.below hG9)
  replace N_S := hid (N_S.out.below hG9)
  replace T := hid (T.out.keep hG9)
  replace BW := hid (BW.out.trans (hG9.mono BW.out.size))
  clear hG9
  rw [hv9]
  try rw [hb9]
  clear hv9 hb9
  obtain ⟨gQ, hq9⟩ := src_arg X_Q N_b.out
  have N_Q := hid hq9
  have h_Q := X_Q.lt
  clear hq9 X_Q
  go_loopw [38] (fun i wr => ∃ k j : Nat, k ≤ m.length ∧ i = .int .i64 (k : Int) ∧ Src wr 65 sS gS (l.drop j) ∧ Src wr 30 bQ gQ (l.drop j) ∧ Below w.heap.size w wr ∧ IntSl wr (.slice a2 m.length cap2) m) (fun i _ => m.length - (intOf i).toNat)
  case atStart => exact ⟨0, 0, Nat.zero_le _, rfl, by rw [List.drop_zero]; exact N_S.out, by rw [List.drop_zero]; exact N_Q.out, BW.out, N_i.out⟩
  case round =>
    obtain ⟨k, j, hk, rfl, hs, hq, hB, hi⟩ := hrel
    replace N_S := hid hs
    replace N_Q := hid hq
    replace N_i := hid hi
    replace BW := hid hB
    clear hs hq hB hi N_b
    by_cases hlt : k < m.length
    · skip
      have hx : m[k]? = some (m[k]) := List.getElem?_eq_getElem hlt
      obtain ⟨x, hx9⟩ : ∃ x, m[k] = x := ⟨_, rfl⟩
      rw [hx9] at hx
      obtain ⟨g, off, rfl, hg, hc⟩ := N_i.out.at hx
      clear hx hx9
      obtain ⟨L, hL⟩ : ∃ q, l.drop j = q := ⟨_, rfl⟩
      rw [hL] at N_S N_Q
      have hLn : L.length < 1000000 := by rw [← hL]; simp; omega
      have HL := hid hL
      clear hL
      go_wp2_with fail
      refine (take_any sS gS L x hLn _ N_S.out).mono ?_
      rintro e v3 ⟨r, rfl, ho9, hs9, hO9⟩
      have hy9 := bys_own ho9 (by rw [List.length_take, Nat.min_eq_left (tkn_le _ _)]) (N_S.out.byt.take _)
      clear ho9 hc hg
      replace N_i := hid (N_i.out.src N_S.out hO9)
      replace N_Q := hid (N_Q.out.other N_S.out (by omega) hO9)
      replace BW := hid (Below.src BW.out hO9 (by omega))
      replace T := hid (T0.out.below BW.out (Nat.le_refl _))
      replace N_S := hid hs9
      clear hs9
      clear hO9
      have N_r := hid hy9
      clear hy9
      go_wp2_with fail
      refine (rtake_any bQ gQ L x _ N_Q.out).mono ?_
      rintro e v4 ⟨r2, rfl, hy9, hs9, hO9⟩
      replace N_i := hid (N_i.out.src N_Q.out hO9)
      replace N_S := hid (N_S.out.other N_Q.out (by omega) hO9)
      replace N_r := hid (N_r.out.src N_Q.out hO9)
      replace BW := hid (Below.src BW.out hO9 (by omega))
      replace T := hid (T0.out.below BW.out (Nat.le_refl _))
      replace N_Q := hid hs9
      clear hs9
      clear hO9
      have N_r2 := hid hy9
      clear hy9
      obtain ⟨q, hq⟩ : ∃ q, chk L.length x 1 = q := ⟨_, rfl⟩
      rw [hq]
      obtain ⟨aq, cq, hXq, _⟩ := N_Q.out
      have cQ := hXq.cell (i := 0) rfl
      have zQ := hXq.lt
      clear hq hXq
      obtain ⟨n9, hn9⟩ : ∃ q, (L.drop (tkn L.length x)).length = q := ⟨_, rfl⟩
      have LR := hid (fun (W : World) (h : Src W 65 sS gS (L.drop (tkn L.length x))) => left_ret sS gS _ W h)
      rw [hn9] at cQ LR
      clear hn9
      go_wp2_with fail
      refine wp_region_soft (C := fun W' => Below v4.heap.size v4 W') 18 (by kernel_rfl) (by kernel_rfl) ((Below.refl _ _).drew) ?_
      simp only [List.take_succ_cons, List.take_zero, List.drop_succ_cons, List.drop_zero]
      refine wpQuiet_step (fun K hK => ?_)
      rw [if_pos (by rfl)]
      refine ⟨r, fun W' hW => ?_, hK _ ?_⟩
      · go_simp
      clear hK K
      simp only [Act.put, List.setIfInBounds_toArray, List.set_cons_zero, List.set_cons_succ]
      refine wpQuiet_step (fun K hK => ?_)
      rw [if_pos (by rfl)]
      refine ⟨r2, fun W' hW => ?_, hK _ ?_⟩
      · go_simp
      clear hK K
      simp only [Act.put, List.setIfInBounds_toArray, List.set_cons_zero, List.set_cons_succ]
      refine wpQuiet_step (fun K hK => ?_)
      rw [if_pos (by rfl)]
      refine ⟨.bool true, fun W' hW => ?_, hK _ ?_⟩
      · go_simp
        refine ((equal_same _ _ _ _ (N_r.out.below hW) (N_r2.out.below hW))).mono ?_
        rintro e w' ⟨rfl, b⟩
        exact ⟨rfl, hW.trans (b.mono hW.size)⟩
      clear hK K
      simp only [Act.put, List.setIfInBounds_toArray, List.set_cons_zero, List.set_cons_succ]
      refine wpQuiet_step (fun K hK => ?_)
      rw [if_pos (by rfl)]
      refine ⟨.bool false, fun W' hW => ?_, hK _ ?_⟩
      · go_simp
      clear hK K
      simp only [Act.put, List.setIfInBounds_toArray, List.set_cons_zero, List.set_cons_succ]
      refine wpQuiet_step (fun K hK => ?_)
      rw [if_pos (by rfl)]
      refine ⟨.bool false, fun W' hW => ?_, hK _ ?_⟩
      · go_simp
      clear hK K
      simp only [Act.put, List.setIfInBounds_toArray, List.set_cons_zero, List.set_cons_succ]
      refine wpQuiet_step (fun K hK => ?_)
      rw [if_pos (by rfl)]
      refine ⟨.int .i64 q, fun W' hW => ?_, hK _ ?_⟩
      · go_simp
      clear hK K
      simp only [Act.put, List.setIfInBounds_toArray, List.set_cons_zero, List.set_cons_succ]
      refine wpQuiet_step (fun K hK => ?_)
      rw [if_pos (by rfl)]
      refine ⟨.int .i64 q, fun W' hW => ?_, hK _ ?_⟩
      · go_simp
      clear hK K
      simp only [Act.put, List.setIfInBounds_toArray, List.set_cons_zero, List.set_cons_succ]
      refine wpQuiet_step (fun K hK => ?_)
      rw [if_pos (by rfl)]
      refine ⟨.bool false, fun W' hW => ?_, hK _ ?_⟩
      · go_simp
      clear hK K
      simp only [Act.put, List.setIfInBounds_toArray, List.set_cons_zero, List.set_cons_succ]
      refine wpQuiet_step (fun K hK => ?_)
      rw [if_pos (by rfl)]
      refine ⟨.bool false, fun W' hW => ?_, hK _ ?_⟩
      · go_simp
      clear hK K
      simp only [Act.put, List.setIfInBounds_toArray, List.set_cons_zero, List.set_cons_succ]
      refine wpQuiet_step (fun K hK => ?_)
      rw [if_pos (by rfl)]
      refine ⟨.bool false, fun W' hW => ?_, hK _ ?_⟩
      · go_simp
      clear hK K
      simp only [Act.put, List.setIfInBounds_toArray, List.set_cons_zero, List.set_cons_succ]
      refine wpQuiet_step (fun K hK => ?_)
      rw [if_pos (by rfl)]
      refine ⟨.pointer (some ⟨sS, 0, none⟩), fun W' hW => ?_, hK _ ?_⟩
      · go_simp
      clear hK K
      simp only [Act.put, List.setIfInBounds_toArray, List.set_cons_zero, List.set_cons_succ]
      refine wpQuiet_step (fun K hK => ?_)
      rw [if_pos (by rfl)]
      refine ⟨.int .i64 (n9 : Int), fun W' hW => ?_, hK _ ?_⟩
      · go_simp
        refine ((LR.out _ (N_S.out.below hW))).mono ?_
        rintro e w' ⟨rfl, b⟩
        exact ⟨rfl, hW.trans (b.mono hW.size)⟩
      clear hK K
      simp only [Act.put, List.setIfInBounds_toArray, List.set_cons_zero, List.set_cons_succ]
      refine wpQuiet_step (fun K hK => ?_)
      rw [if_pos (by rfl)]
      refine ⟨.pointer (some ⟨bQ, 0, none⟩), fun W' hW => ?_, hK _ ?_⟩
      · go_simp
      clear hK K
      simp only [Act.put, List.setIfInBounds_toArray, List.set_cons_zero, List.set_cons_succ]
      refine wpQuiet_step (fun K hK => ?_)
      rw [if_pos (by rfl)]
      refine ⟨.pointer (some ⟨bQ, 0, none⟩), fun W' hW => ?_, hK _ ?_⟩
      · go_simp
      clear hK K
      simp only [Act.put, List.setIfInBounds_toArray, List.set_cons_zero, List.set_cons_succ]
      refine wpQuiet_step (fun K hK => ?_)
      rw [if_pos (by rfl)]
      refine ⟨.pointer (some ⟨bQ, 0, none⟩), fun W' hW => ?_, hK _ ?_⟩
      · go_simp
      clear hK K
      simp only [Act.put, List.setIfInBounds_toArray, List.set_cons_zero, List.set_cons_succ]
      refine wpQuiet_step (fun K hK => ?_)
      rw [if_pos (by rfl)]
      refine ⟨.slice aq n9 cq, fun W' hW => ?_, hK _ ?_⟩
      · have e_0 := (hW.cell (p := ⟨bQ, 0, none⟩) zQ).trans cQ
        go_simp
      clear hK K
      simp only [Act.put, List.setIfInBounds_toArray, List.set_cons_zero, List.set_cons_succ]
      refine wpQuiet_step (fun K hK => ?_)
      rw [if_pos (by rfl)]
      refine ⟨.int .i64 (n9 : Int), fun W' hW => ?_, hK _ ?_⟩
      · go_simp
      clear hK K
      simp only [Act.put, List.setIfInBounds_toArray, List.set_cons_zero, List.set_cons_succ]
      refine wpQuiet_step (fun K hK => ?_)
      rw [if_pos (by rfl)]
      refine ⟨.bool false, fun W' hW => ?_, hK _ ?_⟩
      · go_simp
      clear hK K
      simp only [Act.put, List.setIfInBounds_toArray, List.set_cons_zero, List.set_cons_succ]
      refine wpQuiet_nil ?_
      intro ws0 hW9
      replace N_i := hid (N_i.out.below hW9)
      replace N_S := hid (N_S.out.below hW9)
      replace N_Q := hid (N_Q.out.below hW9)
      replace N_r := hid (N_r.out.below hW9)
      replace N_r2 := hid (N_r2.out.below hW9)
      replace T := hid (T.out.keep hW9)
      replace BW := hid (BW.out.trans (hW9.mono BW.out.size))
      clear hW9
      go_wp2
      go_roundw
      case rel => exact ⟨k + 1, j + tkn L.length x, by omega, by go_num, by rw [← List.drop_drop, HL.out]; exact N_S.out, by rw [← List.drop_drop, HL.out]; exact N_Q.out, BW.out, N_i.out⟩
      case measure => simp [intOf]; omega
    · skip
      replace T := hid (T0.out.below BW.out (Nat.le_refl _))
      clear N_S N_Q N_i
      go_wp2_with fail
      refine (alive_any _ T.out).mono ?_
      rintro e v5 ⟨rfl, b9⟩
      replace T := hid (T.out.keep b9)
      replace BW := hid (BW.out.trans (b9.mono BW.out.size))
      clear b9
      go_wp2
      go_ret
      exact ⟨rfl, BW.out⟩
end Go.Proofs.YtaakdmjmanbggaaDoor
