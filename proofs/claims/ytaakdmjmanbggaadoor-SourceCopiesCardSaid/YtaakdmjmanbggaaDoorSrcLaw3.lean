/-
  SourceCopies: changing the bytes after New does not change a source, and changing taken bytes neither.
-/
import Derived.Test.YtaakdmjmanbggaaDoorAlive14
import Derived.Deep.RegionHeld3
import Derived.Deep.DeepCutAuto
import Derived.Deep.QuietTactic
namespace Go.Proofs.YtaakdmjmanbggaaDoor
open Go.RowKit

set_option maxRecDepth 100000 in
set_option maxHeartbeats 1000000 in
theorem bclone_any (v : Value) (l : List Nat) (w : World) (hS : ByteSl w v l) (hl : l.length < 1000000) : Calls Tryd.prog 15 #[v] w (RetOwn 5 1 l.length (bys l) w) := by
  obtain ⟨i0, hi, hz0, hz1, hz2⟩ := info_parts info_u8
  obtain ⟨a, cap, rfl, hc, hrow⟩ := id hS
  have qT : ∀ (w : World) (a : Option Addr) (n c n' c' : Nat), (binOp .eql 22 (.slice a n c) (.slice none n' c')).run Tryd.prog w = .ok (.bool a.isNone) w := fun w a n c n' c' => Lib.run_eql_slice_nil w _ _ a n c n' c' Tryd.underlying22
  obtain ⟨n, hn⟩ : ∃ n, l.length = n := ⟨_, rfl⟩
  rw [hn] at hl hS ⊢
  have HN := hid hn
  clear hc
  cases a with
  | none =>
    have h0 : l = [] := by
      rcases hrow with h | ⟨g, off, h, _⟩
      · exact h
      · cases h
    have HX := hid h0
    clear hrow hS
    go_enter Tryd.func15, Tryd.ntmps15
    go_wp2
    go_ret
    refine ⟨_, rfl, ?_, Below.refl _ _⟩
    rw [HX.out, ← HN.out, HX.out]
    exact ⟨rfl, .inl ⟨rfl, rfl⟩⟩
  | some ad =>
    have HNW := hid (hS.below ((Below.refl _ w).alloc (Nat.le_refl _) (.cells #[] 5))).news
    have HNL := hid ((bys_len l).trans hn)
    clear hrow hn hS
    go_enter Tryd.func15, Tryd.ntmps15
    have OWN : (w.alloc (.cells #[] 5)).ownsRow w.heap.size 5 1 (.slice (some ⟨w.heap.size, 0, none⟩) 0 0) 0 [] := ⟨rfl, .inr ⟨w.heap.size, 0, #[], rfl, Nat.le_refl _, (Blk.new (w := w) (xs := []) (t := 5) rfl : Blk _ w.heap.size 5 []), Nat.le_refl _, by unfold maxLen; omega, rfl, rfl⟩⟩
    go_wp2_with (at_builtin; refine wpList_append_own_at _ rfl _ _ 22 rfl w.heap.size 5 i0 _ 1 1 Tryd.underlying22 hi hz0 hz1 hz2 rfl (by decide) _ 0 [] rfl OWN ad n cap (bys l) rfl (HNL.out.trans (Nat.mul_one n).symm) HNW.out (bys_cells l) (by unfold maxLen; omega) (by omega) (by simp) ?_; intro v1 w1 ho1 hg1 _ _)
    go_ret
    have B1 := Below.grown (((Below.refl w.heap.size w).alloc (Nat.le_refl _) (.cells #[] 5))) hg1 (by simp) (fun j hj => by cases hj; exact Nat.le_refl _)
    refine ⟨_, rfl, ?_, B1⟩
    rw [Nat.zero_add, List.nil_append] at ho1
    exact ho1
theorem owned_bytes {w : World} {base n : Nat} {v : Value} {l : List Nat} (h : w.ownsRow base 5 1 v n (bys l)) (hl : l.length = n) :
    ∃ gc a c, v = .slice a n c ∧ (0 < n → base ≤ gc ∧ gc < w.heap.size ∧ a = some ⟨gc, 0, none⟩ ∧ ∃ zs, Blk w gc 5 zs ∧ ∀ j, j < n → ∃ y : Int, zs[j]? = some (.int .u8 y)) := by
  obtain ⟨a, c, hv, hc, ha, h0⟩ := owns_form h
  by_cases hn : 0 < n
  · obtain ⟨g, cap, rest, hv2, hg, _, hX⟩ := owns_blk h hn
    rw [hv] at hv2
    cases hv2
    refine ⟨g, _, c, hv, fun _ => ⟨hg, hX.lt, rfl, _, hX, fun j hj => ⟨(l.getD j 0 : Int), ?_⟩⟩⟩
    rw [List.getElem?_append_left (by rw [bys_len]; omega)]
    exact bys_get l (by omega)
  · exact ⟨base, a, c, hv, fun h => absurd h hn⟩
theorem byt_three {l : List Nat} (h : Byt l) : Byt (l ++ [1, 2, 3]) := fun x hx => by
  rcases List.mem_append.1 hx with h1 | h1
  · exact h x h1
  · simp at h1; omega
theorem half_wrap {n h : Nat} (hn : ¬ 2000 < n) (hh : n / 2 = h) : h ≤ n ∧ (n : Int) / 2 = (h : Int) := ⟨by omega, by omega⟩
theorem three_wrap {n h : Nat} (hn : ¬ 2000 < n) (hh : h ≤ n) : IntKind.i64.wrap ((h : Int) + 3 - 3) = (h : Int) ∧ IntKind.i64.wrap (h : Int) = (h : Int) := by
  constructor <;> (rw [IntKind.wrap_i64]; omega)
theorem sub_wrap {n h m : Nat} (hn : ¬ 2000 < n) (hh : h ≤ n) (hm : n - h = m) : IntKind.i64.wrap ((n : Int) - (h : Int)) = (m : Int) ∧ (n : Int) - (h : Int) = (m : Int) := ⟨by rw [IntKind.wrap_i64]; omega, by omega⟩
set_option maxRecDepth 100000 in
set_option maxHeartbeats 8000000 in
theorem copies_law (v : Value) (l : List Nat) (w : World) (hT : Tab w) (hS : ByteSl w v l) :
    Calls Tryd.prog 4 #[v] w (Ret (.bool true) w) := by
  have BW := hid (Below.refl w.heap.size w)
  have T := hid hT
  have T0 := hid hT
  have HS := hid hS
  have HBT := hid hS.byt
  obtain ⟨a, cap, rfl, hcap, _⟩ := hS
  clear hT
  by_cases h1 : 2000 < l.length
  · skip
    go_enter Tryd.func4, Tryd.ntmps4
    go_wp2_with fail
    refine (alive_any _ T.out).mono ?_
    rintro e v1 ⟨rfl, b9⟩
    replace T := hid (T.out.keep b9)
    replace BW := hid (BW.out.trans (b9.mono BW.out.size))
    clear b9
    go_wp2
    go_ret
    exact ⟨rfl, BW.out⟩
  have hl : l.length < 1000000 := by omega
  obtain ⟨n, hn⟩ : ∃ q, l.length = q := ⟨_, rfl⟩
  have HN := hid hn
  rw [hn] at hl h1 hcap HS ⊢
  clear hn
  go_enter Tryd.func4, Tryd.ntmps4
  go_wp2_with fail
  refine (bclone_any _ l _ HS.out (by rw [HN.out]; exact hl)).mono ?_
  rintro e v1 ⟨r, rfl, ho9, b9⟩
  rw [HN.out] at ho9
  replace T := hid (T.out.keep b9)
  replace BW := hid (BW.out.trans (b9.mono BW.out.size))
  clear b9
  have N_c := hid (bys_own ho9 HN.out HBT.out)
  have N_o := hid ho9
  clear ho9
  have zc0 := BW.out.size
  obtain ⟨gc, ac, cc, rfl, hgc⟩ := owned_bytes N_o.out HN.out
  have HA := hid (fun h : 0 < n => (hgc h).2.2.1)
  have HGB := hid (fun h : 0 < n => (⟨(hgc h).1, (hgc h).2.1⟩ : w.heap.size ≤ gc ∧ gc < v1.heap.size))
  clear hgc
  obtain ⟨V1, hV1⟩ : ∃ q, v1.heap.size = q := ⟨_, rfl⟩
  rw [hV1] at HGB zc0
  go_wp2_with fail
  have hln := HN.out
  refine (newsrc_any _ l _ N_c.out (by first | decide | (simp; omega) | omega)).mono ?_
  rintro e v2 ⟨sS, gS, rfl, hs9, gs9, gg9, gl9, b9⟩
  have g_sS := gs9
  have g_gS := gg9
  have h_gS := gl9
  clear gs9 gg9 gl9
  have h_sS := hs9.lt
  have n_sS_w := BW.out.size
  have N_S := hid hs9
  clear hs9
  replace N_o := hid (owns_keep N_o.out b9)
  replace N_c := hid (N_c.out.below b9)
  replace T := hid (T.out.keep b9)
  replace BW := hid (BW.out.trans (b9.mono BW.out.size))
  clear b9
  clear hln
  rw [hV1] at g_sS g_gS
  clear hV1
  have HZ : Hid (0 < n → ∃ zs, Blk v2 gc 5 zs ∧ ∀ j, j < n → ∃ y : Int, zs[j]? = some (.int .u8 y)) := hid (fun h => by
    obtain ⟨g', a', c', e, hg'⟩ := owned_bytes N_o.out HN.out
    cases e
    obtain ⟨_, _, ha, hz⟩ := hg' h
    rw [HA.out h] at ha
    cases ha
    exact hz)
  clear N_o
  go_wp2_with fail
  go_loopw [23] (fun i wr => ∃ k : Nat, k ≤ n ∧ i = .int .i64 (k : Int) ∧ Only (fun q => 0 < n ∧ q = gc) v2 wr ∧ (0 < n → ∃ zs, Blk wr gc 5 zs ∧ ∀ j, j < n → ∃ y : Int, zs[j]? = some (.int .u8 y))) (fun i _ => n - (intOf i).toNat)
  case atStart => exact ⟨0, Nat.zero_le _, rfl, Only.refl _ _, HZ.out⟩
  case round =>
    obtain ⟨k, hk, rfl, hO, hz⟩ := hrel
    have ON := hid hO
    have HZ1 := hid hz
    clear hO hz
    by_cases hlt : k < n
    · skip
      have hn0 : 0 < n := by omega
      obtain rfl := HA.out hn0
      obtain ⟨zs, hX, hy⟩ := HZ1.out hn0
      obtain ⟨y, hy1⟩ := hy k hlt
      have cg := hX.cell hy1
      have fg := hX.frozen k
      have zg := hX.lt
      have HX := hid hX
      have HY := hid hy
      have HY1 := hid hy1
      have hki : (k : Int) < (n : Int) := by omega
      have hk0 : (0 : Int) ≤ (k : Int) := by omega
      clear hX hy hy1
      go_wp2
      go_roundw
      case rel => exact ⟨k + 1, by omega, by go_num, ON.out.setCell (p := ⟨gc, k, none⟩) (.inl ⟨hn0, rfl⟩) _, fun _ => ⟨_, HX.out.set k _, fun j hj => by
        by_cases e : j = k
        · subst e
          rw [List.getElem?_set_self (List.getElem?_eq_some_iff.1 HY1.out).1]
          exact ⟨_, rfl⟩
        · rw [List.getElem?_set_ne (Ne.symm e)]
          exact HY.out j hj⟩⟩
      case measure => simp [intOf]; omega
    · skip
      obtain rfl : n = k := by omega
      have hs9 := N_S.out.apart ON.out (by rintro ⟨h, e⟩; have := HGB.out h; omega) (by rintro ⟨h, e⟩; have := HGB.out h; omega)
      replace N_S := hid hs9
      clear hs9 HZ HZ1 N_c
      replace BW := hid (BW.out.trans (ON.out.below (n := w.heap.size) (fun q e => by obtain ⟨h, e⟩ := e; subst e; exact (HGB.out h).1) BW.out.size))
      replace T := hid (T0.out.below BW.out (Nat.le_refl _))
      have zS := N_S.out.lt
      have zG : gS < wr.heap.size := Nat.lt_of_lt_of_le h_gS ON.out.size
      clear ON HGB HA hlt hk
      obtain ⟨h, hh⟩ : ∃ q, n / 2 = q := ⟨_, rfl⟩
      obtain ⟨hhn, zw⟩ := half_wrap h1 hh
      obtain ⟨m2, hm2⟩ : ∃ q, n - h = q := ⟨_, rfl⟩
      have HM := hid (sub_wrap h1 hhn hm2)
      have HHN := hid hhn
      clear hh
      go_wp2_with fail
      refine (take_ok sS gS l h (by rw [HN.out]; exact hl) (by rw [HN.out]; exact hhn) _ N_S.out).mono ?_
      rintro e v3 ⟨r, rfl, ho9, hy9, hs9, hO9⟩
      have zWle := hO9.size
      have zBr := BW.out.size
      replace BW := hid (Below.src BW.out hO9 (by omega))
      replace T := hid (T0.out.below BW.out (Nat.le_refl _))
      replace N_S := hid hs9
      clear hs9
      clear hO9
      obtain ⟨ax, cx, rfl, hcx, _, _⟩ := owns_form ho9
      have OX := hid ho9
      obtain ⟨i0, hi, hz0, hz1, hz2⟩ := info_parts info_u8
      have zWW := zWle
      have zB := BW.out.size
      clear ho9 hy9
      go_wp2_with (at_builtin; refine wpList_append_own _ rfl _ _ 22 rfl wr.heap.size 5 i0 _ 1 1 Tryd.underlying22 hi hz0 hz1 hz2 rfl (by decide) _ h _ rfl (OX.out.alloc _) ⟨v3.heap.size, 0, none⟩ 3 3 [.int .u8 1, .int .u8 2, .int .u8 3] rfl rfl (Blk.news (t := 5) (Blk.new rfl)) (by simp [Value.oneCell']) (by unfold maxLen; omega) (by omega) (by simp; omega) ?_; intro v6 w2 ho hg2 _)
      have hB9 : Below wr.heap.size v3 w2 := Below.grown ((Below.refl wr.heap.size v3).alloc zWW _) hg2 (by simp; omega) (fun j hj => (OX.out.lt j hj).1)
      replace N_S := hid (N_S.out.under hB9 zS zG)
      replace BW := hid (BW.out.trans (hB9.mono zBr))
      replace T := hid (T0.out.below BW.out (Nat.le_refl _))
      have e9 : bys (l.take h) ++ [.int .u8 1, .int .u8 2, .int .u8 3] = bys (l.take h ++ [1, 2, 3]) := by rw [bys_append]; rfl
      rw [e9] at ho
      have N_x := hid (bys_own ho (by rw [List.length_append, List.length_take, HN.out, Nat.min_eq_left HHN.out]; rfl) (byt_three (HBT.out.take h)))
      obtain ⟨ay, cy, rfl, hcy, _, _⟩ := owns_form ho
      clear ho hg2 e9 hB9 OX
      obtain ⟨zM, zM2⟩ := HM.out
      go_wp2_with fail
      rw [zM2]
      clear zM zM2
      refine (take_ok sS gS (l.drop h) m2 (by rw [List.length_drop, HN.out]; omega) (by rw [List.length_drop, HN.out, hm2]; exact Nat.le_refl _) _ N_S.out).mono ?_
      rintro e v4 ⟨r2, rfl, ho9, hy9, hs9, hO9⟩
      replace N_x := hid (N_x.out.src N_S.out hO9)
      replace BW := hid (Below.src BW.out hO9 (by omega))
      replace T := hid (T0.out.below BW.out (Nat.le_refl _))
      replace N_S := hid hs9
      clear hs9
      clear hO9
      have N_y := hid hy9
      clear hy9 ho9
      have N_b := hid (HS.out.below BW.out)
      have p1 := N_x.out.head (k := h) (by rw [List.length_append, List.length_take, HN.out, Nat.min_eq_left HHN.out]; omega) (by omega)
      have e1 : (l.take h ++ [1, 2, 3]).take h = l.take h := by rw [List.take_append_of_le_length (by rw [List.length_take, HN.out]; omega), List.take_take, Nat.min_self]
      rw [e1] at p1
      have p2 := N_b.out.head (k := h) (by rw [HN.out]; exact HHN.out) (by omega)
      have e2 : (l.drop h).take m2 = l.drop h := List.take_of_length_le (by rw [List.length_drop, HN.out, hm2]; exact Nat.le_refl _)
      rw [e2] at N_y
      have P1 := hid p1
      have P2 := hid p2
      clear p1 p2 e1 e2 N_x
      have hi1 : (h : Int) ≤ (cap : Int) := by omega
      have hi2 : (h : Int) ≤ (n : Int) := by omega
      have hi3 : (h : Int) ≤ (cy : Int) := by omega
      have hi4 : (0 : Int) ≤ (h : Int) := by omega
      have AC := hid (fun (W : World) (h : Tab W) => alive_any W h)
      by_cases hch : cap = h
      · skip
        have P3 := hid (ByteSl.tail0 (l := l) (k := h) v4 a (by rw [HN.out]; omega))
        rw [HN.out, hm2] at P3
        rw [hch] at P2
        obtain ⟨zs1, zs2⟩ := three_wrap h1 HHN.out
        go_wp2_with fail
        refine wp_region_soft (C := fun W' => Below v4.heap.size v4 W') 26 (by kernel_rfl) (by kernel_rfl) ((Below.refl _ _).drew) ?_
        simp only [List.take_succ_cons, List.take_zero, List.drop_succ_cons, List.drop_zero]
        refine wpQuiet_step (fun K hK => ?_)
        rw [if_pos (by rfl)]
        refine ⟨.bool true, fun W' hW => ?_, hK _ ?_⟩
        · go_simp
          refine ((AC.out _ (T.out.below hW (Nat.le_refl _)))).mono ?_
          rintro e w' ⟨rfl, b⟩
          exact ⟨rfl, hW.trans (b.mono hW.size)⟩
        clear hK K
        simp only [Act.put, List.setIfInBounds_toArray, List.set_cons_zero, List.set_cons_succ]
        refine wpQuiet_step (fun K hK => ?_)
        rw [if_pos (by rfl)]
        refine ⟨.bool true, fun W' hW => ?_, hK _ ?_⟩
        · go_simp
        clear hK K
        simp only [Act.put, List.setIfInBounds_toArray, List.set_cons_zero, List.set_cons_succ]
        refine wpQuiet_step (fun K hK => ?_)
        rw [if_pos (by rfl)]
        refine ⟨.int .i64 0, fun W' hW => ?_, hK _ ?_⟩
        · go_simp
        clear hK K
        simp only [Act.put, List.setIfInBounds_toArray, List.set_cons_zero, List.set_cons_succ]
        refine wpQuiet_step (fun K hK => ?_)
        rw [if_pos (by rfl)]
        refine ⟨.bool true, fun W' hW => ?_, hK _ ?_⟩
        · go_simp
        clear hK K
        simp only [Act.put, List.setIfInBounds_toArray, List.set_cons_zero, List.set_cons_succ]
        refine wpQuiet_step (fun K hK => ?_)
        rw [if_pos (by rfl)]
        refine ⟨.bool true, fun W' hW => ?_, hK _ ?_⟩
        · go_simp
        clear hK K
        simp only [Act.put, List.setIfInBounds_toArray, List.set_cons_zero, List.set_cons_succ]
        refine wpQuiet_step (fun K hK => ?_)
        rw [if_pos (by rfl)]
        refine ⟨.bool true, fun W' hW => ?_, hK _ ?_⟩
        · go_simp
        clear hK K
        simp only [Act.put, List.setIfInBounds_toArray, List.set_cons_zero, List.set_cons_succ]
        refine wpQuiet_step (fun K hK => ?_)
        rw [if_pos (by rfl)]
        refine ⟨.int .i64 0, fun W' hW => ?_, hK _ ?_⟩
        · go_simp
        clear hK K
        simp only [Act.put, List.setIfInBounds_toArray, List.set_cons_zero, List.set_cons_succ]
        refine wpQuiet_step (fun K hK => ?_)
        rw [if_pos (by rfl)]
        refine ⟨.bool true, fun W' hW => ?_, hK _ ?_⟩
        · go_simp
        clear hK K
        simp only [Act.put, List.setIfInBounds_toArray, List.set_cons_zero, List.set_cons_succ]
        refine wpQuiet_step (fun K hK => ?_)
        rw [if_pos (by rfl)]
        refine ⟨.bool true, fun W' hW => ?_, hK _ ?_⟩
        · go_simp
        clear hK K
        simp only [Act.put, List.setIfInBounds_toArray, List.set_cons_zero, List.set_cons_succ]
        refine wpQuiet_step (fun K hK => ?_)
        rw [if_pos (by rfl)]
        refine ⟨.bool true, fun W' hW => ?_, hK _ ?_⟩
        · go_simp
        clear hK K
        simp only [Act.put, List.setIfInBounds_toArray, List.set_cons_zero, List.set_cons_succ]
        refine wpQuiet_step (fun K hK => ?_)
        rw [if_pos (by rfl)]
        refine ⟨.slice ay (h + 3) cy, fun W' hW => ?_, hK _ ?_⟩
        · go_simp
        clear hK K
        simp only [Act.put, List.setIfInBounds_toArray, List.set_cons_zero, List.set_cons_succ]
        refine wpQuiet_step (fun K hK => ?_)
        rw [if_pos (by rfl)]
        refine ⟨.slice ay (h + 3) cy, fun W' hW => ?_, hK _ ?_⟩
        · go_simp
        clear hK K
        simp only [Act.put, List.setIfInBounds_toArray, List.set_cons_zero, List.set_cons_succ]
        refine wpQuiet_step (fun K hK => ?_)
        rw [if_pos (by rfl)]
        refine ⟨.int .i64 ((h : Int) + 3), fun W' hW => ?_, hK _ ?_⟩
        · go_simp
        clear hK K
        simp only [Act.put, List.setIfInBounds_toArray, List.set_cons_zero, List.set_cons_succ]
        refine wpQuiet_step (fun K hK => ?_)
        rw [if_pos (by rfl)]
        refine ⟨.int .i64 (h : Int), fun W' hW => ?_, hK _ ?_⟩
        · go_simp
        clear hK K
        simp only [Act.put, List.setIfInBounds_toArray, List.set_cons_zero, List.set_cons_succ]
        refine wpQuiet_step (fun K hK => ?_)
        rw [if_pos (by rfl)]
        refine ⟨.slice ay h cy, fun W' hW => ?_, hK _ ?_⟩
        · go_simp
        clear hK K
        simp only [Act.put, List.setIfInBounds_toArray, List.set_cons_zero, List.set_cons_succ]
        refine wpQuiet_step (fun K hK => ?_)
        rw [if_pos (by rfl)]
        refine ⟨.slice a n cap, fun W' hW => ?_, hK _ ?_⟩
        · go_simp
        clear hK K
        simp only [Act.put, List.setIfInBounds_toArray, List.set_cons_zero, List.set_cons_succ]
        refine wpQuiet_step (fun K hK => ?_)
        rw [if_pos (by rfl)]
        refine ⟨.int .i64 (h : Int), fun W' hW => ?_, hK _ ?_⟩
        · go_simp
        clear hK K
        simp only [Act.put, List.setIfInBounds_toArray, List.set_cons_zero, List.set_cons_succ]
        refine wpQuiet_step (fun K hK => ?_)
        rw [if_pos (by rfl)]
        refine ⟨.slice a h h, fun W' hW => ?_, hK _ ?_⟩
        · go_simp
        clear hK K
        simp only [Act.put, List.setIfInBounds_toArray, List.set_cons_zero, List.set_cons_succ]
        refine wpQuiet_step (fun K hK => ?_)
        rw [if_pos (by rfl)]
        refine ⟨.bool true, fun W' hW => ?_, hK _ ?_⟩
        · go_simp
          refine ((equal_same _ _ _ _ (P1.out.below hW) (P2.out.below hW))).mono ?_
          rintro e w' ⟨rfl, b⟩
          exact ⟨rfl, hW.trans (b.mono hW.size)⟩
        clear hK K
        simp only [Act.put, List.setIfInBounds_toArray, List.set_cons_zero, List.set_cons_succ]
        refine wpQuiet_step (fun K hK => ?_)
        rw [if_pos (by rfl)]
        refine ⟨.bool true, fun W' hW => ?_, hK _ ?_⟩
        · go_simp
        clear hK K
        simp only [Act.put, List.setIfInBounds_toArray, List.set_cons_zero, List.set_cons_succ]
        refine wpQuiet_step (fun K hK => ?_)
        rw [if_pos (by rfl)]
        refine ⟨.bool true, fun W' hW => ?_, hK _ ?_⟩
        · go_simp
        clear hK K
        simp only [Act.put, List.setIfInBounds_toArray, List.set_cons_zero, List.set_cons_succ]
        refine wpQuiet_step (fun K hK => ?_)
        rw [if_pos (by rfl)]
        refine ⟨r2, fun W' hW => ?_, hK _ ?_⟩
        · go_simp
        clear hK K
        simp only [Act.put, List.setIfInBounds_toArray, List.set_cons_zero, List.set_cons_succ]
        refine wpQuiet_step (fun K hK => ?_)
        rw [if_pos (by rfl)]
        refine ⟨.slice a n cap, fun W' hW => ?_, hK _ ?_⟩
        · go_simp
        clear hK K
        simp only [Act.put, List.setIfInBounds_toArray, List.set_cons_zero, List.set_cons_succ]
        refine wpQuiet_step (fun K hK => ?_)
        rw [if_pos (by rfl)]
        refine ⟨.int .i64 (h : Int), fun W' hW => ?_, hK _ ?_⟩
        · go_simp
        clear hK K
        simp only [Act.put, List.setIfInBounds_toArray, List.set_cons_zero, List.set_cons_succ]
        refine wpQuiet_step (fun K hK => ?_)
        rw [if_pos (by rfl)]
        refine ⟨.slice a m2 0, fun W' hW => ?_, hK _ ?_⟩
        · go_simp
        clear hK K
        simp only [Act.put, List.setIfInBounds_toArray, List.set_cons_zero, List.set_cons_succ]
        refine wpQuiet_step (fun K hK => ?_)
        rw [if_pos (by rfl)]
        refine ⟨.bool true, fun W' hW => ?_, hK _ ?_⟩
        · go_simp
          refine ((equal_same _ _ _ _ (N_y.out.below hW) (P3.out.below hW))).mono ?_
          rintro e w' ⟨rfl, b⟩
          exact ⟨rfl, hW.trans (b.mono hW.size)⟩
        clear hK K
        simp only [Act.put, List.setIfInBounds_toArray, List.set_cons_zero, List.set_cons_succ]
        refine wpQuiet_nil ?_
        intro ws0 hW9
        replace N_S := hid (N_S.out.below hW9)
        replace N_y := hid (N_y.out.below hW9)
        replace N_b := hid (N_b.out.below hW9)
        replace T := hid (T.out.keep hW9)
        replace BW := hid (BW.out.trans (hW9.mono BW.out.size))
        clear hW9
        go_wp2
        go_ret
        exact ⟨rfl, BW.out⟩
      · skip
        have P3 := hid (N_b.out.tail (k := h) (by rw [HN.out]; exact HHN.out) (by rw [HN.out]; exact hcap))
        rw [HN.out, hm2] at P3
        obtain ⟨zs1, zs2⟩ := three_wrap h1 HHN.out
        go_wp2_with fail
        refine wp_region_soft (C := fun W' => Below v4.heap.size v4 W') 26 (by kernel_rfl) (by kernel_rfl) ((Below.refl _ _).drew) ?_
        simp only [List.take_succ_cons, List.take_zero, List.drop_succ_cons, List.drop_zero]
        refine wpQuiet_step (fun K hK => ?_)
        rw [if_pos (by rfl)]
        refine ⟨.bool true, fun W' hW => ?_, hK _ ?_⟩
        · go_simp
          refine ((AC.out _ (T.out.below hW (Nat.le_refl _)))).mono ?_
          rintro e w' ⟨rfl, b⟩
          exact ⟨rfl, hW.trans (b.mono hW.size)⟩
        clear hK K
        simp only [Act.put, List.setIfInBounds_toArray, List.set_cons_zero, List.set_cons_succ]
        refine wpQuiet_step (fun K hK => ?_)
        rw [if_pos (by rfl)]
        refine ⟨.bool true, fun W' hW => ?_, hK _ ?_⟩
        · go_simp
        clear hK K
        simp only [Act.put, List.setIfInBounds_toArray, List.set_cons_zero, List.set_cons_succ]
        refine wpQuiet_step (fun K hK => ?_)
        rw [if_pos (by rfl)]
        refine ⟨.int .i64 0, fun W' hW => ?_, hK _ ?_⟩
        · go_simp
        clear hK K
        simp only [Act.put, List.setIfInBounds_toArray, List.set_cons_zero, List.set_cons_succ]
        refine wpQuiet_step (fun K hK => ?_)
        rw [if_pos (by rfl)]
        refine ⟨.bool true, fun W' hW => ?_, hK _ ?_⟩
        · go_simp
        clear hK K
        simp only [Act.put, List.setIfInBounds_toArray, List.set_cons_zero, List.set_cons_succ]
        refine wpQuiet_step (fun K hK => ?_)
        rw [if_pos (by rfl)]
        refine ⟨.bool true, fun W' hW => ?_, hK _ ?_⟩
        · go_simp
        clear hK K
        simp only [Act.put, List.setIfInBounds_toArray, List.set_cons_zero, List.set_cons_succ]
        refine wpQuiet_step (fun K hK => ?_)
        rw [if_pos (by rfl)]
        refine ⟨.bool true, fun W' hW => ?_, hK _ ?_⟩
        · go_simp
        clear hK K
        simp only [Act.put, List.setIfInBounds_toArray, List.set_cons_zero, List.set_cons_succ]
        refine wpQuiet_step (fun K hK => ?_)
        rw [if_pos (by rfl)]
        refine ⟨.int .i64 0, fun W' hW => ?_, hK _ ?_⟩
        · go_simp
        clear hK K
        simp only [Act.put, List.setIfInBounds_toArray, List.set_cons_zero, List.set_cons_succ]
        refine wpQuiet_step (fun K hK => ?_)
        rw [if_pos (by rfl)]
        refine ⟨.bool true, fun W' hW => ?_, hK _ ?_⟩
        · go_simp
        clear hK K
        simp only [Act.put, List.setIfInBounds_toArray, List.set_cons_zero, List.set_cons_succ]
        refine wpQuiet_step (fun K hK => ?_)
        rw [if_pos (by rfl)]
        refine ⟨.bool true, fun W' hW => ?_, hK _ ?_⟩
        · go_simp
        clear hK K
        simp only [Act.put, List.setIfInBounds_toArray, List.set_cons_zero, List.set_cons_succ]
        refine wpQuiet_step (fun K hK => ?_)
        rw [if_pos (by rfl)]
        refine ⟨.bool true, fun W' hW => ?_, hK _ ?_⟩
        · go_simp
        clear hK K
        simp only [Act.put, List.setIfInBounds_toArray, List.set_cons_zero, List.set_cons_succ]
        refine wpQuiet_step (fun K hK => ?_)
        rw [if_pos (by rfl)]
        refine ⟨.slice ay (h + 3) cy, fun W' hW => ?_, hK _ ?_⟩
        · go_simp
        clear hK K
        simp only [Act.put, List.setIfInBounds_toArray, List.set_cons_zero, List.set_cons_succ]
        refine wpQuiet_step (fun K hK => ?_)
        rw [if_pos (by rfl)]
        refine ⟨.slice ay (h + 3) cy, fun W' hW => ?_, hK _ ?_⟩
        · go_simp
        clear hK K
        simp only [Act.put, List.setIfInBounds_toArray, List.set_cons_zero, List.set_cons_succ]
        refine wpQuiet_step (fun K hK => ?_)
        rw [if_pos (by rfl)]
        refine ⟨.int .i64 ((h : Int) + 3), fun W' hW => ?_, hK _ ?_⟩
        · go_simp
        clear hK K
        simp only [Act.put, List.setIfInBounds_toArray, List.set_cons_zero, List.set_cons_succ]
        refine wpQuiet_step (fun K hK => ?_)
        rw [if_pos (by rfl)]
        refine ⟨.int .i64 (h : Int), fun W' hW => ?_, hK _ ?_⟩
        · go_simp
        clear hK K
        simp only [Act.put, List.setIfInBounds_toArray, List.set_cons_zero, List.set_cons_succ]
        refine wpQuiet_step (fun K hK => ?_)
        rw [if_pos (by rfl)]
        refine ⟨.slice ay h cy, fun W' hW => ?_, hK _ ?_⟩
        · go_simp
        clear hK K
        simp only [Act.put, List.setIfInBounds_toArray, List.set_cons_zero, List.set_cons_succ]
        refine wpQuiet_step (fun K hK => ?_)
        rw [if_pos (by rfl)]
        refine ⟨.slice a n cap, fun W' hW => ?_, hK _ ?_⟩
        · go_simp
        clear hK K
        simp only [Act.put, List.setIfInBounds_toArray, List.set_cons_zero, List.set_cons_succ]
        refine wpQuiet_step (fun K hK => ?_)
        rw [if_pos (by rfl)]
        refine ⟨.int .i64 (h : Int), fun W' hW => ?_, hK _ ?_⟩
        · go_simp
        clear hK K
        simp only [Act.put, List.setIfInBounds_toArray, List.set_cons_zero, List.set_cons_succ]
        refine wpQuiet_step (fun K hK => ?_)
        rw [if_pos (by rfl)]
        refine ⟨.slice a h cap, fun W' hW => ?_, hK _ ?_⟩
        · go_simp
        clear hK K
        simp only [Act.put, List.setIfInBounds_toArray, List.set_cons_zero, List.set_cons_succ]
        refine wpQuiet_step (fun K hK => ?_)
        rw [if_pos (by rfl)]
        refine ⟨.bool true, fun W' hW => ?_, hK _ ?_⟩
        · go_simp
          refine ((equal_same _ _ _ _ (P1.out.below hW) (P2.out.below hW))).mono ?_
          rintro e w' ⟨rfl, b⟩
          exact ⟨rfl, hW.trans (b.mono hW.size)⟩
        clear hK K
        simp only [Act.put, List.setIfInBounds_toArray, List.set_cons_zero, List.set_cons_succ]
        refine wpQuiet_step (fun K hK => ?_)
        rw [if_pos (by rfl)]
        refine ⟨.bool true, fun W' hW => ?_, hK _ ?_⟩
        · go_simp
        clear hK K
        simp only [Act.put, List.setIfInBounds_toArray, List.set_cons_zero, List.set_cons_succ]
        refine wpQuiet_step (fun K hK => ?_)
        rw [if_pos (by rfl)]
        refine ⟨.bool true, fun W' hW => ?_, hK _ ?_⟩
        · go_simp
        clear hK K
        simp only [Act.put, List.setIfInBounds_toArray, List.set_cons_zero, List.set_cons_succ]
        refine wpQuiet_step (fun K hK => ?_)
        rw [if_pos (by rfl)]
        refine ⟨r2, fun W' hW => ?_, hK _ ?_⟩
        · go_simp
        clear hK K
        simp only [Act.put, List.setIfInBounds_toArray, List.set_cons_zero, List.set_cons_succ]
        refine wpQuiet_step (fun K hK => ?_)
        rw [if_pos (by rfl)]
        refine ⟨.slice a n cap, fun W' hW => ?_, hK _ ?_⟩
        · go_simp
        clear hK K
        simp only [Act.put, List.setIfInBounds_toArray, List.set_cons_zero, List.set_cons_succ]
        refine wpQuiet_step (fun K hK => ?_)
        rw [if_pos (by rfl)]
        refine ⟨.int .i64 (h : Int), fun W' hW => ?_, hK _ ?_⟩
        · go_simp
        clear hK K
        simp only [Act.put, List.setIfInBounds_toArray, List.set_cons_zero, List.set_cons_succ]
        refine wpQuiet_step (fun K hK => ?_)
        rw [if_pos (by rfl)]
        refine ⟨.slice (a.map (·.add h)) m2 (cap - h), fun W' hW => ?_, hK _ ?_⟩
        · go_simp
        clear hK K
        simp only [Act.put, List.setIfInBounds_toArray, List.set_cons_zero, List.set_cons_succ]
        refine wpQuiet_step (fun K hK => ?_)
        rw [if_pos (by rfl)]
        refine ⟨.bool true, fun W' hW => ?_, hK _ ?_⟩
        · go_simp
          refine ((equal_same _ _ _ _ (N_y.out.below hW) (P3.out.below hW))).mono ?_
          rintro e w' ⟨rfl, b⟩
          exact ⟨rfl, hW.trans (b.mono hW.size)⟩
        clear hK K
        simp only [Act.put, List.setIfInBounds_toArray, List.set_cons_zero, List.set_cons_succ]
        refine wpQuiet_nil ?_
        intro ws1 hW9
        replace N_S := hid (N_S.out.below hW9)
        replace N_y := hid (N_y.out.below hW9)
        replace N_b := hid (N_b.out.below hW9)
        replace T := hid (T.out.keep hW9)
        replace BW := hid (BW.out.trans (hW9.mono BW.out.size))
        clear hW9
        go_wp2
        go_ret
        exact ⟨rfl, BW.out⟩
end Go.Proofs.YtaakdmjmanbggaaDoor
