/-
  CheckShares.
-/
import Derived.Test.YticpjaooegpipaaDoorParList
import Derived.Test.YticpjaooegpipaaDoorParShare
import Derived.Outline
namespace Go.Proofs.YticpjaooegpipaaDoor
open Go.RowKit Go.Maps

theorem header_any (f t i n : Int) (v : Value) (w : World) : Calls Tryd.prog 33 #[.agg #[.int .i64 f, .int .i64 t, .int .i64 i, .int .i64 n, v]] w (Ret (.agg #[.int .i64 f, .int .i64 t, .int .i64 n]) w) := by
  go_enter Tryd.func33, Tryd.ntmps33
  go_wp2
  refine bodyPost_ret (by simp only [results, Tryd.results33]; go_simp; try rfl) rfl ?_
  exact ⟨rfl, by go_grown⟩
theorem eq_hd_fields (a b c x y z : Int) (w : World) (fs : List Field) (h : fs.map (fun f => (f.name, f.type, f.offset)) = [("field", 3, 0), ("threshold", 3, 1), ("length", 3, 2)]) :
    (Op.eqFields 9999 #[.int .i64 a, .int .i64 b, .int .i64 c] #[.int .i64 x, .int .i64 y, .int .i64 z] fs).run Tryd.prog w = .ok (decide (a = x ∧ b = y ∧ c = z)) w := by
  rcases fs with _ | ⟨f0, _ | ⟨f1, _ | ⟨f2, _ | ⟨f3, fs⟩⟩⟩⟩ <;> simp at h
  obtain ⟨⟨n0, t0, o0⟩, ⟨n1, t1, o1⟩, n2, t2, o2⟩ := h
  simp only [Op.eqFields, n0, n1, n2, t0, t1, t2, o0, o1, o2]
  by_cases h0 : a = x <;> by_cases h1 : b = y <;> by_cases h2 : c = z <;> simp [h0, h1, h2, go_sem]
theorem run_eq_hd (a b c x y z : Int) (w : World) : (Op.equalIn 10000 66 (.agg #[.int .i64 a, .int .i64 b, .int .i64 c]) (.agg #[.int .i64 x, .int .i64 y, .int .i64 z])).run Tryd.prog w = .ok (decide (a = x ∧ b = y ∧ c = z)) w := by
  rw [run_equalIn_struct w 9999 66 _ _ (by kernel_rfl) (by kernel_rfl)]
  exact eq_hd_fields a b c x y z w _ (by kernel_rfl)
theorem map_below {W W' : World} {b n : Nat} {D : DataW Unit} (h : W.ownsMap Tryd.prog 3 (plainElem Tryd.prog 3) b n D) (hb : Below W.heap.size W W') : W'.ownsMap Tryd.prog 3 (plainElem Tryd.prog 3) b n D := by
  have hlt := h.lt
  obtain ⟨es, clock, h1, r⟩ := h
  exact ⟨es, clock, (hb.block b hlt).trans h1, r⟩
theorem mixd_zero (ss : List Shr) : ¬ mixd ss 0 := by rintro ⟨s, hs, _⟩; simp at hs
theorem mixd_snoc {ss : List Shr} {k : Nat} {s : Shr} (h : ss[k]? = some s) : mixd ss (k + 1) ↔ mixd ss k ∨ other ss s := by
  unfold mixd
  rw [take_snoc h]
  constructor
  · rintro ⟨x, hx, ho⟩
    rw [List.mem_append, List.mem_singleton] at hx
    rcases hx with hx | rfl
    · exact .inl ⟨x, hx, ho⟩
    · exact .inr ho
  · rintro (⟨x, hx, ho⟩ | ho)
    · exact ⟨x, by simp [hx], ho⟩
    · exact ⟨s, by simp, ho⟩
theorem chkG_mixed {ss : List Shr} (h : mixd ss ss.length) : chkG ss = 14 := by unfold chkG; rw [if_pos h]
theorem chkG_dup {ss : List Shr} (h : ¬ mixd ss ss.length) (h2 : ¬ (ss.map Shr.i).Nodup) : chkG ss = 15 := by unfold chkG; rw [if_neg h, if_pos h2]
theorem chkG_few {ss : List Shr} (h : ¬ mixd ss ss.length) (h2 : (ss.map Shr.i).Nodup) (h3 : few ss) : chkG ss = 16 := by unfold chkG; rw [if_neg h, if_neg (fun e => e h2), if_pos h3]
theorem chkG_ok {ss : List Shr} (h : ¬ mixd ss ss.length) (h2 : (ss.map Shr.i).Nodup) (h3 : ¬ few ss) : chkG ss = 0 := by unfold chkG; rw [if_neg h, if_neg (fun e => e h2), if_neg h3]
set_option maxRecDepth 100000 in
set_option maxHeartbeats 1000000 in
theorem pshares_any (v : Value) (ss : List Shr) (w : World) (hT : Tab w) (hS : ShSl w v ss) (hl : ss.length < 1000000) : Calls Tryd.prog 17 #[v] w (Ret (.int .i64 (chkL ss)) w) := by
  have HT := hid hT
  clear hT
  obtain ⟨a, cap, rfl, _, hrow⟩ := hS
  obtain ⟨m, hm⟩ : ∃ m, ss.length = m := ⟨_, rfl⟩
  have HM := hid hm
  have HR := hid hrow
  rw [hm] at hl ⊢
  clear hm hrow
  have hmm := @run_makeMap Tryd.prog
  go_enter Tryd.func17, Tryd.ntmps17
  go_wp2
  go_loopw [11, 4] (fun x y wr => ∃ (k : Nat) (b : Bool), k ≤ m ∧ x = .int .i64 (k : Int) ∧ y = .bool b ∧ (b = true ↔ mixd ss k) ∧ (∀ s ∈ ss.take k, s.chk = 0) ∧ IxMap wr w.heap.size ((ss.take k).map Shr.i) ∧ Below w.heap.size w wr) (fun x _ _ => m - (intOf x).toNat)
  case atStart => exact ⟨0, false, Nat.zero_le _, rfl, rfl, by simp [mixd_zero], by simp, IxMap.made w, (Below.refl _ _).alloc (Nat.le_refl _) _⟩
  case round =>
    obtain ⟨k, b, hk, rfl, rfl, hmix, hok, hix, hB⟩ := hrel
    have zB := hB.size
    have HB := hid hB
    have HOK := hid hok
    have HMX := hid hmix
    obtain ⟨nb, D, hown, hn1, hn2, hn3, hn4⟩ := hix
    have HN1 := hid hn1
    have HN2 := hid hn2
    have HN3 := hid hn3
    have HN4 := hid hn4
    have OWN := hid hown
    have hn9 : nb ≤ k := by rw [List.length_map, List.length_take] at hn1; omega
    have zM := hown.lt
    clear hB hok hmix hn1 hn2 hn3 hn4 hown
    by_cases hlt : k < m
    · obtain ⟨s, hx⟩ : ∃ s, ss[k]? = some s := ⟨ss[k]'(by rw [HM.out]; exact hlt), List.getElem?_eq_getElem _⟩
      obtain ⟨s0, hx0⟩ : ∃ s, ss[0]? = some s := ⟨ss[0]'(by rw [HM.out]; omega), List.getElem?_eq_getElem _⟩
      obtain ⟨g, off, hga, he⟩ : ∃ g off, a = some ⟨g, off, none⟩ ∧ ShsAt w g off ss := by
        rcases HR.out with h | h
        · subst h; cases hx
        · exact h
      subst hga
      obtain ⟨lp, e0, e1, e2, e3, e4⟩ := he k s hx
      obtain ⟨_, y0, y1, y2, y3, y4⟩ := he 0 s0 hx0
      rw [Nat.zero_mul, Nat.add_zero] at y0 y1 y2 y3 y4
      have hg := World.block_lt_of_cell? w _ e0
      have hgr := Nat.lt_of_lt_of_le hg zB
      have HX := hid hx
      have HX0 := hid hx0
      have d0 := (HB.out.cell (p := ⟨g, off + k * 5, none⟩) hg).trans e0
      have d1 := (HB.out.cell (p := ⟨g, off + k * 5 + 1, none⟩) hg).trans e1
      have d2 := (HB.out.cell (p := ⟨g, off + k * 5 + 2, none⟩) hg).trans e2
      have d3 := (HB.out.cell (p := ⟨g, off + k * 5 + 3, none⟩) hg).trans e3
      have d4 := (HB.out.cell (p := ⟨g, off + k * 5 + 4, none⟩) hg).trans e4
      have u0 := hid ((HB.out.cell (p := ⟨g, off, none⟩) hg).trans y0)
      have u1 := hid ((HB.out.cell (p := ⟨g, off + 1, none⟩) hg).trans y1)
      have u2 := hid ((HB.out.cell (p := ⟨g, off + 2, none⟩) hg).trans y2)
      have u3 := hid ((HB.out.cell (p := ⟨g, off + 3, none⟩) hg).trans y3)
      have u4 := hid ((HB.out.cell (p := ⟨g, off + 4, none⟩) hg).trans y4)
      obtain ⟨pa, pc, hv, _⟩ := id lp
      obtain ⟨pm, hpm⟩ : ∃ n, s.ps.length = n := ⟨_, rfl⟩
      rw [hpm] at hv
      rw [hv] at d4 lp
      clear hpm
      have LP := hid ((lp.below HB.out).below ((Below.refl _ wr).alloc (Nat.le_refl _) (.cells #[.int .i64 s.f, .int .i64 s.t, .int .i64 s.i, .int .i64 s.n, .slice pa pm pc] 31)))
      have T1 := hid ((HT.out.below HB.out (Nat.le_refl _)).alloc (.cells #[.int .i64 s.f, .int .i64 s.t, .int .i64 s.i, .int .i64 s.n, .slice pa pm pc] 31))
      have CK := hid (pshare_any s.f s.t s.i s.n (.slice pa pm pc) s.ps _ T1.out LP.out)
      obtain ⟨c0, hc0⟩ : ∃ c, chkS s.f s.t s.i s.n s.ps = c := ⟨_, rfl⟩
      have HC0 := hid hc0
      rw [hc0] at CK
      have hp0 : (0 : Int) < (m : Int) := by omega
      have hp1 : 0 < m := by omega
      clear e0 e1 e2 e3 e4 y0 y1 y2 y3 y4 he hx hx0 lp hc0 hv
      by_cases hc : c0 = 0
      · have HC := hid (show s.chk = 0 by rw [← hc]; exact HC0.out)
        subst hc
        have HKEY := hid (keyOf_int_mk Tryd.underlying3 (chk_index HC.out))
        go_wp2_with fail
        refine CK.out.mono ?_
        rintro e w1 ⟨rfl, b1⟩
        have h_s : Blk w1 wr.heap.size 31 [.int .i64 s.f, .int .i64 s.t, .int .i64 s.i, .int .i64 s.n, .slice pa pm pc] := Blk.keep (Blk.new rfl) b1
        have n0 := h_s.cell (i := 0) rfl
        have n1 := h_s.cell (i := 1) rfl
        have n2 := h_s.cell (i := 2) rfl
        have n3 := h_s.cell (i := 3) rfl
        have n4 := h_s.cell (i := 4) rfl
        have n5 := (bcell b1 g (off) (by simp; omega)).trans ((((Below.refl wr.heap.size wr).alloc (Nat.le_refl _) (.cells #[.int .i64 s.f, .int .i64 s.t, .int .i64 s.i, .int .i64 s.n, .slice pa pm pc] 31)).cell (p := ⟨g, off, none⟩) hgr).trans u0.out)
        have n6 := (bcell b1 g (off + 1) (by simp; omega)).trans ((((Below.refl wr.heap.size wr).alloc (Nat.le_refl _) (.cells #[.int .i64 s.f, .int .i64 s.t, .int .i64 s.i, .int .i64 s.n, .slice pa pm pc] 31)).cell (p := ⟨g, off + 1, none⟩) hgr).trans u1.out)
        have n7 := (bcell b1 g (off + 2) (by simp; omega)).trans ((((Below.refl wr.heap.size wr).alloc (Nat.le_refl _) (.cells #[.int .i64 s.f, .int .i64 s.t, .int .i64 s.i, .int .i64 s.n, .slice pa pm pc] 31)).cell (p := ⟨g, off + 2, none⟩) hgr).trans u2.out)
        have n8 := (bcell b1 g (off + 3) (by simp; omega)).trans ((((Below.refl wr.heap.size wr).alloc (Nat.le_refl _) (.cells #[.int .i64 s.f, .int .i64 s.t, .int .i64 s.i, .int .i64 s.n, .slice pa pm pc] 31)).cell (p := ⟨g, off + 3, none⟩) hgr).trans u3.out)
        have n9 := (bcell b1 g (off + 4) (by simp; omega)).trans ((((Below.refl wr.heap.size wr).alloc (Nat.le_refl _) (.cells #[.int .i64 s.f, .int .i64 s.t, .int .i64 s.i, .int .i64 s.n, .slice pa pm pc] 31)).cell (p := ⟨g, off + 4, none⟩) hgr).trans u4.out)
        have zs := h_s.lt
        have zg : g < w1.heap.size := by have := b1.size; simp at this; omega
        have B2 : Below w.heap.size w w1 := (HB.out.alloc zB _).trans (b1.mono (by simp; omega))
        have zw := B2.size
        have OW := hid (map_below (map_below OWN.out ((Below.refl _ wr).alloc (Nat.le_refl _) (.cells #[.int .i64 s.f, .int .i64 s.t, .int .i64 s.i, .int .i64 s.n, .slice pa pm pc] 31))) b1)
        clear d0 d1 d2 d3 d4 h_s b1 hgr hg
        cases b with
        | true =>
          have HMT := hid (HMX.out.1 rfl)
          clear HMX
          go_wp2
          go_quiet (fail)
          have n2 : (w1.drewN nq).cell? ⟨wr.heap.size, 2, none⟩ = some (.int .i64 s.i) := n2
          have OW := hid (show (w1.drewN nq).ownsMap Tryd.prog 3 (plainElem Tryd.prog 3) w.heap.size nb D from OW.out)
          have B2 : Below w.heap.size w (w1.drewN nq) := Below.drewN' B2 nq
          go_wp2_with (first
            | (at_lookup; refine wpList_lookup_own_int _ rfl _ _ 64 rfl 3 3 .i64 keyInt Tryd.underlying64 Tryd.underlying3 (zeroInt _) w.heap.size nb D rfl OW.out _ _ rfl HKEY.out ?_; intro c hat hwc; have HAT := hid hat; clear hat hwc)
            | (at_mapUpdate; refine wpList_mapUpdate_own _ rfl _ _ _ 64 rfl 3 3 keyInt Tryd.underlying64 _ w.heap.size nb D rfl OW.out (by unfold maxLen; omega) _ _ _ rfl rfl HKEY.out _ [] (plainElem_int Tryd.underlying3 (wrap64_wf _)) ?_; intro w9 hown9 hgrow9)
            | go_in)
          have B9 := hid (Below.grown B2 hgrow9 (B2).size (fun j hj => by cases hj; exact Nat.le_refl _))
          have M9 := hid (IxMap.step (x := s.i) OW.out (by simpa using HN1.out) HN2.out HN3.out HN4.out hown9)
          clear hgrow9 hown9
          go_roundw
          case rel => exact ⟨k + 1, true, by omega, by go_num, rfl, by simp [mixd_snoc HX.out, HMT.out], by intro y hy; rw [take_snoc HX.out, List.mem_append, List.mem_singleton] at hy; rcases hy with h | h; exact HOK.out y h; exact h ▸ HC.out, by rw [take_snoc HX.out, List.map_append]; exact M9.out, B9.out⟩
          case measure => simp [intOf]; omega
        | false =>
          have hmf : ¬ mixd ss k := fun h => by have := HMX.out.2 h; cases this
          have HMF := hid hmf
          clear hmf HMX
          by_cases heq : s.f = s0.f ∧ s.t = s0.t ∧ s.n = s0.n
          · have he := fun W : World => run_eq_hd s.f s.t s.n s0.f s0.t s0.n W
            rw [decide_eq_true heq] at he
            have HNO := hid (show ¬ other ss s from fun ⟨x, h1, h2⟩ => h2 (by rw [HX0.out] at h1; cases h1; exact heq))
            clear heq
            go_wp2
            go_region_held3 (fun w' => w'.cell? ⟨wr.heap.size, 0, none⟩ = some (.int .i64 s.f) ∧ w'.cell? ⟨wr.heap.size, 1, none⟩ = some (.int .i64 s.t) ∧ w'.cell? ⟨wr.heap.size, 2, none⟩ = some (.int .i64 s.i) ∧ w'.cell? ⟨wr.heap.size, 3, none⟩ = some (.int .i64 s.n) ∧ w'.cell? ⟨wr.heap.size, 4, none⟩ = some (.slice pa pm pc) ∧ w'.cell? ⟨g, off, none⟩ = some (.int .i64 s0.f) ∧ w'.cell? ⟨g, off + 1, none⟩ = some (.int .i64 s0.t) ∧ w'.cell? ⟨g, off + 2, none⟩ = some (.int .i64 s0.i) ∧ w'.cell? ⟨g, off + 3, none⟩ = some (.int .i64 s0.n) ∧ w'.cell? ⟨g, off + 4, none⟩ = some (s0.v)) ((first | (go_simp; done) | go_keep)) (first | (go_at_call 33; refine (header_any _ _ _ _ _ w2).mono ?_; rintro e w3 ⟨rfl, bw3⟩; have hc : ∀ b o, b < w2.heap.size → w3.cell? ⟨b, o, none⟩ = w2.cell? ⟨b, o, none⟩ := fun b o h => bcell (W := w2) bw3 b o h; have r0 := (hc _ _ zsw2).trans p0; have r1 := (hc _ _ zsw2).trans p1; have r2 := (hc _ _ zsw2).trans p2; have r3 := (hc _ _ zsw2).trans p3; have r4 := (hc _ _ zsw2).trans p4; have r5 := (hc _ _ zgw2).trans p5; have r6 := (hc _ _ zgw2).trans p6; have r7 := (hc _ _ zgw2).trans p7; have r8 := (hc _ _ zgw2).trans p8; have r9 := (hc _ _ zgw2).trans p9; have Bw3 : Below w.heap.size w w3 := Below.trans Bw2 (bw3.mono (show w.heap.size ≤ w2.heap.size from zww2)); have OWw3 := hid (map_below (W := w2) OWw2.out bw3); have zsw3 := Nat.lt_of_lt_of_le zsw2 bw3.size; have zgw3 := Nat.lt_of_lt_of_le zgw2 bw3.size; have zww3 := Bw3.size; clear hc) | (go_at_call 33; refine (header_any _ _ _ _ _ w1.drew).mono ?_; rintro e w2 ⟨rfl, bw2⟩; have hc : ∀ b o, b < w1.heap.size → w2.cell? ⟨b, o, none⟩ = w1.cell? ⟨b, o, none⟩ := fun b o h => bcell (W := w1.drew) bw2 b o h; have p0 := (hc _ _ zs).trans n0; have p1 := (hc _ _ zs).trans n1; have p2 := (hc _ _ zs).trans n2; have p3 := (hc _ _ zs).trans n3; have p4 := (hc _ _ zs).trans n4; have p5 := (hc _ _ zg).trans n5; have p6 := (hc _ _ zg).trans n6; have p7 := (hc _ _ zg).trans n7; have p8 := (hc _ _ zg).trans n8; have p9 := (hc _ _ zg).trans n9; have Bw2 : Below w.heap.size w w2 := Below.trans (Below.drew B2) (bw2.mono (show w.heap.size ≤ w1.heap.size from zw)); have OWw2 := hid (map_below (W := w1.drew) OW.out bw2); have zsw2 := Nat.lt_of_lt_of_le zs bw2.size; have zgw2 := Nat.lt_of_lt_of_le zg bw2.size; have zww2 := Bw2.size; clear hc))
            go_wp2_with (first
              | (at_lookup; refine wpList_lookup_own_int _ rfl _ _ 64 rfl 3 3 .i64 keyInt Tryd.underlying64 Tryd.underlying3 (zeroInt _) w.heap.size nb D rfl OWw3.out _ _ rfl HKEY.out ?_; intro c hat hwc; have HAT := hid hat; clear hat hwc)
              | (at_mapUpdate; refine wpList_mapUpdate_own _ rfl _ _ _ 64 rfl 3 3 keyInt Tryd.underlying64 _ w.heap.size nb D rfl OWw3.out (by unfold maxLen; omega) _ _ _ rfl rfl HKEY.out _ [] (plainElem_int Tryd.underlying3 (wrap64_wf _)) ?_; intro w9 hown9 hgrow9)
              | go_in)
            have B9 := hid (Below.grown Bw3 hgrow9 (Bw3).size (fun j hj => by cases hj; exact Nat.le_refl _))
            have M9 := hid (IxMap.step (x := s.i) OWw3.out (by simpa using HN1.out) HN2.out HN3.out HN4.out hown9)
            clear hgrow9 hown9
            go_roundw
            case rel => exact ⟨k + 1, false, by omega, by go_num, rfl, by simp [mixd_snoc HX.out, HMF.out, HNO.out], by intro y hy; rw [take_snoc HX.out, List.mem_append, List.mem_singleton] at hy; rcases hy with h | h; exact HOK.out y h; exact h ▸ HC.out, by rw [take_snoc HX.out, List.map_append]; exact M9.out, B9.out⟩
            case measure => simp [intOf]; omega
          · have he := fun W : World => run_eq_hd s.f s.t s.n s0.f s0.t s0.n W
            rw [decide_eq_false heq] at he
            have HOT := hid (show other ss s from ⟨s0, HX0.out, heq⟩)
            clear heq
            go_wp2
            go_region_held3 (fun w' => w'.cell? ⟨wr.heap.size, 0, none⟩ = some (.int .i64 s.f) ∧ w'.cell? ⟨wr.heap.size, 1, none⟩ = some (.int .i64 s.t) ∧ w'.cell? ⟨wr.heap.size, 2, none⟩ = some (.int .i64 s.i) ∧ w'.cell? ⟨wr.heap.size, 3, none⟩ = some (.int .i64 s.n) ∧ w'.cell? ⟨wr.heap.size, 4, none⟩ = some (.slice pa pm pc) ∧ w'.cell? ⟨g, off, none⟩ = some (.int .i64 s0.f) ∧ w'.cell? ⟨g, off + 1, none⟩ = some (.int .i64 s0.t) ∧ w'.cell? ⟨g, off + 2, none⟩ = some (.int .i64 s0.i) ∧ w'.cell? ⟨g, off + 3, none⟩ = some (.int .i64 s0.n) ∧ w'.cell? ⟨g, off + 4, none⟩ = some (s0.v)) ((first | (go_simp; done) | go_keep)) (first | (go_at_call 33; refine (header_any _ _ _ _ _ w2).mono ?_; rintro e w3 ⟨rfl, bw3⟩; have hc : ∀ b o, b < w2.heap.size → w3.cell? ⟨b, o, none⟩ = w2.cell? ⟨b, o, none⟩ := fun b o h => bcell (W := w2) bw3 b o h; have r0 := (hc _ _ zsw2).trans p0; have r1 := (hc _ _ zsw2).trans p1; have r2 := (hc _ _ zsw2).trans p2; have r3 := (hc _ _ zsw2).trans p3; have r4 := (hc _ _ zsw2).trans p4; have r5 := (hc _ _ zgw2).trans p5; have r6 := (hc _ _ zgw2).trans p6; have r7 := (hc _ _ zgw2).trans p7; have r8 := (hc _ _ zgw2).trans p8; have r9 := (hc _ _ zgw2).trans p9; have Bw3 : Below w.heap.size w w3 := Below.trans Bw2 (bw3.mono (show w.heap.size ≤ w2.heap.size from zww2)); have OWw3 := hid (map_below (W := w2) OWw2.out bw3); have zsw3 := Nat.lt_of_lt_of_le zsw2 bw3.size; have zgw3 := Nat.lt_of_lt_of_le zgw2 bw3.size; have zww3 := Bw3.size; clear hc) | (go_at_call 33; refine (header_any _ _ _ _ _ w1.drew).mono ?_; rintro e w2 ⟨rfl, bw2⟩; have hc : ∀ b o, b < w1.heap.size → w2.cell? ⟨b, o, none⟩ = w1.cell? ⟨b, o, none⟩ := fun b o h => bcell (W := w1.drew) bw2 b o h; have p0 := (hc _ _ zs).trans n0; have p1 := (hc _ _ zs).trans n1; have p2 := (hc _ _ zs).trans n2; have p3 := (hc _ _ zs).trans n3; have p4 := (hc _ _ zs).trans n4; have p5 := (hc _ _ zg).trans n5; have p6 := (hc _ _ zg).trans n6; have p7 := (hc _ _ zg).trans n7; have p8 := (hc _ _ zg).trans n8; have p9 := (hc _ _ zg).trans n9; have Bw2 : Below w.heap.size w w2 := Below.trans (Below.drew B2) (bw2.mono (show w.heap.size ≤ w1.heap.size from zw)); have OWw2 := hid (map_below (W := w1.drew) OW.out bw2); have zsw2 := Nat.lt_of_lt_of_le zs bw2.size; have zgw2 := Nat.lt_of_lt_of_le zg bw2.size; have zww2 := Bw2.size; clear hc))
            go_wp2_with (first
              | (at_lookup; refine wpList_lookup_own_int _ rfl _ _ 64 rfl 3 3 .i64 keyInt Tryd.underlying64 Tryd.underlying3 (zeroInt _) w.heap.size nb D rfl OWw3.out _ _ rfl HKEY.out ?_; intro c hat hwc; have HAT := hid hat; clear hat hwc)
              | (at_mapUpdate; refine wpList_mapUpdate_own _ rfl _ _ _ 64 rfl 3 3 keyInt Tryd.underlying64 _ w.heap.size nb D rfl OWw3.out (by unfold maxLen; omega) _ _ _ rfl rfl HKEY.out _ [] (plainElem_int Tryd.underlying3 (wrap64_wf _)) ?_; intro w9 hown9 hgrow9)
              | go_in)
            have B9 := hid (Below.grown Bw3 hgrow9 (Bw3).size (fun j hj => by cases hj; exact Nat.le_refl _))
            have M9 := hid (IxMap.step (x := s.i) OWw3.out (by simpa using HN1.out) HN2.out HN3.out HN4.out hown9)
            clear hgrow9 hown9
            go_roundw
            case rel => exact ⟨k + 1, true, by omega, by go_num, rfl, by simp [mixd_snoc HX.out, HOT.out], by intro y hy; rw [take_snoc HX.out, List.mem_append, List.mem_singleton] at hy; rcases hy with h | h; exact HOK.out y h; exact h ▸ HC.out, by rw [take_snoc HX.out, List.map_append]; exact M9.out, B9.out⟩
            case measure => simp [intOf]; omega
      · have HC := hid (show s.chk = c0 from HC0.out)
        have hr := hid (chkL_bad HOK.out HX.out (by rw [HC.out]; exact hc))
        have EQ := hid (hr.out.trans HC.out)
        have hd : (c0 == 0) = false := by simp [hc]
        go_wp2_with fail
        refine CK.out.mono ?_
        rintro e w1 ⟨rfl, b1⟩
        have B2 : Below w.heap.size w w1 := (HB.out.alloc zB _).trans (b1.mono (by simp; omega))
        clear b1 d0 d1 d2 d3 d4
        go_wp2
        go_ret
        exact ⟨by rw [EQ.out]; rfl, B2⟩
    · obtain rfl : k = m := by omega
      have hall : ∀ s ∈ ss, s.chk = 0 := fun s hs => HOK.out s (by rw [List.take_of_length_le (by rw [HM.out]; exact Nat.le_refl _)]; exact hs)
      have hG := chkL_good hall
      have htk : ss.take k = ss := List.take_of_length_le (by rw [HM.out]; exact Nat.le_refl _)
      have HMX2 := hid (show b = true ↔ mixd ss ss.length by rw [HM.out]; exact HMX.out)
      have HN5 := hid (show size D < k ↔ ¬ (ss.map Shr.i).Nodup by have h := HN3.out; rw [htk, List.length_map, HM.out] at h; exact h)
      clear hall htk
      cases b with
      | true =>
        have EQ := hid (hG.trans (chkG_mixed (HMX2.out.1 rfl)))
        clear hG
        go_wp2
        go_ret
        exact ⟨by rw [EQ.out]; rfl, HB.out⟩
      | false =>
        have hm1 : ¬ mixd ss ss.length := fun h => by have := HMX2.out.2 h; cases this
        by_cases hd : size D < k
        · have EQ := hid (hG.trans (chkG_dup hm1 (HN5.out.1 hd)))
          clear hm1 hG
          go_wp2_with (first | (at_len; refine wpList_len_own _ rfl _ 64 rfl 3 3 Tryd.underlying64 _ w.heap.size nb D rfl OWN.out ?_; skip) | go_in)
          go_ret
          exact ⟨by rw [EQ.out]; rfl, HB.out⟩
        · have hnd : (ss.map Shr.i).Nodup := Classical.not_not.1 fun h => hd (HN5.out.2 h)
          have hsz : size D = k := by have h := HN2.out; rw [List.length_map, List.length_take] at h; omega
          by_cases hk0 : k = 0
          · have EQ := hid (hG.trans (chkG_few hm1 hnd (fun s hs => by rw [List.getElem?_eq_none (by rw [HM.out]; omega)] at hs; cases hs)))
            clear hm1 hnd hd hG
            have HSZ := hid hsz
            clear hsz
            subst hk0
            go_wp2_with (first | (at_len; refine wpList_len_own _ rfl _ 64 rfl 3 3 Tryd.underlying64 _ w.heap.size nb D rfl OWN.out ?_; rw [HSZ.out]) | go_in)
            go_ret
            exact ⟨by rw [EQ.out]; rfl, HB.out⟩
          · obtain ⟨s0, hx0⟩ : ∃ s, ss[0]? = some s := ⟨ss[0]'(by rw [HM.out]; omega), List.getElem?_eq_getElem _⟩
            obtain ⟨g, off, hga, he⟩ : ∃ g off, a = some ⟨g, off, none⟩ ∧ ShsAt w g off ss := by
              rcases HR.out with h | h
              · subst h; cases hx0
              · exact h
            subst hga
            obtain ⟨_, y0, y1, _⟩ := he 0 s0 hx0
            rw [Nat.zero_mul, Nat.add_zero] at y0 y1
            have hg := World.block_lt_of_cell? w _ y0
            have u1 := (HB.out.cell (p := ⟨g, off + 1, none⟩) hg).trans y1
            have zgr := Nat.lt_of_lt_of_le hg zB
            have HX0 := hid hx0
            have HSZ := hid hsz
            by_cases hfew : (k : Int) < s0.t
            · have EQ := hid (hG.trans (chkG_few hm1 hnd (fun s hs => by rw [HX0.out] at hs; cases hs; rw [HM.out]; exact hfew)))
              clear hm1 hnd hd hsz he hx0 y0 y1 hG
              go_wp2_with (first | (at_len; refine wpList_len_own _ rfl _ 64 rfl 3 3 Tryd.underlying64 _ w.heap.size nb D rfl OWN.out ?_; rw [HSZ.out]) | go_in)
              go_ret
              exact ⟨by rw [EQ.out]; rfl, HB.out⟩
            · have EQ := hid (hG.trans (chkG_ok hm1 hnd (fun h => hfew (by have := h s0 HX0.out; rw [HM.out] at this; exact this))))
              clear hm1 hnd hd hsz he hx0 y0 y1 hG
              go_wp2_with (first | (at_len; refine wpList_len_own _ rfl _ 64 rfl 3 3 Tryd.underlying64 _ w.heap.size nb D rfl OWN.out ?_; rw [HSZ.out]) | go_in)
              go_ret
              exact ⟨by rw [EQ.out]; rfl, HB.out⟩
end Go.Proofs.YticpjaooegpipaaDoor
