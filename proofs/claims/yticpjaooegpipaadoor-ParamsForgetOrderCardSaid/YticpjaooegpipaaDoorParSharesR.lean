/-
  The reference's CheckShares.
-/
import Derived.Test.YticpjaooegpipaaDoorParShares
import Derived.Test.YticpjaooegpipaaDoorParShareR
namespace Go.Proofs.YticpjaooegpipaaDoor
open Go.RowKit Go.Maps

theorem mixd_one (ss : List Shr) : ¬ mixd ss 1 := by
  rintro ⟨s, hs, s0, h0, hne⟩
  cases ss with
  | nil => simp at hs
  | cons x r =>
    simp at hs h0
    subst hs; subst h0
    exact hne ⟨rfl, rfl, rfl⟩
theorem mixd_mono {ss : List Shr} {k : Nat} (h : mixd ss k) : mixd ss ss.length := by
  obtain ⟨s, hs, ho⟩ := h
  exact ⟨s, by rw [List.take_length]; exact List.mem_of_mem_take hs, ho⟩
theorem nodup_no {ss : List Shr} {j k : Nat} {s s' : Shr} (hj : ss[j]? = some s') (hk : ss[k]? = some s) (hjk : j < k) (e : s.i = s'.i) : ¬ (ss.map Shr.i).Nodup := by
  intro h
  have h1 : (ss.map Shr.i)[j]? = some s'.i := by simp [hj]
  have h2 : (ss.map Shr.i)[k]? = some s.i := by simp [hk]
  obtain ⟨l1, e1⟩ := List.getElem?_eq_some_iff.1 h1
  obtain ⟨l2, e2⟩ := List.getElem?_eq_some_iff.1 h2
  exact List.pairwise_iff_getElem.1 h j k l1 l2 hjk (by rw [e1, e2, e])
set_option maxRecDepth 100000 in
set_option maxHeartbeats 1000000 in
theorem rshares_any (v : Value) (ss : List Shr) (w : World) (hS : ShSl w v ss) (hl : ss.length < 1000000) : Calls Tryd.prog 18 #[v] w (Ret (.int .i64 (chkL ss)) w) := by
  obtain ⟨a, cap, rfl, _, hrow⟩ := hS
  obtain ⟨m, hm⟩ : ∃ m, ss.length = m := ⟨_, rfl⟩
  have HM := hid hm
  have HR := hid hrow
  rw [hm] at hl ⊢
  clear hm hrow
  go_enter Tryd.func18, Tryd.ntmps18
  go_wp2
  go_loopw [3] (fun x wr => ∃ k : Nat, k ≤ m ∧ x = .int .i64 (k : Int) ∧ (∀ s ∈ ss.take k, s.chk = 0) ∧ Below w.heap.size w wr) (fun x _ => m - (intOf x).toNat)
  case atStart => exact ⟨0, Nat.zero_le _, rfl, by simp, Below.refl _ w⟩
  case round =>
    obtain ⟨k, hk, rfl, hok, hB⟩ := hrel
    have zB := hB.size
    have HB := hid hB
    have HOK := hid hok
    clear hB hok
    by_cases hlt : k < m
    · obtain ⟨s, hxs⟩ : ∃ s, ss[k]? = some s := ⟨ss[k]'(by rw [HM.out]; omega), List.getElem?_eq_getElem _⟩
      obtain ⟨g, off, hga, he⟩ : ∃ g off, a = some ⟨g, off, none⟩ ∧ ShsAt w g off ss := by
        rcases HR.out with h | h
        · subst h; cases hxs
        · exact h
      subst hga
      obtain ⟨ls, xs0, xs1, xs2, xs3, xs4⟩ := he k s hxs
      have hsg : g < w.heap.size := World.block_lt_of_cell? w _ xs0
      have d0 := (HB.out.cell (p := ⟨g, off + k * 5, none⟩) hsg).trans xs0
      have d1 := (HB.out.cell (p := ⟨g, off + k * 5 + 1, none⟩) hsg).trans xs1
      have d2 := (HB.out.cell (p := ⟨g, off + k * 5 + 2, none⟩) hsg).trans xs2
      have d3 := (HB.out.cell (p := ⟨g, off + k * 5 + 3, none⟩) hsg).trans xs3
      have d4 := (HB.out.cell (p := ⟨g, off + k * 5 + 4, none⟩) hsg).trans xs4
      have HXs := hid hxs
      obtain ⟨pa, pc, hv, _⟩ := id ls
      obtain ⟨pm, hpm⟩ : ∃ n, s.ps.length = n := ⟨_, rfl⟩
      rw [hpm] at hv
      rw [hv] at d4 ls
      clear hpm
      have CK := hid (rshare_any s.f s.t s.i s.n (.slice pa pm pc) s.ps wr (ls.below HB.out))
      obtain ⟨c0, hc0⟩ : ∃ c, chkS s.f s.t s.i s.n s.ps = c := ⟨_, rfl⟩
      have HC0 := hid hc0
      rw [hc0] at CK
      clear he hxs ls xs0 xs1 xs2 xs3 xs4 hc0 hv
      by_cases hc : c0 = 0
      · have HC := hid (show s.chk = 0 by rw [← hc]; exact HC0.out)
        subst hc
        go_wp2_with fail
        refine CK.out.mono ?_
        rintro e w1 ⟨rfl, b1⟩
        have B2 := hid (HB.out.trans (b1.mono zB))
        clear b1 d0 d1 d2 d3 d4
        go_wp2
        go_roundw
        case rel => exact ⟨k + 1, by omega, by go_num, by intro y hy; rw [take_snoc HXs.out, List.mem_append, List.mem_singleton] at hy; rcases hy with h | h; exact HOK.out y h; exact h ▸ HC.out, B2.out⟩
        case measure => simp [intOf]; omega
      · have HC := hid (show s.chk = c0 from HC0.out)
        have EQ := hid ((chkL_bad HOK.out HXs.out (by rw [HC.out]; exact hc)).trans HC.out)
        have hd : (c0 == 0) = false := by simp [hc]
        go_wp2_with fail
        refine CK.out.mono ?_
        rintro e w1 ⟨rfl, b1⟩
        have B2 := hid (HB.out.trans (b1.mono zB))
        clear b1 d0 d1 d2 d3 d4
        go_wp2
        go_ret
        exact ⟨by rw [EQ.out]; rfl, B2.out⟩
    · obtain rfl : k = m := by omega
      have hall : ∀ s ∈ ss, s.chk = 0 := fun s hs => HOK.out s (by rw [List.take_of_length_le (by rw [HM.out]; exact Nat.le_refl _)]; exact hs)
      have HG := hid (chkL_good hall)
      clear hall HOK
      go_wp2
      go_loopw [5] (fun x wr2 => ∃ q : Nat, 1 ≤ q ∧ (q ≤ k ∨ q = 1) ∧ x = .int .i64 (q : Int) ∧ ¬ mixd ss q ∧ Below w.heap.size w wr2) (fun x _ => k - (intOf x).toNat)
      case atStart => exact ⟨1, Nat.le_refl _, .inr rfl, rfl, mixd_one ss, HB.out⟩
      case round =>
        obtain ⟨q, hq1, hq2, rfl, hnm, hB2⟩ := hrel
        have zB2 := hB2.size
        have HB2 := hid hB2
        have HNM := hid hnm
        clear hB2 hnm
        by_cases hlq : q < k
        · obtain ⟨s, hxs⟩ : ∃ s, ss[q]? = some s := ⟨ss[q]'(by rw [HM.out]; omega), List.getElem?_eq_getElem _⟩
          obtain ⟨s0, hxs0⟩ : ∃ s, ss[0]? = some s := ⟨ss[0]'(by rw [HM.out]; omega), List.getElem?_eq_getElem _⟩
          obtain ⟨g, off, hga, he⟩ : ∃ g off, a = some ⟨g, off, none⟩ ∧ ShsAt w g off ss := by
            rcases HR.out with h | h
            · subst h; cases hxs
            · exact h
          subst hga
          obtain ⟨ls, xs0, xs1, xs2, xs3, xs4⟩ := he q s hxs
          have hsg : g < w.heap.size := World.block_lt_of_cell? w _ xs0
          have d0 := (HB2.out.cell (p := ⟨g, off + q * 5, none⟩) hsg).trans xs0
          have d1 := (HB2.out.cell (p := ⟨g, off + q * 5 + 1, none⟩) hsg).trans xs1
          have d3 := (HB2.out.cell (p := ⟨g, off + q * 5 + 3, none⟩) hsg).trans xs3
          have HXs := hid hxs
          obtain ⟨ls0, xs00, xs01, xs02, xs03, xs04⟩ := he 0 s0 hxs0
          rw [Nat.zero_mul, Nat.add_zero] at xs00 xs01 xs02 xs03 xs04
          have hs0g : g < w.heap.size := World.block_lt_of_cell? w _ xs00
          have u0 := (HB2.out.cell (p := ⟨g, off, none⟩) hs0g).trans xs00
          have u1 := (HB2.out.cell (p := ⟨g, off + 1, none⟩) hs0g).trans xs01
          have u3 := (HB2.out.cell (p := ⟨g, off + 3, none⟩) hs0g).trans xs03
          have HXs0 := hid hxs0
          have hgr := Nat.lt_of_lt_of_le hsg zB2
          have hp0 : (0 : Int) < (k : Int) := by omega
          have hp1 : 0 < k := by omega
          clear he hxs ls xs0 xs1 xs2 xs3 xs4 hxs0 ls0 xs00 xs01 xs02 xs03 xs04
          by_cases heq : s.f = s0.f ∧ s.t = s0.t ∧ s.n = s0.n
          · have HNO := hid (show ¬ other ss s from fun ⟨x, h1, h2⟩ => h2 (by rw [HXs0.out] at h1; cases h1; exact heq))
            have hd1 : (s.f != s0.f) = false := by simp [heq.1]
            have hd2 : (s.t != s0.t) = false := by simp [heq.2.1]
            have hd3 : (s.n != s0.n) = false := by simp [heq.2.2]
            clear heq
            go_wp2
            go_quiet (fail)
            go_wp2
            go_roundw
            case rel => exact ⟨q + 1, by omega, .inl (by omega), by go_num, by rw [mixd_snoc HXs.out]; exact fun h => h.elim HNM.out HNO.out, Below.drewN' HB2.out _⟩
            case measure => simp [intOf]; omega
          · have EQ := hid (HG.out.trans (chkG_mixed (mixd_mono ((mixd_snoc HXs.out).2 (.inr ⟨s0, HXs0.out, heq⟩)))))
            by_cases h1 : s.f = s0.f
            · have hd1 : (s.f != s0.f) = false := by simp [h1]
              by_cases h2 : s.t = s0.t
              · have hd2 : (s.t != s0.t) = false := by simp [h2]
                have hd3 : (s.n != s0.n) = true := by simp; exact fun h => heq ⟨h1, h2, h⟩
                clear heq h1 h2
                go_wp2
                go_quiet (fail)
                go_wp2
                go_ret
                exact ⟨by rw [EQ.out]; rfl, Below.drewN' HB2.out _⟩
              · have hd2 : (s.t != s0.t) = true := by simp [h2]
                clear heq h1 h2
                go_wp2
                go_quiet (fail)
                go_wp2
                go_ret
                exact ⟨by rw [EQ.out]; rfl, Below.drewN' HB2.out _⟩
            · have hd1 : (s.f != s0.f) = true := by simp [h1]
              clear heq h1
              go_wp2
              go_quiet (fail)
              go_wp2
              go_ret
              exact ⟨by rw [EQ.out]; rfl, Below.drewN' HB2.out _⟩
        · have hM1 : ¬ mixd ss ss.length := fun h => HNM.out (by obtain ⟨s, hs, ho⟩ := h; exact ⟨s, by rw [List.take_of_length_le (by rw [HM.out]; omega)]; rw [List.take_length] at hs; exact hs, ho⟩)
          have HM1 := hid hM1
          clear hM1 HNM
          go_wp2
          go_loopw [6] (fun x wr3 => ∃ q3 : Nat, q3 ≤ k ∧ x = .int .i64 (q3 : Int) ∧ ((ss.take q3).map Shr.i).Nodup ∧ Below w.heap.size w wr3) (fun x _ => k - (intOf x).toNat)
          case atStart => exact ⟨0, Nat.zero_le _, rfl, by simp, HB2.out⟩
          case round =>
            obtain ⟨q3, hq3, rfl, hnd, hB3⟩ := hrel
            have zB3 := hB3.size
            have HB3 := hid hB3
            have HND := hid hnd
            clear hB3 hnd
            by_cases hl3 : q3 < k
            · obtain ⟨s, hxs⟩ : ∃ s, ss[q3]? = some s := ⟨ss[q3]'(by rw [HM.out]; omega), List.getElem?_eq_getElem _⟩
              have HXs := hid hxs
              clear hxs
              go_wp2
              go_loopw [7] (fun x wr4 => ∃ q4 : Nat, q4 ≤ q3 ∧ x = .int .i64 (q4 : Int) ∧ s.i ∉ (ss.take q4).map Shr.i ∧ Below w.heap.size w wr4) (fun x _ => q3 - (intOf x).toNat)
              case atStart => exact ⟨0, Nat.zero_le _, rfl, by simp, HB3.out⟩
              case round =>
                obtain ⟨q4, hq4, rfl, hni, hB4⟩ := hrel
                have zB4 := hB4.size
                have HB4 := hid hB4
                have HNI := hid hni
                clear hB4 hni
                by_cases hl4 : q4 < q3
                · have hxs := HXs.out
                  obtain ⟨s1, hxs1⟩ : ∃ s, ss[q4]? = some s := ⟨ss[q4]'(by rw [HM.out]; omega), List.getElem?_eq_getElem _⟩
                  obtain ⟨g, off, hga, he⟩ : ∃ g off, a = some ⟨g, off, none⟩ ∧ ShsAt w g off ss := by
                    rcases HR.out with h | h
                    · subst h; cases hxs
                    · exact h
                  subst hga
                  obtain ⟨ls, xs0, xs1, xs2, xs3, xs4⟩ := he q3 s hxs
                  have hsg : g < w.heap.size := World.block_lt_of_cell? w _ xs0
                  have d2 := (HB4.out.cell (p := ⟨g, off + q3 * 5 + 2, none⟩) hsg).trans xs2
                  obtain ⟨ls1, xs10, xs11, xs12, xs13, xs14⟩ := he q4 s1 hxs1
                  have hs1g : g < w.heap.size := World.block_lt_of_cell? w _ xs10
                  have u2 := (HB4.out.cell (p := ⟨g, off + q4 * 5 + 2, none⟩) hs1g).trans xs12
                  have HXs1 := hid hxs1
                  have hgr := Nat.lt_of_lt_of_le hsg zB4
                  clear he hxs ls xs0 xs1 xs2 xs3 xs4 hxs1 ls1 xs10 xs11 xs12 xs13 xs14
                  by_cases heq : s.i = s1.i
                  · have EQ := hid (HG.out.trans (chkG_dup HM1.out (nodup_no HXs1.out HXs.out hl4 heq)))
                    have hd1 : (s.i == s1.i) = true := by simp [heq]
                    clear heq
                    go_wp2
                    go_quiet (fail)
                    go_wp2
                    go_ret
                    exact ⟨by rw [EQ.out]; rfl, Below.drewN' HB4.out _⟩
                  · have HNE := hid heq
                    have hd1 : (s.i == s1.i) = false := by simp [heq]
                    clear heq
                    go_wp2
                    go_quiet (fail)
                    go_wp2
                    go_roundw
                    case rel => exact ⟨q4 + 1, by omega, by go_num, by rw [take_snoc HXs1.out, List.map_append, List.mem_append]; rintro (h | h); exact HNI.out h; exact HNE.out (by simpa using h), Below.drewN' HB4.out _⟩
                    case measure => simp [intOf]; omega
                · obtain rfl : q4 = q3 := by omega
                  have HN2 := hid (show ((ss.take (q4 + 1)).map Shr.i).Nodup by rw [take_snoc HXs.out, List.map_append]; exact nodup_snoc.2 ⟨HND.out, HNI.out⟩)
                  go_wp2
                  go_roundw
                  case rel => exact ⟨q4 + 1, by omega, by go_num, HN2.out, HB4.out⟩
                  case measure => simp [intOf]; omega
            · obtain rfl : q3 = k := by omega
              have HN := hid (show (ss.map Shr.i).Nodup by have h := HND.out; rw [List.take_of_length_le (by rw [HM.out]; exact Nat.le_refl _)] at h; exact h)
              clear HND
              by_cases hk0 : q3 = 0
              · have EQ := hid (HG.out.trans (chkG_few HM1.out HN.out (fun s hs => by rw [List.getElem?_eq_none (by rw [HM.out]; omega)] at hs; cases hs)))
                subst hk0
                go_wp2
                go_ret
                exact ⟨by rw [EQ.out]; rfl, HB3.out⟩
              · obtain ⟨s0, hxs0⟩ : ∃ s, ss[0]? = some s := ⟨ss[0]'(by rw [HM.out]; omega), List.getElem?_eq_getElem _⟩
                obtain ⟨g, off, hga, he⟩ : ∃ g off, a = some ⟨g, off, none⟩ ∧ ShsAt w g off ss := by
                  rcases HR.out with h | h
                  · subst h; cases hxs0
                  · exact h
                subst hga
                obtain ⟨ls0, xs00, xs01, xs02, xs03, xs04⟩ := he 0 s0 hxs0
                rw [Nat.zero_mul, Nat.add_zero] at xs00 xs01 xs02 xs03 xs04
                have hs0g : g < w.heap.size := World.block_lt_of_cell? w _ xs00
                have u1 := (HB3.out.cell (p := ⟨g, off + 1, none⟩) hs0g).trans xs01
                have HXs0 := hid hxs0
                have hgr := Nat.lt_of_lt_of_le hs0g zB3
                have hp0 : (0 : Int) < (q3 : Int) := by omega
                have hp1 : 0 < q3 := by omega
                have hd0 : ((q3 : Int) == 0) = false := by simp; omega
                clear he hxs0 ls0 xs00 xs01 xs02 xs03 xs04
                by_cases hfew : (q3 : Int) < s0.t
                · have EQ := hid (HG.out.trans (chkG_few HM1.out HN.out (fun s hs => by rw [HXs0.out] at hs; cases hs; rw [HM.out]; exact hfew)))
                  go_wp2
                  go_ret
                  exact ⟨by rw [EQ.out]; rfl, HB3.out⟩
                · have EQ := hid (HG.out.trans (chkG_ok HM1.out HN.out (fun h => hfew (by have := h s0 HXs0.out; rw [HM.out] at this; exact this))))
                  go_wp2
                  go_ret
                  exact ⟨by rw [EQ.out]; rfl, HB3.out⟩
end Go.Proofs.YticpjaooegpipaaDoor
