/-
  ParamsForgetOrder: the walk.
-/
import Derived.Test.YticpjaooegpipaaDoorParAlive
import Derived.Test.YticpjaooegpipaaDoorParLarge
import Derived.Test.YticpjaooegpipaaDoorParSharesR
import Derived.Test.YticpjaooegpipaaDoorParConcat
import Derived.Test.YticpjaooegpipaaDoorParRev
namespace Go.Proofs.YticpjaooegpipaaDoor
open Go.RowKit

theorem nat_u8 {n : Int} (h : (Lit.int .u8 n).wf = true) : ∃ m : Nat, n = m ∧ m < 256 := by
  have := bounds_u8 h
  exact ⟨n.toNat, by omega, by omega⟩
set_option maxRecDepth 100000 in
set_option maxHeartbeats 1000000 in
theorem forget_law (v : Value) (c : Nat) (ss : List Shr) (w : World) (hT : Tab w) (hS : ShSl w v ss) (hc : c < 256) : Calls Tryd.prog 8 #[v, .int .u8 (c : Int)] w (Ret (.bool true) w) := by
  have HT := hid hT
  have HS0 := hid hS
  obtain ⟨a, cap, rfl, hcap, hrow⟩ := hS
  obtain ⟨m, hm⟩ : ∃ m, ss.length = m := ⟨_, rfl⟩
  have HM := hid hm
  have HR := hid hrow
  rw [hm] at HS0 hcap ⊢
  have HS := HS0
  clear hm hrow hT HS0
  go_enter Tryd.func8, Tryd.ntmps8
  go_wp2_with fail
  refine (large_any _ ss _ HS.out).mono ?_
  rintro e w1 ⟨z, rfl, b1, hz⟩
  have B1 := hid b1
  clear b1
  rcases hz with rfl | ⟨rfl, hl1, _⟩
  · go_wp2_with fail
    refine (alive_any _ (HT.out.below B1.out (Nat.le_refl _))).mono ?_
    rintro e w2 ⟨rfl, b2⟩
    have B2 := hid (B1.out.trans (b2.mono B1.out.size))
    clear b2
    go_wp2
    go_ret
    exact ⟨rfl, B2.out⟩
  · have hmm : m ≤ 300 := by rw [← HM.out]; exact hl1
    clear hl1
    by_cases hm0 : m = 0
    · subst hm0
      go_wp2_with fail
      refine (alive_any _ (HT.out.below B1.out (Nat.le_refl _))).mono ?_
      rintro e w2 ⟨rfl, b2⟩
      have B2 := hid (B1.out.trans (b2.mono B1.out.size))
      clear b2
      go_wp2
      go_ret
      exact ⟨rfl, B2.out⟩
    · have hmp : 0 < m := by omega
      have hd : ((m : Int) == 0) = false := by simp; omega
      have hne : ss ≠ [] := fun e => hm0 (by rw [← HM.out, e]; rfl)
      obtain ⟨g, off, hga, he⟩ := HR.out.resolve_left hne
      subst hga
      have HE := hid he
      clear he hne
      go_wp2
      go_loopw [20] (fun x wr => ∃ k : Nat, k ≤ m ∧ x = .int .i64 (k : Int) ∧ (∀ s ∈ ss.take k, s.chk = 0) ∧ Below w.heap.size w wr) (fun x _ => m - (intOf x).toNat)
      case atStart => exact ⟨0, Nat.zero_le _, rfl, by simp, B1.out⟩
      case round =>
        obtain ⟨k, hk, rfl, hok, hB⟩ := hrel
        have zB := hB.size
        have HB := hid hB
        have HOK := hid hok
        clear hB hok
        by_cases hlt : k < m
        · obtain ⟨s, hx⟩ : ∃ s, ss[k]? = some s := ⟨ss[k]'(by rw [HM.out]; exact hlt), List.getElem?_eq_getElem _⟩
          obtain ⟨lp, e0, e1, e2, e3, e4⟩ := HE.out k s hx
          have hg : g < w.heap.size := World.block_lt_of_cell? w _ e0
          have hgr := Nat.lt_of_lt_of_le hg zB
          have HX := hid hx
          have d0 := (HB.out.cell (p := ⟨g, off + k * 5, none⟩) hg).trans e0
          have d1 := (HB.out.cell (p := ⟨g, off + k * 5 + 1, none⟩) hg).trans e1
          have d2 := (HB.out.cell (p := ⟨g, off + k * 5 + 2, none⟩) hg).trans e2
          have d3 := (HB.out.cell (p := ⟨g, off + k * 5 + 3, none⟩) hg).trans e3
          have d4 := (HB.out.cell (p := ⟨g, off + k * 5 + 4, none⟩) hg).trans e4
          obtain ⟨pa, pc, hv, _⟩ := id lp
          obtain ⟨pm, hpm⟩ : ∃ n, s.ps.length = n := ⟨_, rfl⟩
          rw [hpm] at hv
          rw [hv] at d4 lp
          have BN := hid (HB.out.alloc zB (.cells #[.int .i64 s.f, .int .i64 s.t, .int .i64 s.i, .int .i64 s.n, .slice pa pm pc] 31))
          have CK := hid (rshare_any s.f s.t s.i s.n (.slice pa pm pc) s.ps _ (lp.below BN.out))
          obtain ⟨c0, hc0⟩ : ∃ c, chkS s.f s.t s.i s.n s.ps = c := ⟨_, rfl⟩
          have HC0 := hid hc0
          rw [hc0] at CK
          have hzz := BN.out.size
          clear e0 e1 e2 e3 e4 hx hv hpm lp hc0
          by_cases h0 : c0 = 0
          · have HC := hid (show s.chk = 0 by rw [← h0]; exact HC0.out)
            subst h0
            go_wp2_with fail
            refine CK.out.mono ?_
            rintro e w2 ⟨rfl, b2⟩
            have B2 := hid (BN.out.trans (b2.mono hzz))
            clear b2 d0 d1 d2 d3 d4 hzz
            go_wp2
            go_roundw
            case rel => exact ⟨k + 1, by omega, by go_num, by intro y hy; rw [take_snoc HX.out, List.mem_append, List.mem_singleton] at hy; rcases hy with h | h; exact HOK.out y h; exact h ▸ HC.out, B2.out⟩
            case measure => simp [intOf]; omega
          · have hd3 : (c0 != 0) = true := by simp [h0]
            have hd2 : (c0 == 0) = false := by simp [h0]
            go_wp2_with fail
            refine CK.out.mono ?_
            rintro e w2 ⟨rfl, b2⟩
            have B2 := hid (BN.out.trans (b2.mono hzz))
            clear b2 d0 d1 d2 d3 d4 hzz
            go_wp2_with fail
            refine (alive_any _ (HT.out.below B2.out (Nat.le_refl _))).mono ?_
            rintro e w3 ⟨rfl, b3⟩
            have B3 := hid (B2.out.trans (b3.mono B2.out.size))
            clear b3
            go_wp2
            go_ret
            exact ⟨rfl, B3.out⟩
        · obtain rfl : k = m := by omega
          have hall : ∀ s ∈ ss, s.chk = 0 := fun s hs => HOK.out s (by rw [List.take_of_length_le (by rw [HM.out]; exact Nat.le_refl _)]; exact hs)
          have HALL := hid hall
          have hrem : Int.tmod (c : Int) (k : Int) = ((c % k : Nat) : Int) := by rw [Int.tmod_eq_emod_of_nonneg (by omega)]; omega
          have hrk : c % k < k := Nat.mod_lt _ hmp
          obtain ⟨r, hr⟩ : ∃ r, c % k = r := ⟨_, rfl⟩
          rw [hr] at hrem hrk
          clear hall hr HOK
          have hg : g < w.heap.size := by
            obtain ⟨s, hx⟩ : ∃ s, ss[0]? = some s := ⟨ss[0]'(by rw [HM.out]; omega), List.getElem?_eq_getElem _⟩
            exact World.block_lt_of_cell? w _ (HE.out 0 s hx).2.1
          have BZ := hid (Below.drew (HB.out.alloc zB (.cells #[.slice (some ⟨g, off + r * 5, none⟩) (k - r) (cap - r), .slice (some ⟨g, off, none⟩) r cap] 33)))
          have SD := hid ((sh_drop HE.out HM.out hcap (Nat.le_of_lt hrk)).below BZ.out)
          have ST := hid ((sh_take HE.out HM.out hcap (Nat.le_of_lt hrk)).below BZ.out)
          have hlen : (ss.drop r ++ ss.take r).length = k := by rw [List.length_append, List.length_drop, List.length_take, HM.out]; omega
          have HLEN := hid hlen
          have hrc : r ≤ cap := by omega
          clear hlen
          go_wp2
          go_region_with ((go_at_call 22; refine (concat_sh wr.heap.size 2 (.slice (some ⟨g, off + r * 5, none⟩) (k - r) (cap - r)) (.slice (some ⟨g, off, none⟩) r cap) (ss.drop r) (ss.take r) _ ((Blk.new rfl : Blk (wr.alloc (.cells #[.slice (some ⟨g, off + r * 5, none⟩) (k - r) (cap - r), .slice (some ⟨g, off, none⟩) r cap] 33)) wr.heap.size 33 [.slice (some ⟨g, off + r * 5, none⟩) (k - r) (cap - r), .slice (some ⟨g, off, none⟩) r cap]).drew.cell (i := 0) rfl) ((Blk.new rfl : Blk (wr.alloc (.cells #[.slice (some ⟨g, off + r * 5, none⟩) (k - r) (cap - r), .slice (some ⟨g, off, none⟩) r cap] 33)) wr.heap.size 33 [.slice (some ⟨g, off + r * 5, none⟩) (k - r) (cap - r), .slice (some ⟨g, off, none⟩) r cap]).drew.cell (i := 1) rfl) SD.out ST.out (by rw [← List.length_append, HLEN.out]; omega)).mono ?_; rintro e w5 ⟨v5, rfl, h5, b5⟩))
          all_goals (
            have B5 := hid (BZ.out.trans (b5.mono BZ.out.size))
            have O5 := hid (owns_mono h5 BZ.out.size)
            clear b5 h5
            go_wp2_with fail
            refine (reverse_any v5 (ss.drop r ++ ss.take r) w.heap.size _ w5 (by rw [HLEN.out]; exact hmp) (by rw [HLEN.out]; omega) ?_ (ShRow.mk _) O5.out).mono ?_
            · intro s hs
              have hin : s ∈ ss := by
                rcases List.mem_append.1 hs with h | h
                · exact List.mem_of_mem_drop h
                · exact List.mem_of_mem_take h
              obtain ⟨j, hj⟩ := List.mem_iff_getElem?.1 hin
              obtain ⟨pa, pc, hv, _⟩ := (HE.out j s hj).1
              exact ⟨pa, _, pc, hv⟩
            rintro e w6 ⟨rfl, rr, ys, hperm, hrow, hown, b6⟩
            have B6 := hid (B5.out.trans b6)
            have hpp : rr.Perm ss := hperm.trans (List.perm_append_comm.trans (by rw [List.take_append_drop]))
            have HPP := hid hpp
            have HROW := hid hrow
            rw [← hperm.length_eq] at hown
            have O6 := hid hown
            clear hperm hpp hrow hown b6
            go_wp2_with fail
            refine (alive_any _ (HT.out.below B6.out (Nat.le_refl _))).mono ?_
            rintro e w7 ⟨rfl, b7⟩
            have B7 := hid (B6.out.trans (b7.mono B6.out.size))
            have O7 := hid (owns_keep O6.out b7)
            clear b7
            go_wp2_with fail
            refine (pshares_any _ ss _ (HT.out.below B7.out (Nat.le_refl _)) (HS.out.below B7.out) (by rw [HM.out]; omega)).mono ?_
            rintro e w8 ⟨rfl, b8⟩
            have B8 := hid (B7.out.trans (b8.mono B7.out.size))
            have O8 := hid (owns_keep O7.out b8)
            clear b8
            have C8 := hid (pshares_any _ rr w8 (HT.out.below B8.out (Nat.le_refl _)) (shs_sl O8.out HROW.out.2 (fun s hs => by obtain ⟨j, hj⟩ := List.mem_iff_getElem?.1 (HPP.out.subset hs); exact (HE.out j s hj).1.below B8.out)) (by rw [HPP.out.length_eq, HM.out]; omega))
            rw [chkL_perm HALL.out HPP.out] at C8
            go_wp2_with fail
            refine C8.out.mono ?_
            rintro e w9 ⟨rfl, b9⟩
            have B9 := hid (B8.out.trans (b9.mono B8.out.size))
            clear b9
            go_wp2
            go_ret
            exact ⟨rfl, B9.out⟩)
end Go.Proofs.YticpjaooegpipaaDoor
