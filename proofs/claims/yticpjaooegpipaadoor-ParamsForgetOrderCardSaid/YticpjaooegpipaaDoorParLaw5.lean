/-
  ParamsSubsets: the walk.
-/
import Derived.Test.YticpjaooegpipaaDoorParAlive
import Derived.Test.YticpjaooegpipaaDoorParLarge
import Derived.Test.YticpjaooegpipaaDoorParSharesR
import Derived.Test.YticpjaooegpipaaDoorParRow
import Derived.OwnWalk
namespace Go.Proofs.YticpjaooegpipaaDoor
open Go.RowKit

theorem info_sh : (Tryd.prog.info? 31).map (fun i => (i.zero, i.size, i.bytes)) = some (some (.agg #[.int .i64 0, .int .i64 0, .int .i64 0, .int .i64 0, .slice none 0 0]), 5, 56) := by kernel_rfl
set_option maxRecDepth 100000 in
set_option maxHeartbeats 1000000 in
theorem subsets_law (v : Value) (c : Int) (ss : List Shr) (w : World) (hT : Tab w) (hS : ShSl w v ss) : Calls Tryd.prog 7 #[v, .int .u32 c] w (Ret (.bool true) w) := by
  obtain ⟨i0, hi, hz0, hz1, hz2⟩ := info_parts info_sh
  have HT := hid hT
  have HS0 := hid hS
  obtain ⟨a, cap, rfl, _, hrow⟩ := hS
  obtain ⟨m, hm⟩ : ∃ m, ss.length = m := ⟨_, rfl⟩
  have HM := hid hm
  have HR := hid hrow
  rw [hm] at HS0 ⊢
  have HS := HS0
  clear hm hrow hT HS0
  go_enter Tryd.func7, Tryd.ntmps7
  go_wp2_with fail
  refine (large_any _ ss _ HS.out).mono ?_
  rintro e w1 ⟨z, rfl, b1, hz⟩
  have B1 := hid b1
  clear b1
  rcases hz with rfl | ⟨rfl, hl1, _⟩
  · go_wp2_with fail
    refine (alive_any _ (HT.out.below B1.out (Nat.le_refl _))).mono ?_
    rintro e w2 ⟨rfl, b2⟩
    have B2 := hid (B1.out.trans (b2.mono B1.out.size))
    clear b2
    go_wp2
    go_ret
    exact ⟨rfl, B2.out⟩
  · have hmm : m ≤ 300 := by rw [← HM.out]; exact hl1
    clear hl1
    have CK := hid (rshares_any _ ss w1 (HS.out.below B1.out) (by rw [HM.out]; omega))
    obtain ⟨c0, hc0⟩ : ∃ c, chkL ss = c := ⟨_, rfl⟩
    have HC0 := hid hc0
    rw [hc0] at CK
    clear hc0
    by_cases h0 : c0 = 0
    · subst h0
      go_wp2_with fail
      refine CK.out.mono ?_
      rintro e w2 ⟨rfl, b2⟩
      have B2 := hid (B1.out.trans (b2.mono B1.out.size))
      clear b2
      have hne : ss ≠ [] := fun e => (chkL_zero HC0.out).2.2.2 (by rw [e]; intro s hs; cases hs)
      obtain ⟨s0, hx0⟩ : ∃ s, ss[0]? = some s := ⟨ss[0]'(List.length_pos_iff.2 hne), List.getElem?_eq_getElem _⟩
      have hmp : 0 < m := by rw [← HM.out]; exact List.length_pos_iff.2 hne
      obtain ⟨g, off, hga, he⟩ := HR.out.resolve_left hne
      subst hga
      have HE := hid he
      have HX0 := hid hx0
      clear he hx0 hne
      go_wp2
      go_loopw [20, 5] (fun x y wr => ∃ (k : Nat) (ms : List Shr), k ≤ m ∧ x = .int .i64 (k : Int) ∧ wr.ownsRow w.heap.size 31 5 y ms.length (shs ms) ∧ ms.Sublist (ss.take k) ∧ Below w.heap.size w wr) (fun x _ _ => m - (intOf x).toNat)
      case atStart => exact ⟨0, [], Nat.zero_le _, rfl, World.ownsRow_nil _ _ _ _, by simp, B2.out⟩
      case round =>
        obtain ⟨k, ms, hk, rfl, hown, hsub, hB⟩ := hrel
        have zB := hB.size
        have HB := hid hB
        have HO := hid hown
        have HSUB := hid hsub
        have hml : ms.length ≤ k := by have := hsub.length_le; rw [List.length_take] at this; omega
        clear hB hown hsub
        by_cases hlt : k < m
        · obtain ⟨s, hx⟩ : ∃ s, ss[k]? = some s := ⟨ss[k]'(by rw [HM.out]; exact hlt), List.getElem?_eq_getElem _⟩
          obtain ⟨lp, e0, e1, e2, e3, e4⟩ := HE.out k s hx
          have hg : g < w.heap.size := World.block_lt_of_cell? w _ e0
          have hgr := Nat.lt_of_lt_of_le hg zB
          have HX := hid hx
          have d0 := (HB.out.cell (p := ⟨g, off + k * 5, none⟩) hg).trans e0
          have d1 := (HB.out.cell (p := ⟨g, off + k * 5 + 1, none⟩) hg).trans e1
          have d2 := (HB.out.cell (p := ⟨g, off + k * 5 + 2, none⟩) hg).trans e2
          have d3 := (HB.out.cell (p := ⟨g, off + k * 5 + 3, none⟩) hg).trans e3
          have d4 := (HB.out.cell (p := ⟨g, off + k * 5 + 4, none⟩) hg).trans e4
          obtain ⟨pa, pc, hv, _⟩ := lp
          obtain ⟨pm, hpm⟩ : ∃ n, s.ps.length = n := ⟨_, rfl⟩
          rw [hpm] at hv
          rw [hv] at d4
          have HSN := hid (show shs (ms ++ [s]) = shs ms ++ [.int .i64 s.f, .int .i64 s.t, .int .i64 s.i, .int .i64 s.n, .slice pa pm pc] by rw [shs_append]; simp [shs, hv])
          have HSB := hid (show (ms ++ [s]).Sublist (ss.take (k + 1)) by rw [take_snoc hx]; exact HSUB.out.append (List.Sublist.refl _))
          have HSC := hid (show ms.Sublist (ss.take (k + 1)) by rw [take_snoc hx]; exact HSUB.out.trans (List.sublist_append_left _ _))
          clear e0 e1 e2 e3 e4 hx hv hpm
          go_wp2_with (at_builtin; refine wpList_append_own _ rfl _ _ 33 rfl w.heap.size 31 i0 _ 5 56 Tryd.underlying33 hi hz0 hz1 hz2 rfl (by decide) _ ms.length _ rfl ((HO.out.alloc _).alloc _) ⟨wr.heap.size + 1, 0, none⟩ 1 1 [.int .i64 s.f, .int .i64 s.t, .int .i64 s.i, .int .i64 s.n, .slice pa pm pc] rfl rfl (Blk.news (t := 31) (Blk.new (by simp))) (by simp [Value.oneCell']) (by unfold maxLen; omega) (by omega) (by simp; omega) ?_; intro v1 w9 ho1 hg1 _; have B9 := hid (Below.grown ((HB.out.alloc zB _).alloc (by simp; omega) _) hg1 (by simp; omega) (fun j hj => (HO.out.lt j hj).1)); have O9 := hid ho1; clear hg1 ho1)
          all_goals go_roundw
          all_goals first
            | (case rel => exact ⟨k + 1, ms ++ [s], by omega, by go_num, by rw [HSN.out, List.length_append]; exact O9.out, HSB.out, B9.out⟩)
            | (case rel => exact ⟨k + 1, ms, by omega, by go_num, HO.out.alloc _, HSC.out, HB.out.alloc zB _⟩)
            | (case measure => simp [intOf]; omega)
        · obtain rfl : k = m := by omega
          have htk : ss.take k = ss := List.take_of_length_le (by rw [HM.out]; exact Nat.le_refl _)
          have hpart := chkL_part HC0.out (show ms.Sublist ss by have := HSUB.out; rw [htk] at this; exact this) (List.mem_of_getElem? HX0.out)
          have hpay : ∀ s ∈ ms, PaySl w s.v s.ps := fun s hs => by
            have hin := HSUB.out.subset hs
            rw [htk] at hin
            obtain ⟨j, hj⟩ := List.mem_iff_getElem?.1 hin
            exact (HE.out j s hj).1
          have HPAY := hid hpay
          obtain ⟨_, _, e1, _⟩ := HE.out 0 s0 HX0.out
          rw [Nat.zero_mul, Nat.add_zero] at e1
          have hg : g < w.heap.size := World.block_lt_of_cell? w _ e1
          have hgr := Nat.lt_of_lt_of_le hg zB
          have d1 := (HB.out.cell (p := ⟨g, off + 1, none⟩) hg).trans e1
          obtain ⟨a2, c2, rfl, _, _⟩ := owns_shape HO.out
          obtain ⟨q, hq⟩ : ∃ q, ms.length = q := ⟨_, rfl⟩
          have HQ := hid hq
          have HO2 := HO
          rw [hq] at HO2 hpart hml ⊢
          have hp0 : (0 : Int) < (k : Int) := by omega
          clear htk hpay hq e1 HSUB
          by_cases hf : (q : Int) < s0.t
          · rw [if_pos hf] at hpart
            have HP := hid hpart
            clear hpart
            go_wp2_with fail
            refine (alive_any _ (HT.out.below HB.out (Nat.le_refl _))).mono ?_
            rintro e w5 ⟨rfl, b5⟩
            have B5 := hid (HB.out.trans (b5.mono zB))
            have O5 := hid (owns_keep HO.out b5)
            clear b5
            have C5 := hid (pshares_any _ ms w5 (HT.out.below B5.out (Nat.le_refl _)) (shs_sl O5.out (fun j s hs i hi => shs_get ms j s hs i hi) (fun s hs => (HPAY.out s hs).below B5.out)) (by rw [HQ.out]; omega))
            rw [HP.out, HQ.out] at C5
            go_wp2_with fail
            refine C5.out.mono ?_
            rintro e w6 ⟨rfl, b6⟩
            have B6 := hid (B5.out.trans (b6.mono B5.out.size))
            clear b6
            go_wp2
            go_ret
            exact ⟨rfl, B6.out⟩
          · rw [if_neg hf] at hpart
            have HP := hid hpart
            clear hpart
            go_wp2_with fail
            refine (alive_any _ (HT.out.below HB.out (Nat.le_refl _))).mono ?_
            rintro e w5 ⟨rfl, b5⟩
            have B5 := hid (HB.out.trans (b5.mono zB))
            have O5 := hid (owns_keep HO.out b5)
            clear b5
            have C5 := hid (pshares_any _ ms w5 (HT.out.below B5.out (Nat.le_refl _)) (shs_sl O5.out (fun j s hs i hi => shs_get ms j s hs i hi) (fun s hs => (HPAY.out s hs).below B5.out)) (by rw [HQ.out]; omega))
            rw [HP.out, HQ.out] at C5
            go_wp2_with fail
            refine C5.out.mono ?_
            rintro e w6 ⟨rfl, b6⟩
            have B6 := hid (B5.out.trans (b6.mono B5.out.size))
            clear b6
            go_wp2
            go_ret
            exact ⟨rfl, B6.out⟩
    · have hd : (c0 != 0) = true := by simp [h0]
      have hd2 : (c0 == 0) = false := by simp [h0]
      go_wp2_with fail
      refine CK.out.mono ?_
      rintro e w2 ⟨rfl, b2⟩
      have B2 := hid (B1.out.trans (b2.mono B1.out.size))
      clear b2
      go_wp2_with fail
      refine (alive_any _ (HT.out.below B2.out (Nat.le_refl _))).mono ?_
      rintro e w3 ⟨rfl, b3⟩
      have B3 := hid (B2.out.trans (b3.mono B2.out.size))
      clear b3
      go_wp2
      go_ret
      exact ⟨rfl, B3.out⟩
end Go.Proofs.YticpjaooegpipaaDoor
