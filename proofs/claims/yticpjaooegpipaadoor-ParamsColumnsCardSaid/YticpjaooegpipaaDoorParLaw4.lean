/-
  ParamsColumns: the walk.
-/
import Derived.Test.YticpjaooegpipaaDoorParAlive
import Derived.Test.YticpjaooegpipaaDoorParLarge
import Derived.Test.YticpjaooegpipaaDoorParColR
import Derived.Test.YticpjaooegpipaaDoorParRow
import Derived.Test.YticpjaooegpipaaDoorEq4
namespace Go.Proofs.YticpjaooegpipaaDoor
open Go.RowKit

theorem eq_same (a b c d : Int) (w : World) : (Op.equalIn 10000 45 (.agg #[.int .u64 a, .int .u64 b, .int .u64 c, .int .u64 d]) (.agg #[.int .u64 a, .int .u64 b, .int .u64 c, .int .u64 d])).run Tryd.prog w = .ok true w := by
  rw [run_eq_vec]; simp
set_option maxRecDepth 100000 in
set_option maxHeartbeats 1000000 in
theorem columns_law (v : Value) (c : Int) (ss : List Shr) (w : World) (hT : Tab w) (hS : ShSl w v ss) : Calls Tryd.prog 6 #[v, .int .i64 c] w (Ret (.bool true) w) := by
  have HT := hid hT
  have HS0 := hid hS
  obtain ⟨a, cap, rfl, _, hrow⟩ := hS
  obtain ⟨m, hm⟩ : ∃ m, ss.length = m := ⟨_, rfl⟩
  have HM := hid hm
  have HR := hid hrow
  rw [hm] at HS0 ⊢
  have HS := HS0
  clear hm hrow hT HS0
  go_enter Tryd.func6, Tryd.ntmps6
  go_wp2_with fail
  refine (large_any _ ss _ HS.out).mono ?_
  rintro e w1 ⟨z, rfl, b1, hz⟩
  have B1 := hid b1
  clear b1
  rcases hz with rfl | ⟨rfl, hl1, hl2⟩
  · go_wp2_with fail
    refine (alive_any _ (HT.out.below B1.out (Nat.le_refl _))).mono ?_
    rintro e w2 ⟨rfl, b2⟩
    have B2 := hid (B1.out.trans (b2.mono B1.out.size))
    clear b2
    go_wp2
    go_ret
    exact ⟨rfl, B2.out⟩
  · have HL2 := hid hl2
    have hmm : m ≤ 300 := by rw [← HM.out]; exact hl1
    clear hl1 hl2
    go_wp2_with fail
    refine (column_any _ ss c _ (HS.out.below B1.out) (by rw [HM.out]; omega) (fun s hs => by have := HL2.out s hs; omega)).mono ?_
    rintro e w2 ⟨v1, xs1, rfl, o1, c1, b2⟩
    have B2 := hid (B1.out.trans (b2.mono B1.out.size))
    rw [HM.out] at o1 c1
    have C1 := hid c1
    have O1 := hid o1
    clear b2 c1 o1
    go_wp2_with fail
    refine (rcolumn_any _ ss c _ (HS.out.below B2.out) (by rw [HM.out]; omega)).mono ?_
    rintro e w3 ⟨v2, xs2, rfl, o2, c2, b3⟩
    have B3 := hid (B2.out.trans (b3.mono B2.out.size))
    rw [HM.out] at o2 c2
    have C2 := hid c2
    have O2 := hid o2
    have O1 := hid (owns_keep O1.out b3)
    clear b3 c2 o2
    go_wp2_with fail
    refine (indices_any _ ss _ (HS.out.below B3.out) (by rw [HM.out]; omega)).mono ?_
    rintro e w4 ⟨v3, rfl, o3, b4⟩
    have B4 := hid (B3.out.trans (b4.mono B3.out.size))
    rw [HM.out] at o3
    have O3 := hid o3
    have O1 := hid (owns_keep O1.out b4)
    have O2 := hid (owns_keep O2.out b4)
    clear b4 o3
    obtain ⟨a1, k1, rfl, _, f1⟩ := owns_shape O1.out
    obtain ⟨a2, k2, rfl, _, f2⟩ := owns_shape O2.out
    obtain ⟨a3, k3, rfl, _, f3⟩ := owns_shape O3.out
    have F1 := hid f1
    have F2 := hid f2
    have F3 := hid f3
    clear f1 f2 f3
    go_wp2
    go_loopw [35] (fun x wr => ∃ k : Nat, k ≤ m ∧ x = .int .i64 (k : Int) ∧ Below w4.heap.size w4 wr) (fun x _ => m - (intOf x).toNat)
    case atStart => exact ⟨0, Nat.zero_le _, rfl, Below.refl _ _⟩
    case round =>
      obtain ⟨k, hk, rfl, hB⟩ := hrel
      have zB := hB.size
      have HB := hid hB
      clear hB
      by_cases hlt : k < m
      · obtain ⟨s, hx⟩ : ∃ s, ss[k]? = some s := ⟨ss[k]'(by rw [HM.out]; exact hlt), List.getElem?_eq_getElem _⟩
        obtain ⟨g, off, hga, he⟩ : ∃ g off, a = some ⟨g, off, none⟩ ∧ ShsAt w g off ss := by
          rcases HR.out with h | h
          · subst h; cases hx
          · exact h
        obtain ⟨g1, hg1⟩ := F1.out (by omega)
        obtain ⟨g2, hg2⟩ := F2.out (by omega)
        obtain ⟨g3, hg3⟩ := F3.out (by omega)
        subst hga hg1 hg2 hg3
        obtain ⟨_, _, _, e2, _, _⟩ := he k s hx
        have hg : g < w.heap.size := World.block_lt_of_cell? w _ e2
        have l1 : g1 < w4.heap.size := (O1.out.lt _ rfl).2
        have l2 : g2 < w4.heap.size := (O2.out.lt _ rfl).2
        have l3 : g3 < w4.heap.size := (O3.out.lt _ rfl).2
        have zw := B4.out.size
        have d2 := (((HB.out.mono zw).cell (p := ⟨g, off + k * 5 + 2, none⟩) hg).trans (B4.out.cell (p := ⟨g, off + k * 5 + 2, none⟩) hg)).trans e2
        obtain ⟨x, hxv⟩ : ∃ x, colv s c = x := ⟨_, rfl⟩
        have t : ∀ i, i < 4 → wr.cell? ⟨g1, k * 4 + i, none⟩ = some (.int .u64 (limb x i : Int)) := fun i hi => ((HB.out.cell (p := ⟨g1, k * 4 + i, none⟩) l1).trans (O1.out.cellAt (k * 4 + i) (by omega))).trans (by rw [C1.out.2 k s hx i hi, if_pos hlt, hxv])
        have u : ∀ i, i < 4 → wr.cell? ⟨g2, k * 4 + i, none⟩ = some (.int .u64 (limb x i : Int)) := fun i hi => ((HB.out.cell (p := ⟨g2, k * 4 + i, none⟩) l2).trans (O2.out.cellAt (k * 4 + i) (by omega))).trans (by rw [C2.out.2 k s hx i hi, if_pos hlt, hxv])
        have t0 : wr.cell? ⟨g1, k * 4, none⟩ = _ := t 0 (by omega)
        have t1 := t 1 (by omega)
        have t2 := t 2 (by omega)
        have t3 := t 3 (by omega)
        have u0 : wr.cell? ⟨g2, k * 4, none⟩ = _ := u 0 (by omega)
        have u1 := u 1 (by omega)
        have u2 := u 2 (by omega)
        have u3 := u 3 (by omega)
        have y0 : wr.cell? ⟨g3, k, none⟩ = some (.int .i64 s.i) := ((HB.out.cell (p := ⟨g3, k, none⟩) l3).trans (O3.out.cellAt k (by omega))).trans (by unfold ixs; simp [hx])
        have he := fun W : World => eq_same (limb x 0 : Int) (limb x 1 : Int) (limb x 2 : Int) (limb x 3 : Int) W
        have z1 := Nat.lt_of_lt_of_le l1 zB
        have z2 := Nat.lt_of_lt_of_le l2 zB
        have z3 := Nat.lt_of_lt_of_le l3 zB
        have zg : g < wr.heap.size := by omega
        clear e2 hxv t u hx
        go_wp2
        go_quiet (fail)
        go_wp2
        go_roundw
        case rel => exact ⟨k + 1, by omega, by go_num, Below.drewN' HB.out _⟩
        case measure => simp [intOf]; omega
      · obtain rfl : k = m := by omega
        have B5 := hid (B4.out.trans (HB.out.mono B4.out.size))
        go_wp2_with fail
        refine (alive_any _ (HT.out.below B5.out (Nat.le_refl _))).mono ?_
        rintro e w5 ⟨rfl, b5⟩
        have B6 := hid (B5.out.trans (b5.mono B5.out.size))
        clear b5
        go_wp2
        go_ret
        exact ⟨rfl, B6.out⟩
end Go.Proofs.YticpjaooegpipaaDoor
