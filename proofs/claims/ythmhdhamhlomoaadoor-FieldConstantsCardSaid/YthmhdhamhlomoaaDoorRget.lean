/-
  The reference of layer 4: Get.
-/
import Derived.Test.YthmhdhamhlomoaaDoorRef4e
import Derived.Test.YthmhdhamhlomoaaDoorNumC
import Derived.Test.YthmhdhamhlomoaaDoorNum3
import Derived.Test.YthmhdhamhlomoaaDoorEq4
import Derived.Test.YthmhdhamhlomoaaDoorBlk2
import Derived.Deep.RegionHeld3
import Derived.Deep.DeepCutAuto
namespace Go.Proofs.YthmhdhamhlomoaaDoor
open Go.RowKit
theorem rget_ext1 {w1 w2 : World} {W W' : World} (h : W.cell? ⟨w1.heap.size, 0, none⟩ = some (.int .u64 (limb P1 0 : Int)) ∧ W.cell? ⟨w1.heap.size, 1, none⟩ = some (.int .u64 (limb P1 1 : Int)) ∧ W.cell? ⟨w1.heap.size, 2, none⟩ = some (.int .u64 (limb P1 2 : Int)) ∧ W.cell? ⟨w1.heap.size, 3, none⟩ = some (.int .u64 (limb P1 3 : Int)) ∧ W.cell? ⟨w2.heap.size, 0, none⟩ = some (.int .u64 (limb O1 0 : Int)) ∧ W.cell? ⟨w2.heap.size, 1, none⟩ = some (.int .u64 (limb O1 1 : Int)) ∧ W.cell? ⟨w2.heap.size, 2, none⟩ = some (.int .u64 (limb O1 2 : Int)) ∧ W.cell? ⟨w2.heap.size, 3, none⟩ = some (.int .u64 (limb O1 3 : Int))) (e : Ext W W') : W'.cell? ⟨w1.heap.size, 0, none⟩ = some (.int .u64 (limb P1 0 : Int)) ∧ W'.cell? ⟨w1.heap.size, 1, none⟩ = some (.int .u64 (limb P1 1 : Int)) ∧ W'.cell? ⟨w1.heap.size, 2, none⟩ = some (.int .u64 (limb P1 2 : Int)) ∧ W'.cell? ⟨w1.heap.size, 3, none⟩ = some (.int .u64 (limb P1 3 : Int)) ∧ W'.cell? ⟨w2.heap.size, 0, none⟩ = some (.int .u64 (limb O1 0 : Int)) ∧ W'.cell? ⟨w2.heap.size, 1, none⟩ = some (.int .u64 (limb O1 1 : Int)) ∧ W'.cell? ⟨w2.heap.size, 2, none⟩ = some (.int .u64 (limb O1 2 : Int)) ∧ W'.cell? ⟨w2.heap.size, 3, none⟩ = some (.int .u64 (limb O1 3 : Int)) := ⟨e _ _ h.1, e _ _ h.2.1, e _ _ h.2.2.1, e _ _ h.2.2.2.1, e _ _ h.2.2.2.2.1, e _ _ h.2.2.2.2.2.1, e _ _ h.2.2.2.2.2.2.1, e _ _ h.2.2.2.2.2.2.2⟩

set_option maxRecDepth 100000 in
set_option maxHeartbeats 4000000 in
theorem rget_1 (w : World) : Calls Tryd.prog 10 #[.int .i64 1] w (Ret (fld 1 P1 I1 O1 S1) w) := by
  have q4 := run_eq_vec
  have q0 := limb_P1_pos
  go_enter Tryd.func10, Tryd.ntmps10
  go_wp2_with fail
  refine (rmodulus_1 _).mono ?_
  rintro e w1 ⟨rfl, hb1⟩
  have h_r : Blk w1 (w.heap.size) 31 [.int .i64 0, .int .u64 0, .int .u64 0, .int .u64 0, .int .u64 0, .int .u64 0, .int .u64 0, .int .u64 0, .int .u64 0, .int .u64 0, .int .u64 0, .int .u64 0, .int .u64 0, .int .u64 0] := Blk.keep (Blk.new (by simp)) hb1
  have B1 : Below w.heap.size w w1 := Below.call (by go_grown) hb1
  have zB1 := B1.size
  have z_r := h_r.lt
  go_wp2_with fail
  go_loopw [4, 5] (fun x k wr => ∃ j : Nat, j ≤ 6 ∧ k = .int .i64 (j : Int) ∧ x = .int .u64 (newton (limb P1 0 : Int) j) ∧ wr = w1.alloc (.cells #[.int .u64 (limb P1 0 : Int), .int .u64 (limb P1 1 : Int), .int .u64 (limb P1 2 : Int), .int .u64 (limb P1 3 : Int)] 23)) (fun _ k _ => 6 - (intOf k).toNat)
  case atStart => exact ⟨0, by omega, rfl, rfl, rfl⟩
  case round =>
    obtain ⟨j, hj, rfl, rfl, rfl⟩ := hrel
    by_cases hlt : j < 6
    · go_wp2
      go_roundw
      case rel => exact ⟨j + 1, by omega, by go_num, rfl, trivial⟩
      case measure => simp [intOf]; omega
    · obtain rfl : j = 6 := by omega
      have HN := hid newton_P1
      go_wp2_with fail
      refine (rradix_any P1 P1_lt (by decide) _).mono ?_
      rintro e w2 ⟨rfl, hb2⟩
      rw [radix_P1]
      clear z_r
      have h_p : Blk w2 w1.heap.size 23 [.int .u64 (limb P1 0 : Int), .int .u64 (limb P1 1 : Int), .int .u64 (limb P1 2 : Int), .int .u64 (limb P1 3 : Int)] := Blk.keep (Blk.new rfl) hb2
      replace h_r := Blk.keep (h_r.alloc _) hb2
      have B2 : Below w.heap.size w w2 := Below.call (by go_grown) hb2
      have zB2 := B2.size
      have z_r := h_r.lt
      have z_p := h_p.lt
      have p0 := h_p.cell (i := 0) rfl
      have p1 := h_p.cell (i := 1) rfl
      have p2 := h_p.cell (i := 2) rfl
      have p3 := h_p.cell (i := 3) rfl
      have SQ := hid square_P1
      have hz1 := hb1.size
      have ne1 : ¬ w.heap.size = w1.heap.size := by (try simp at hz1); omega
      have ne2 : ¬ w.heap.size = w2.heap.size := by omega
      have ne3 : ¬ w1.heap.size = w.heap.size := by omega
      have ne4 : ¬ w2.heap.size = w.heap.size := by omega
      clear hz1
      go_wp2_with fail
      go_region_held3 (fun w' => w'.cell? ⟨w1.heap.size, 0, none⟩ = some (.int .u64 (limb P1 0 : Int)) ∧ w'.cell? ⟨w1.heap.size, 1, none⟩ = some (.int .u64 (limb P1 1 : Int)) ∧ w'.cell? ⟨w1.heap.size, 2, none⟩ = some (.int .u64 (limb P1 2 : Int)) ∧ w'.cell? ⟨w1.heap.size, 3, none⟩ = some (.int .u64 (limb P1 3 : Int)) ∧ w'.cell? ⟨w2.heap.size, 0, none⟩ = some (.int .u64 (limb O1 0 : Int)) ∧ w'.cell? ⟨w2.heap.size, 1, none⟩ = some (.int .u64 (limb O1 1 : Int)) ∧ w'.cell? ⟨w2.heap.size, 2, none⟩ = some (.int .u64 (limb O1 2 : Int)) ∧ w'.cell? ⟨w2.heap.size, 3, none⟩ = some (.int .u64 (limb O1 3 : Int))) ((first | (refine rget_ext1 (by with_reducible assumption) ?_; with_reducible first | exact Ext.below (by assumption) | exact Ext.alloc1 _ _ | exact Ext.alloc2 _ _ | exact Ext.alloc _ _ | exact Ext.alloc3 _ _) | (go_simp; done) | go_keep)) (first | (go_at_call 16; refine (rmul_any P1 O1 O1 P1_lt (by decide) (by decide) _).mono ?_; rintro e w3 ⟨rfl, hb3⟩; rw [SQ.out]; have B3 : Below w.heap.size w w3 := Below.call (by go_grown) hb3; have zB3 := B3.size; have h_r3 := Blk.keep2 h_r (by go_grown) hb3; have r0 := h_r3.cell (i := 0) rfl; have f0 := h_r3.frozen 0; have r1 := h_r3.cell (i := 1) rfl; have f1 := h_r3.frozen 1; have r2 := h_r3.cell (i := 2) rfl; have f2 := h_r3.frozen 2; have r3 := h_r3.cell (i := 3) rfl; have f3 := h_r3.frozen 3; have r4 := h_r3.cell (i := 4) rfl; have f4 := h_r3.frozen 4; have r5 := h_r3.cell (i := 5) rfl; have f5 := h_r3.frozen 5; have r6 := h_r3.cell (i := 6) rfl; have f6 := h_r3.frozen 6; have r7 := h_r3.cell (i := 7) rfl; have f7 := h_r3.frozen 7; have r8 := h_r3.cell (i := 8) rfl; have f8 := h_r3.frozen 8; have r9 := h_r3.cell (i := 9) rfl; have f9 := h_r3.frozen 9; have r10 := h_r3.cell (i := 10) rfl; have f10 := h_r3.frozen 10; have r11 := h_r3.cell (i := 11) rfl; have f11 := h_r3.frozen 11; have r12 := h_r3.cell (i := 12) rfl; have f12 := h_r3.frozen 12; have r13 := h_r3.cell (i := 13) rfl; have f13 := h_r3.frozen 13))
      have hn := HN.out
      go_wp2
      refine bodyPost_ret (by simp only [results, Tryd.results10]; go_simp; try rfl) rfl ?_
      exact ⟨rfl, by go_grown⟩
theorem rget_ext2 {w1 w2 : World} {W W' : World} (h : W.cell? ⟨w1.heap.size, 0, none⟩ = some (.int .u64 (limb P2 0 : Int)) ∧ W.cell? ⟨w1.heap.size, 1, none⟩ = some (.int .u64 (limb P2 1 : Int)) ∧ W.cell? ⟨w1.heap.size, 2, none⟩ = some (.int .u64 (limb P2 2 : Int)) ∧ W.cell? ⟨w1.heap.size, 3, none⟩ = some (.int .u64 (limb P2 3 : Int)) ∧ W.cell? ⟨w2.heap.size, 0, none⟩ = some (.int .u64 (limb O2 0 : Int)) ∧ W.cell? ⟨w2.heap.size, 1, none⟩ = some (.int .u64 (limb O2 1 : Int)) ∧ W.cell? ⟨w2.heap.size, 2, none⟩ = some (.int .u64 (limb O2 2 : Int)) ∧ W.cell? ⟨w2.heap.size, 3, none⟩ = some (.int .u64 (limb O2 3 : Int))) (e : Ext W W') : W'.cell? ⟨w1.heap.size, 0, none⟩ = some (.int .u64 (limb P2 0 : Int)) ∧ W'.cell? ⟨w1.heap.size, 1, none⟩ = some (.int .u64 (limb P2 1 : Int)) ∧ W'.cell? ⟨w1.heap.size, 2, none⟩ = some (.int .u64 (limb P2 2 : Int)) ∧ W'.cell? ⟨w1.heap.size, 3, none⟩ = some (.int .u64 (limb P2 3 : Int)) ∧ W'.cell? ⟨w2.heap.size, 0, none⟩ = some (.int .u64 (limb O2 0 : Int)) ∧ W'.cell? ⟨w2.heap.size, 1, none⟩ = some (.int .u64 (limb O2 1 : Int)) ∧ W'.cell? ⟨w2.heap.size, 2, none⟩ = some (.int .u64 (limb O2 2 : Int)) ∧ W'.cell? ⟨w2.heap.size, 3, none⟩ = some (.int .u64 (limb O2 3 : Int)) := ⟨e _ _ h.1, e _ _ h.2.1, e _ _ h.2.2.1, e _ _ h.2.2.2.1, e _ _ h.2.2.2.2.1, e _ _ h.2.2.2.2.2.1, e _ _ h.2.2.2.2.2.2.1, e _ _ h.2.2.2.2.2.2.2⟩

set_option maxRecDepth 100000 in
set_option maxHeartbeats 4000000 in
theorem rget_2 (w : World) : Calls Tryd.prog 10 #[.int .i64 2] w (Ret (fld 2 P2 I2 O2 S2) w) := by
  have q4 := run_eq_vec
  have q0 := limb_P2_pos
  go_enter Tryd.func10, Tryd.ntmps10
  go_wp2_with fail
  refine (rmodulus_2 _).mono ?_
  rintro e w1 ⟨rfl, hb1⟩
  have h_r : Blk w1 (w.heap.size) 31 [.int .i64 0, .int .u64 0, .int .u64 0, .int .u64 0, .int .u64 0, .int .u64 0, .int .u64 0, .int .u64 0, .int .u64 0, .int .u64 0, .int .u64 0, .int .u64 0, .int .u64 0, .int .u64 0] := Blk.keep (Blk.new (by simp)) hb1
  have B1 : Below w.heap.size w w1 := Below.call (by go_grown) hb1
  have zB1 := B1.size
  have z_r := h_r.lt
  go_wp2_with fail
  go_loopw [4, 5] (fun x k wr => ∃ j : Nat, j ≤ 6 ∧ k = .int .i64 (j : Int) ∧ x = .int .u64 (newton (limb P2 0 : Int) j) ∧ wr = w1.alloc (.cells #[.int .u64 (limb P2 0 : Int), .int .u64 (limb P2 1 : Int), .int .u64 (limb P2 2 : Int), .int .u64 (limb P2 3 : Int)] 23)) (fun _ k _ => 6 - (intOf k).toNat)
  case atStart => exact ⟨0, by omega, rfl, rfl, rfl⟩
  case round =>
    obtain ⟨j, hj, rfl, rfl, rfl⟩ := hrel
    by_cases hlt : j < 6
    · go_wp2
      go_roundw
      case rel => exact ⟨j + 1, by omega, by go_num, rfl, trivial⟩
      case measure => simp [intOf]; omega
    · obtain rfl : j = 6 := by omega
      have HN := hid newton_P2
      go_wp2_with fail
      refine (rradix_any P2 P2_lt (by decide) _).mono ?_
      rintro e w2 ⟨rfl, hb2⟩
      rw [radix_P2]
      clear z_r
      have h_p : Blk w2 w1.heap.size 23 [.int .u64 (limb P2 0 : Int), .int .u64 (limb P2 1 : Int), .int .u64 (limb P2 2 : Int), .int .u64 (limb P2 3 : Int)] := Blk.keep (Blk.new rfl) hb2
      replace h_r := Blk.keep (h_r.alloc _) hb2
      have B2 : Below w.heap.size w w2 := Below.call (by go_grown) hb2
      have zB2 := B2.size
      have z_r := h_r.lt
      have z_p := h_p.lt
      have p0 := h_p.cell (i := 0) rfl
      have p1 := h_p.cell (i := 1) rfl
      have p2 := h_p.cell (i := 2) rfl
      have p3 := h_p.cell (i := 3) rfl
      have SQ := hid square_P2
      have hz1 := hb1.size
      have ne1 : ¬ w.heap.size = w1.heap.size := by (try simp at hz1); omega
      have ne2 : ¬ w.heap.size = w2.heap.size := by omega
      have ne3 : ¬ w1.heap.size = w.heap.size := by omega
      have ne4 : ¬ w2.heap.size = w.heap.size := by omega
      clear hz1
      go_wp2_with fail
      go_region_held3 (fun w' => w'.cell? ⟨w1.heap.size, 0, none⟩ = some (.int .u64 (limb P2 0 : Int)) ∧ w'.cell? ⟨w1.heap.size, 1, none⟩ = some (.int .u64 (limb P2 1 : Int)) ∧ w'.cell? ⟨w1.heap.size, 2, none⟩ = some (.int .u64 (limb P2 2 : Int)) ∧ w'.cell? ⟨w1.heap.size, 3, none⟩ = some (.int .u64 (limb P2 3 : Int)) ∧ w'.cell? ⟨w2.heap.size, 0, none⟩ = some (.int .u64 (limb O2 0 : Int)) ∧ w'.cell? ⟨w2.heap.size, 1, none⟩ = some (.int .u64 (limb O2 1 : Int)) ∧ w'.cell? ⟨w2.heap.size, 2, none⟩ = some (.int .u64 (limb O2 2 : Int)) ∧ w'.cell? ⟨w2.heap.size, 3, none⟩ = some (.int .u64 (limb O2 3 : Int))) ((first | (refine rget_ext2 (by with_reducible assumption) ?_; with_reducible first | exact Ext.below (by assumption) | exact Ext.alloc1 _ _ | exact Ext.alloc2 _ _ | exact Ext.alloc _ _ | exact Ext.alloc3 _ _) | (go_simp; done) | go_keep)) (first | (go_at_call 16; refine (rmul_any P2 O2 O2 P2_lt (by decide) (by decide) _).mono ?_; rintro e w3 ⟨rfl, hb3⟩; rw [SQ.out]; have B3 : Below w.heap.size w w3 := Below.call (by go_grown) hb3; have zB3 := B3.size; have h_r3 := Blk.keep2 h_r (by go_grown) hb3; have r0 := h_r3.cell (i := 0) rfl; have f0 := h_r3.frozen 0; have r1 := h_r3.cell (i := 1) rfl; have f1 := h_r3.frozen 1; have r2 := h_r3.cell (i := 2) rfl; have f2 := h_r3.frozen 2; have r3 := h_r3.cell (i := 3) rfl; have f3 := h_r3.frozen 3; have r4 := h_r3.cell (i := 4) rfl; have f4 := h_r3.frozen 4; have r5 := h_r3.cell (i := 5) rfl; have f5 := h_r3.frozen 5; have r6 := h_r3.cell (i := 6) rfl; have f6 := h_r3.frozen 6; have r7 := h_r3.cell (i := 7) rfl; have f7 := h_r3.frozen 7; have r8 := h_r3.cell (i := 8) rfl; have f8 := h_r3.frozen 8; have r9 := h_r3.cell (i := 9) rfl; have f9 := h_r3.frozen 9; have r10 := h_r3.cell (i := 10) rfl; have f10 := h_r3.frozen 10; have r11 := h_r3.cell (i := 11) rfl; have f11 := h_r3.frozen 11; have r12 := h_r3.cell (i := 12) rfl; have f12 := h_r3.frozen 12; have r13 := h_r3.cell (i := 13) rfl; have f13 := h_r3.frozen 13))
      have hn := HN.out
      go_wp2
      refine bodyPost_ret (by simp only [results, Tryd.results10]; go_simp; try rfl) rfl ?_
      exact ⟨rfl, by go_grown⟩

theorem rmodulus_0z (i : Int) (h1 : i ≠ 1) (h2 : i ≠ 2) (w : World) : Calls Tryd.prog 14 #[.int .i64 i] w (Ret (.agg #[.int .u64 0, .int .u64 0, .int .u64 0, .int .u64 0]) w) := by
  have h := rmodulus_0 i h1 h2 w
  rw [← vec_zero] at h
  exact h
set_option maxHeartbeats 1000000 in
theorem rget_0 (i : Int) (h1 : i ≠ 1) (h2 : i ≠ 2) (w : World) : Calls Tryd.prog 10 #[.int .i64 i] w (Ret (.agg #[.int .i64 0, .int .u64 0, .int .u64 0, .int .u64 0, .int .u64 0, .int .u64 0, .int .u64 0, .int .u64 0, .int .u64 0, .int .u64 0, .int .u64 0, .int .u64 0, .int .u64 0, .int .u64 0]) w) := by
  have H0 := hid (rmodulus_0z i h1 h2)
  have q4 : ∀ w : World, (Op.equalIn 10000 23 (.agg #[.int .u64 0, .int .u64 0, .int .u64 0, .int .u64 0]) (.agg #[.int .u64 0, .int .u64 0, .int .u64 0, .int .u64 0])).run Tryd.prog w = .ok true w := fun w => run_eq_vec 0 0 0 0 0 0 0 0 w
  clear h1 h2
  obtain ⟨v, hv⟩ : ∃ v, v = (.agg #[.int .i64 0, .int .u64 0, .int .u64 0, .int .u64 0, .int .u64 0, .int .u64 0, .int .u64 0, .int .u64 0, .int .u64 0, .int .u64 0, .int .u64 0, .int .u64 0, .int .u64 0, .int .u64 0] : Value) := ⟨_, rfl⟩
  rw [← hv]
  replace hv := hid hv
  go_enter Tryd.func10, Tryd.ntmps10
  go_wp2_with fail
  refine (H0.out _).mono ?_
  rintro e w1 ⟨rfl, hb1⟩
  have h_r : Blk w1 (w.heap.size) 31 [.int .i64 0, .int .u64 0, .int .u64 0, .int .u64 0, .int .u64 0, .int .u64 0, .int .u64 0, .int .u64 0, .int .u64 0, .int .u64 0, .int .u64 0, .int .u64 0, .int .u64 0, .int .u64 0] := Blk.keep (Blk.new (by simp)) hb1
  have B1 : Below w.heap.size w w1 := Below.call (by go_grown) hb1
  have zB1 := B1.size
  have z_r := h_r.lt
  have f0 := h_r.frozen 0
  obtain ⟨x0, c0⟩ : ∃ x, w1.cell? ⟨w.heap.size, 0, none⟩ = some x := ⟨_, h_r.cell (i := 0) rfl⟩
  have f1 := h_r.frozen 1
  obtain ⟨x1, c1⟩ : ∃ x, w1.cell? ⟨w.heap.size, 1, none⟩ = some x := ⟨_, h_r.cell (i := 1) rfl⟩
  have f2 := h_r.frozen 2
  obtain ⟨x2, c2⟩ : ∃ x, w1.cell? ⟨w.heap.size, 2, none⟩ = some x := ⟨_, h_r.cell (i := 2) rfl⟩
  have f3 := h_r.frozen 3
  obtain ⟨x3, c3⟩ : ∃ x, w1.cell? ⟨w.heap.size, 3, none⟩ = some x := ⟨_, h_r.cell (i := 3) rfl⟩
  have f4 := h_r.frozen 4
  obtain ⟨x4, c4⟩ : ∃ x, w1.cell? ⟨w.heap.size, 4, none⟩ = some x := ⟨_, h_r.cell (i := 4) rfl⟩
  have f5 := h_r.frozen 5
  obtain ⟨x5, c5⟩ : ∃ x, w1.cell? ⟨w.heap.size, 5, none⟩ = some x := ⟨_, h_r.cell (i := 5) rfl⟩
  have f6 := h_r.frozen 6
  obtain ⟨x6, c6⟩ : ∃ x, w1.cell? ⟨w.heap.size, 6, none⟩ = some x := ⟨_, h_r.cell (i := 6) rfl⟩
  have f7 := h_r.frozen 7
  obtain ⟨x7, c7⟩ : ∃ x, w1.cell? ⟨w.heap.size, 7, none⟩ = some x := ⟨_, h_r.cell (i := 7) rfl⟩
  have f8 := h_r.frozen 8
  obtain ⟨x8, c8⟩ : ∃ x, w1.cell? ⟨w.heap.size, 8, none⟩ = some x := ⟨_, h_r.cell (i := 8) rfl⟩
  have f9 := h_r.frozen 9
  obtain ⟨x9, c9⟩ : ∃ x, w1.cell? ⟨w.heap.size, 9, none⟩ = some x := ⟨_, h_r.cell (i := 9) rfl⟩
  have f10 := h_r.frozen 10
  obtain ⟨x10, c10⟩ : ∃ x, w1.cell? ⟨w.heap.size, 10, none⟩ = some x := ⟨_, h_r.cell (i := 10) rfl⟩
  have f11 := h_r.frozen 11
  obtain ⟨x11, c11⟩ : ∃ x, w1.cell? ⟨w.heap.size, 11, none⟩ = some x := ⟨_, h_r.cell (i := 11) rfl⟩
  have f12 := h_r.frozen 12
  obtain ⟨x12, c12⟩ : ∃ x, w1.cell? ⟨w.heap.size, 12, none⟩ = some x := ⟨_, h_r.cell (i := 12) rfl⟩
  have f13 := h_r.frozen 13
  obtain ⟨x13, c13⟩ : ∃ x, w1.cell? ⟨w.heap.size, 13, none⟩ = some x := ⟨_, h_r.cell (i := 13) rfl⟩
  clear h_r
  go_wp2_with (with_reducible apply bodyPost_ret; (simp only [results, Tryd.results10]; go_simp; exact rfl); exact rfl; unfold Ret; refine And.intro ?_ ?_; rw [hv.out]; go_grown)
end Go.Proofs.YthmhdhamhlomoaaDoor
