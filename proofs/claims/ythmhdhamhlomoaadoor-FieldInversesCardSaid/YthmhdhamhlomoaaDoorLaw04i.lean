/-
  FieldInverses: the walk.
-/
import Derived.Test.YthmhdhamhlomoaaDoorLaw04
namespace Go.Proofs.YthmhdhamhlomoaaDoor
open Go.RowKit

theorem inv_mul1 : IntKind.u64.wrap (IntKind.u64.wrap ((I1 : Int) * (limb P1 0 : Int)) + 1) = 0 := by
  rw [← limbs_P1.1]; decide
theorem inv_mul2 : IntKind.u64.wrap (IntKind.u64.wrap ((I2 : Int) * (limb P2 0 : Int)) + 1) = 0 := by
  rw [← limbs_P2.1]; decide
theorem msk_below {a b : Nat} (h : a < b) : ((msk (brw a b) : Int) != 18446744073709551615) = false := by
  rw [brw_eq, if_pos h, msk_eq]; rfl
theorem msk_notbelow {a b : Nat} (h : ¬ a < b) : ((msk (brw a b) : Int) != 0) = false := by
  rw [brw_eq, if_neg h, msk_eq]; rfl
set_option maxRecDepth 100000 in
set_option maxHeartbeats 4000000 in
theorem inverses_law (a : Nat) (w : World) (hT : Tab w) :
    Calls Tryd.prog 8 #[.int .u64 (a : Int)] w (Ret (.bool true) w) := by
  have HT := hid hT
  clear hT
  go_enter Tryd.func8, Tryd.ntmps8
  go_wp2_with fail
  refine (all_any _ HT.out).mono ?_
  rintro e w1 ⟨v, rfl, hown, hb1⟩
  have T1 := hid (HT.out.keep hb1)
  have B1 : Below w.heap.size w w1 := Below.call (by go_grown) hb1
  have zB1 := B1.size
  obtain ⟨g, cap, rest, rfl, hg, hcap, hx⟩ := owns_blk hown (by omega)
  have h_l := hx
  clear hx hown
  have c0 : w1.cell? ⟨g, 0, none⟩ = some (.int .i64 1) := h_l.cell rfl
  go_wp2_with fail
  refine wp_loop_rounds 3 ?_
  rw [rounds_succ]
  go_wp2_with fail
  refine (get_1 _ T1.out).mono ?_
  rintro e w2 ⟨rfl, hb2⟩
  clear c0
  have T2 := hid (T1.out.keep hb2)
  have B2 : Below w.heap.size w w2 := Below.call (by go_grown) hb2
  have zB2 := B2.size
  replace h_l := Blk.keep h_l hb2
  have im := inv_mul1
  have d1 := msk_below (show O1 < P1 by decide)
  have d2 := msk_notbelow (show ¬ P1 < P1 by decide)
  go_wp2_with fail
  refine (contains_any P1 O1 P1_lt (by decide) _).mono ?_
  rintro e w3 ⟨rfl, hb3⟩
  have h_f : Blk w3 w2.heap.size 26 [.int .i64 1, .int .u64 (limb P1 0 : Int), .int .u64 (limb P1 1 : Int), .int .u64 (limb P1 2 : Int), .int .u64 (limb P1 3 : Int), .int .u64 (I1 : Int), .int .u64 (limb O1 0 : Int), .int .u64 (limb O1 1 : Int), .int .u64 (limb O1 2 : Int), .int .u64 (limb O1 3 : Int), .int .u64 (limb S1 0 : Int), .int .u64 (limb S1 1 : Int), .int .u64 (limb S1 2 : Int), .int .u64 (limb S1 3 : Int)] := Blk.keep (Blk.new rfl) hb3
  have T3 := hid ((T2.out.alloc _).keep hb3)
  have B3 : Below w.heap.size w w3 := Below.call (by go_grown) hb3
  have zB3 := B3.size
  replace h_l := Blk.keep (h_l.alloc _) hb3
  have q0 := h_f.cell (i := 0) rfl
  have q1 := h_f.cell (i := 1) rfl
  have q2 := h_f.cell (i := 2) rfl
  have q3 := h_f.cell (i := 3) rfl
  have q4 := h_f.cell (i := 4) rfl
  have q5 := h_f.cell (i := 5) rfl
  have q6 := h_f.cell (i := 6) rfl
  have q7 := h_f.cell (i := 7) rfl
  have q8 := h_f.cell (i := 8) rfl
  have q9 := h_f.cell (i := 9) rfl
  have q10 := h_f.cell (i := 10) rfl
  have q11 := h_f.cell (i := 11) rfl
  have q12 := h_f.cell (i := 12) rfl
  have q13 := h_f.cell (i := 13) rfl
  go_wp2_with fail
  refine (contains_any P1 P1 P1_lt P1_lt _).mono ?_
  rintro e w4 ⟨rfl, hb4⟩
  clear q0 q1 q2 q3 q4 q5 q6 q7 q8 q9 q10 q11 q12 q13 h_f
  have T4 := hid (T3.out.keep hb4)
  have B4 : Below w.heap.size w w4 := Below.call (by go_grown) hb4
  have zB4 := B4.size
  replace h_l := Blk.keep h_l hb4
  have c1 : w4.cell? ⟨g, 1, none⟩ = some (.int .i64 2) := h_l.cell rfl
  go_wp2_with fail
  clear im d1 d2
  rw [rounds_succ]
  go_wp2_with fail
  refine (get_2 _ T4.out).mono ?_
  rintro e w5 ⟨rfl, hb5⟩
  clear c1
  have T5 := hid (T4.out.keep hb5)
  have B5 : Below w.heap.size w w5 := Below.call (by go_grown) hb5
  have zB5 := B5.size
  replace h_l := Blk.keep h_l hb5
  have im := inv_mul2
  have d1 := msk_below (show O2 < P2 by decide)
  have d2 := msk_notbelow (show ¬ P2 < P2 by decide)
  go_wp2_with fail
  refine (contains_any P2 O2 P2_lt (by decide) _).mono ?_
  rintro e w6 ⟨rfl, hb6⟩
  have h_f : Blk w6 w5.heap.size 26 [.int .i64 2, .int .u64 (limb P2 0 : Int), .int .u64 (limb P2 1 : Int), .int .u64 (limb P2 2 : Int), .int .u64 (limb P2 3 : Int), .int .u64 (I2 : Int), .int .u64 (limb O2 0 : Int), .int .u64 (limb O2 1 : Int), .int .u64 (limb O2 2 : Int), .int .u64 (limb O2 3 : Int), .int .u64 (limb S2 0 : Int), .int .u64 (limb S2 1 : Int), .int .u64 (limb S2 2 : Int), .int .u64 (limb S2 3 : Int)] := Blk.keep (Blk.new rfl) hb6
  have T6 := hid ((T5.out.alloc _).keep hb6)
  have B6 : Below w.heap.size w w6 := Below.call (by go_grown) hb6
  have zB6 := B6.size
  replace h_l := Blk.keep (h_l.alloc _) hb6
  have q0 := h_f.cell (i := 0) rfl
  have q1 := h_f.cell (i := 1) rfl
  have q2 := h_f.cell (i := 2) rfl
  have q3 := h_f.cell (i := 3) rfl
  have q4 := h_f.cell (i := 4) rfl
  have q5 := h_f.cell (i := 5) rfl
  have q6 := h_f.cell (i := 6) rfl
  have q7 := h_f.cell (i := 7) rfl
  have q8 := h_f.cell (i := 8) rfl
  have q9 := h_f.cell (i := 9) rfl
  have q10 := h_f.cell (i := 10) rfl
  have q11 := h_f.cell (i := 11) rfl
  have q12 := h_f.cell (i := 12) rfl
  have q13 := h_f.cell (i := 13) rfl
  go_wp2_with fail
  refine (contains_any P2 P2 P2_lt P2_lt _).mono ?_
  rintro e w7 ⟨rfl, hb7⟩
  clear q0 q1 q2 q3 q4 q5 q6 q7 q8 q9 q10 q11 q12 q13 h_f
  have T7 := hid (T6.out.keep hb7)
  have B7 : Below w.heap.size w w7 := Below.call (by go_grown) hb7
  have zB7 := B7.size
  replace h_l := Blk.keep h_l hb7
  have c1 : w7.cell? ⟨g, 1, none⟩ = some (.int .i64 2) := h_l.cell rfl
  go_wp2_with fail
  clear im d1 d2 c1
  rw [rounds_succ]
  go_wp2_with fail
  refine (alive_any _ T7.out).mono ?_
  rintro e w8 ⟨rfl, hb8⟩
  have T8 := hid (T7.out.keep hb8)
  have B8 : Below w.heap.size w w8 := Below.call (by go_grown) hb8
  have zB8 := B8.size
  go_wp2_with fail
  refine (all_any _ T8.out).mono ?_
  rintro e w9 ⟨v, rfl, hown, hb9⟩
  obtain ⟨g2, cap2, rfl, _⟩ := owns_pos hown (by omega)
  have B9 : Below w.heap.size w w9 := Below.call (by go_grown) hb9
  go_wp2
  go_ret
  exact ⟨rfl, B9⟩
end Go.Proofs.YthmhdhamhlomoaaDoor
