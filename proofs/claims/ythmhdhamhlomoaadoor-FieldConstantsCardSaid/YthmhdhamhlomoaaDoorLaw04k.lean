/-
  FieldConstants: the walk.
-/
import Derived.Test.YthmhdhamhlomoaaDoorLaw04
import Derived.Test.YthmhdhamhlomoaaDoorRget
namespace Go.Proofs.YthmhdhamhlomoaaDoor
open Go.RowKit
theorem eq_fld0 (w : World) : (Op.equalIn 10000 26 fld0 fld0).run Tryd.prog w = .ok true w := by kernel_rfl

set_option maxRecDepth 100000 in
set_option maxHeartbeats 2000000 in
theorem constants_law1 (w : World) (hT : Tab w) : Calls Tryd.prog 3 #[(.int .i64 1)] w (Ret (.bool true) w) := by
  have q4 := run_eq_vec
  have q5 := run_eq_elem
  have qf := eq_fld0
  have HT := hid hT
  clear hT
  go_enter Tryd.func3, Tryd.ntmps3
  go_wp2_with fail
  refine (get_1 _ HT.out).mono ?_
  rintro e w1 ⟨rfl, hb1⟩
  have B1 : Below w.heap.size w w1 := Below.call (by go_grown) hb1
  have zB1 := B1.size
  have T1 := hid (HT.out.keep hb1)
  go_wp2_with fail
  refine (rget_1 _).mono ?_
  rintro e w2 ⟨rfl, hb2⟩
  have h_f : Blk w2 (w1.heap.size) 26 [.int .i64 1, .int .u64 (limb P1 0 : Int), .int .u64 (limb P1 1 : Int), .int .u64 (limb P1 2 : Int), .int .u64 (limb P1 3 : Int), .int .u64 (I1 : Int), .int .u64 (limb O1 0 : Int), .int .u64 (limb O1 1 : Int), .int .u64 (limb O1 2 : Int), .int .u64 (limb O1 3 : Int), .int .u64 (limb S1 0 : Int), .int .u64 (limb S1 1 : Int), .int .u64 (limb S1 2 : Int), .int .u64 (limb S1 3 : Int)] := Blk.keep (Blk.new (by simp)) hb2
  have B2 : Below w.heap.size w w2 := Below.call (by go_grown) hb2
  have zB2 := B2.size
  have T2 := hid ((T1.out.alloc _).keep hb2)
  go_wp2_with fail
  refine (alive_any _ (T2.out.alloc _)).mono ?_
  rintro e w3 ⟨rfl, hb3⟩
  replace h_f := Blk.keep (Blk.alloc (h_f) _) hb3
  have h_g : Blk w3 (w2.heap.size) 31 [.int .i64 1, .int .u64 (limb P1 0 : Int), .int .u64 (limb P1 1 : Int), .int .u64 (limb P1 2 : Int), .int .u64 (limb P1 3 : Int), .int .u64 (I1 : Int), .int .u64 (limb O1 0 : Int), .int .u64 (limb O1 1 : Int), .int .u64 (limb O1 2 : Int), .int .u64 (limb O1 3 : Int), .int .u64 (limb S1 0 : Int), .int .u64 (limb S1 1 : Int), .int .u64 (limb S1 2 : Int), .int .u64 (limb S1 3 : Int)] := Blk.keep (Blk.new (by simp)) hb3
  have B3 : Below w.heap.size w w3 := Below.call (by go_grown) hb3
  have zB3 := B3.size
  have z_f := h_f.lt
  have c_f0 := h_f.cell (i := 0) rfl
  have c_f1 := h_f.cell (i := 1) rfl
  have c_f2 := h_f.cell (i := 2) rfl
  have c_f3 := h_f.cell (i := 3) rfl
  have c_f4 := h_f.cell (i := 4) rfl
  have c_f5 := h_f.cell (i := 5) rfl
  have c_f6 := h_f.cell (i := 6) rfl
  have c_f7 := h_f.cell (i := 7) rfl
  have c_f8 := h_f.cell (i := 8) rfl
  have c_f9 := h_f.cell (i := 9) rfl
  have c_f10 := h_f.cell (i := 10) rfl
  have c_f11 := h_f.cell (i := 11) rfl
  have c_f12 := h_f.cell (i := 12) rfl
  have c_f13 := h_f.cell (i := 13) rfl
  have z_g := h_g.lt
  have c_g0 := h_g.cell (i := 0) rfl
  have c_g1 := h_g.cell (i := 1) rfl
  have c_g2 := h_g.cell (i := 2) rfl
  have c_g3 := h_g.cell (i := 3) rfl
  have c_g4 := h_g.cell (i := 4) rfl
  have c_g5 := h_g.cell (i := 5) rfl
  have c_g6 := h_g.cell (i := 6) rfl
  have c_g7 := h_g.cell (i := 7) rfl
  have c_g8 := h_g.cell (i := 8) rfl
  have c_g9 := h_g.cell (i := 9) rfl
  have c_g10 := h_g.cell (i := 10) rfl
  have c_g11 := h_g.cell (i := 11) rfl
  have c_g12 := h_g.cell (i := 12) rfl
  have c_g13 := h_g.cell (i := 13) rfl
  clear h_f h_g
  go_wp2_with fail
  go_ret
  exact ⟨rfl, by go_grown⟩

set_option maxRecDepth 100000 in
set_option maxHeartbeats 2000000 in
theorem constants_law2 (w : World) (hT : Tab w) : Calls Tryd.prog 3 #[(.int .i64 2)] w (Ret (.bool true) w) := by
  have q4 := run_eq_vec
  have q5 := run_eq_elem
  have qf := eq_fld0
  have HT := hid hT
  clear hT
  go_enter Tryd.func3, Tryd.ntmps3
  go_wp2_with fail
  refine (get_2 _ HT.out).mono ?_
  rintro e w1 ⟨rfl, hb1⟩
  have B1 : Below w.heap.size w w1 := Below.call (by go_grown) hb1
  have zB1 := B1.size
  have T1 := hid (HT.out.keep hb1)
  go_wp2_with fail
  refine (rget_2 _).mono ?_
  rintro e w2 ⟨rfl, hb2⟩
  have h_f : Blk w2 (w1.heap.size) 26 [.int .i64 2, .int .u64 (limb P2 0 : Int), .int .u64 (limb P2 1 : Int), .int .u64 (limb P2 2 : Int), .int .u64 (limb P2 3 : Int), .int .u64 (I2 : Int), .int .u64 (limb O2 0 : Int), .int .u64 (limb O2 1 : Int), .int .u64 (limb O2 2 : Int), .int .u64 (limb O2 3 : Int), .int .u64 (limb S2 0 : Int), .int .u64 (limb S2 1 : Int), .int .u64 (limb S2 2 : Int), .int .u64 (limb S2 3 : Int)] := Blk.keep (Blk.new (by simp)) hb2
  have B2 : Below w.heap.size w w2 := Below.call (by go_grown) hb2
  have zB2 := B2.size
  have T2 := hid ((T1.out.alloc _).keep hb2)
  go_wp2_with fail
  refine (alive_any _ (T2.out.alloc _)).mono ?_
  rintro e w3 ⟨rfl, hb3⟩
  replace h_f := Blk.keep (Blk.alloc (h_f) _) hb3
  have h_g : Blk w3 (w2.heap.size) 31 [.int .i64 2, .int .u64 (limb P2 0 : Int), .int .u64 (limb P2 1 : Int), .int .u64 (limb P2 2 : Int), .int .u64 (limb P2 3 : Int), .int .u64 (I2 : Int), .int .u64 (limb O2 0 : Int), .int .u64 (limb O2 1 : Int), .int .u64 (limb O2 2 : Int), .int .u64 (limb O2 3 : Int), .int .u64 (limb S2 0 : Int), .int .u64 (limb S2 1 : Int), .int .u64 (limb S2 2 : Int), .int .u64 (limb S2 3 : Int)] := Blk.keep (Blk.new (by simp)) hb3
  have B3 : Below w.heap.size w w3 := Below.call (by go_grown) hb3
  have zB3 := B3.size
  have z_f := h_f.lt
  have c_f0 := h_f.cell (i := 0) rfl
  have c_f1 := h_f.cell (i := 1) rfl
  have c_f2 := h_f.cell (i := 2) rfl
  have c_f3 := h_f.cell (i := 3) rfl
  have c_f4 := h_f.cell (i := 4) rfl
  have c_f5 := h_f.cell (i := 5) rfl
  have c_f6 := h_f.cell (i := 6) rfl
  have c_f7 := h_f.cell (i := 7) rfl
  have c_f8 := h_f.cell (i := 8) rfl
  have c_f9 := h_f.cell (i := 9) rfl
  have c_f10 := h_f.cell (i := 10) rfl
  have c_f11 := h_f.cell (i := 11) rfl
  have c_f12 := h_f.cell (i := 12) rfl
  have c_f13 := h_f.cell (i := 13) rfl
  have z_g := h_g.lt
  have c_g0 := h_g.cell (i := 0) rfl
  have c_g1 := h_g.cell (i := 1) rfl
  have c_g2 := h_g.cell (i := 2) rfl
  have c_g3 := h_g.cell (i := 3) rfl
  have c_g4 := h_g.cell (i := 4) rfl
  have c_g5 := h_g.cell (i := 5) rfl
  have c_g6 := h_g.cell (i := 6) rfl
  have c_g7 := h_g.cell (i := 7) rfl
  have c_g8 := h_g.cell (i := 8) rfl
  have c_g9 := h_g.cell (i := 9) rfl
  have c_g10 := h_g.cell (i := 10) rfl
  have c_g11 := h_g.cell (i := 11) rfl
  have c_g12 := h_g.cell (i := 12) rfl
  have c_g13 := h_g.cell (i := 13) rfl
  clear h_f h_g
  go_wp2_with fail
  go_ret
  exact ⟨rfl, by go_grown⟩

set_option maxRecDepth 100000 in
set_option maxHeartbeats 2000000 in
theorem constants_law0 (i : Int) (h1 : i ≠ 1) (h2 : i ≠ 2) (w : World) (hT : Tab w) : Calls Tryd.prog 3 #[(.int .i64 i)] w (Ret (.bool true) w) := by
  have q4 := run_eq_vec
  have q5 := run_eq_elem
  have qf := eq_fld0
  have HT := hid hT
  clear hT
  have G0 := hid (fun w hT => get_0 i h1 h2 w hT)
  have R0 := hid (rget_0 i h1 h2)
  clear h1 h2
  go_enter Tryd.func3, Tryd.ntmps3
  go_wp2_with fail
  refine (G0.out _ HT.out).mono ?_
  rintro e w1 ⟨rfl, hb1⟩
  have B1 : Below w.heap.size w w1 := Below.call (by go_grown) hb1
  have zB1 := B1.size
  have T1 := hid (HT.out.keep hb1)
  go_wp2_with fail
  refine (R0.out _).mono ?_
  rintro e w2 ⟨rfl, hb2⟩
  have h_f : Blk w2 (w1.heap.size) 26 [.int .i64 0, .int .u64 0, .int .u64 0, .int .u64 0, .int .u64 0, .int .u64 0, .int .u64 0, .int .u64 0, .int .u64 0, .int .u64 0, .int .u64 0, .int .u64 0, .int .u64 0, .int .u64 0] := Blk.keep (Blk.new (by simp)) hb2
  have B2 : Below w.heap.size w w2 := Below.call (by go_grown) hb2
  have zB2 := B2.size
  have T2 := hid ((T1.out.alloc _).keep hb2)
  go_wp2_with fail
  refine (alive_any _ (T2.out.alloc _)).mono ?_
  rintro e w3 ⟨rfl, hb3⟩
  replace h_f := Blk.keep (Blk.alloc (h_f) _) hb3
  have h_g : Blk w3 (w2.heap.size) 31 [.int .i64 0, .int .u64 0, .int .u64 0, .int .u64 0, .int .u64 0, .int .u64 0, .int .u64 0, .int .u64 0, .int .u64 0, .int .u64 0, .int .u64 0, .int .u64 0, .int .u64 0, .int .u64 0] := Blk.keep (Blk.new (by simp)) hb3
  have B3 : Below w.heap.size w w3 := Below.call (by go_grown) hb3
  have zB3 := B3.size
  have z_f := h_f.lt
  have c_f0 := h_f.cell (i := 0) rfl
  have c_f1 := h_f.cell (i := 1) rfl
  have c_f2 := h_f.cell (i := 2) rfl
  have c_f3 := h_f.cell (i := 3) rfl
  have c_f4 := h_f.cell (i := 4) rfl
  have c_f5 := h_f.cell (i := 5) rfl
  have c_f6 := h_f.cell (i := 6) rfl
  have c_f7 := h_f.cell (i := 7) rfl
  have c_f8 := h_f.cell (i := 8) rfl
  have c_f9 := h_f.cell (i := 9) rfl
  have c_f10 := h_f.cell (i := 10) rfl
  have c_f11 := h_f.cell (i := 11) rfl
  have c_f12 := h_f.cell (i := 12) rfl
  have c_f13 := h_f.cell (i := 13) rfl
  have z_g := h_g.lt
  have c_g0 := h_g.cell (i := 0) rfl
  have c_g1 := h_g.cell (i := 1) rfl
  have c_g2 := h_g.cell (i := 2) rfl
  have c_g3 := h_g.cell (i := 3) rfl
  have c_g4 := h_g.cell (i := 4) rfl
  have c_g5 := h_g.cell (i := 5) rfl
  have c_g6 := h_g.cell (i := 6) rfl
  have c_g7 := h_g.cell (i := 7) rfl
  have c_g8 := h_g.cell (i := 8) rfl
  have c_g9 := h_g.cell (i := 9) rfl
  have c_g10 := h_g.cell (i := 10) rfl
  have c_g11 := h_g.cell (i := 11) rfl
  have c_g12 := h_g.cell (i := 12) rfl
  have c_g13 := h_g.cell (i := 13) rfl
  clear h_f h_g
  go_wp2_with fail
  go_ret
  exact ⟨rfl, by go_grown⟩

theorem constants_law (i : Int) (w : World) (hT : Tab w) : Calls Tryd.prog 3 #[.int .i64 i] w (Ret (.bool true) w) := by
  by_cases h1 : i = 1
  · subst h1; exact constants_law1 w hT
  · by_cases h2 : i = 2
    · subst h2; exact constants_law2 w hT
    · exact constants_law0 i h1 h2 w hT
end Go.Proofs.YthmhdhamhlomoaaDoor
