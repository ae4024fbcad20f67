/-
  Fields as chapter 10's laws name them.
-/
import Derived.Test.YtogenbggjodcnaaDoorGet08
import Derived.Test.YtogenbggjodcnaaDoorVals08
namespace Go.Proofs.YtogenbggjodcnaaDoor
open Go.RowKit

set_option maxRecDepth 100000 in
set_option maxHeartbeats 2000000 in
theorem get10_any (s : Bool) (w : World) (hT : Tab w) : Calls Tryd.prog 15 #[.bool s] w (Ret (.tuple #[FV s, vec (fP s)]) w) := by
  have T0 := hid ((hT.alloc (.cells #[.int .i64 0, .int .u64 0, .int .u64 0, .int .u64 0, .int .u64 0, .int .u64 0, .int .u64 0, .int .u64 0, .int .u64 0, .int .u64 0, .int .u64 0, .int .u64 0, .int .u64 0, .int .u64 0] 31)).alloc (.cells #[.int .u64 0, .int .u64 0, .int .u64 0, .int .u64 0] 28))
  clear hT
  go_enter Tryd.func15, Tryd.ntmps15
  go_wp2_with (first | (go_at_call 57; refine (id_any s _).mono ?_; rintro e w' ⟨rfl, rfl⟩) | (go_at_call 56; refine (get_sec s _ T0.out).mono ?_; rintro e w1 ⟨rfl, hb1⟩; have h_f : Blk w1 w.heap.size 31 [.int .i64 0, .int .u64 0, .int .u64 0, .int .u64 0, .int .u64 0, .int .u64 0, .int .u64 0, .int .u64 0, .int .u64 0, .int .u64 0, .int .u64 0, .int .u64 0, .int .u64 0, .int .u64 0] := Blk.keep (Blk.alloc (Blk.new rfl) _) hb1; have h_v : Blk w1 (w.heap.size + 1) 28 [.int .u64 0, .int .u64 0, .int .u64 0, .int .u64 0] := Blk.keep (Blk.new (by simp)) hb1; have B1 : Below w.heap.size w w1 := Below.call (by go_grown) hb1; have zB1 := B1.size))
  have h_g0 : Blk (w1.alloc (.cells #[.int .i64 (fID s), .int .u64 (limb (fP s) 0 : Int), .int .u64 (limb (fP s) 1 : Int), .int .u64 (limb (fP s) 2 : Int), .int .u64 (limb (fP s) 3 : Int), .int .u64 (fI s : Int), .int .u64 (limb (fO s) 0 : Int), .int .u64 (limb (fO s) 1 : Int), .int .u64 (limb (fO s) 2 : Int), .int .u64 (limb (fO s) 3 : Int), .int .u64 (limb (fS s) 0 : Int), .int .u64 (limb (fS s) 1 : Int), .int .u64 (limb (fS s) 2 : Int), .int .u64 (limb (fS s) 3 : Int)] 31)) w1.heap.size 31 [.int .i64 (fID s), .int .u64 (limb (fP s) 0 : Int), .int .u64 (limb (fP s) 1 : Int), .int .u64 (limb (fP s) 2 : Int), .int .u64 (limb (fP s) 3 : Int), .int .u64 (fI s : Int), .int .u64 (limb (fO s) 0 : Int), .int .u64 (limb (fO s) 1 : Int), .int .u64 (limb (fO s) 2 : Int), .int .u64 (limb (fO s) 3 : Int), .int .u64 (limb (fS s) 0 : Int), .int .u64 (limb (fS s) 1 : Int), .int .u64 (limb (fS s) 2 : Int), .int .u64 (limb (fS s) 3 : Int)] := Blk.new rfl
  have h_f0 := Blk.alloc h_f (.cells #[.int .i64 (fID s), .int .u64 (limb (fP s) 0 : Int), .int .u64 (limb (fP s) 1 : Int), .int .u64 (limb (fP s) 2 : Int), .int .u64 (limb (fP s) 3 : Int), .int .u64 (fI s : Int), .int .u64 (limb (fO s) 0 : Int), .int .u64 (limb (fO s) 1 : Int), .int .u64 (limb (fO s) 2 : Int), .int .u64 (limb (fO s) 3 : Int), .int .u64 (limb (fS s) 0 : Int), .int .u64 (limb (fS s) 1 : Int), .int .u64 (limb (fS s) 2 : Int), .int .u64 (limb (fS s) 3 : Int)] 31)
  have h_v0 := Blk.alloc h_v (.cells #[.int .i64 (fID s), .int .u64 (limb (fP s) 0 : Int), .int .u64 (limb (fP s) 1 : Int), .int .u64 (limb (fP s) 2 : Int), .int .u64 (limb (fP s) 3 : Int), .int .u64 (fI s : Int), .int .u64 (limb (fO s) 0 : Int), .int .u64 (limb (fO s) 1 : Int), .int .u64 (limb (fO s) 2 : Int), .int .u64 (limb (fO s) 3 : Int), .int .u64 (limb (fS s) 0 : Int), .int .u64 (limb (fS s) 1 : Int), .int .u64 (limb (fS s) 2 : Int), .int .u64 (limb (fS s) 3 : Int)] 31)
  have B2 : Below w.heap.size w (w1.alloc (.cells #[.int .i64 (fID s), .int .u64 (limb (fP s) 0 : Int), .int .u64 (limb (fP s) 1 : Int), .int .u64 (limb (fP s) 2 : Int), .int .u64 (limb (fP s) 3 : Int), .int .u64 (fI s : Int), .int .u64 (limb (fO s) 0 : Int), .int .u64 (limb (fO s) 1 : Int), .int .u64 (limb (fO s) 2 : Int), .int .u64 (limb (fO s) 3 : Int), .int .u64 (limb (fS s) 0 : Int), .int .u64 (limb (fS s) 1 : Int), .int .u64 (limb (fS s) 2 : Int), .int .u64 (limb (fS s) 3 : Int)] 31)) := B1.alloc zB1 _
  generalize hw2 : w1.alloc (.cells #[.int .i64 (fID s), .int .u64 (limb (fP s) 0 : Int), .int .u64 (limb (fP s) 1 : Int), .int .u64 (limb (fP s) 2 : Int), .int .u64 (limb (fP s) 3 : Int), .int .u64 (fI s : Int), .int .u64 (limb (fO s) 0 : Int), .int .u64 (limb (fO s) 1 : Int), .int .u64 (limb (fO s) 2 : Int), .int .u64 (limb (fO s) 3 : Int), .int .u64 (limb (fS s) 0 : Int), .int .u64 (limb (fS s) 1 : Int), .int .u64 (limb (fS s) 2 : Int), .int .u64 (limb (fS s) 3 : Int)] 31) = w2 at *
  clear h_f h_v
  have g0 := h_g0.cell (i := 0) rfl
  have g1 := h_g0.cell (i := 1) rfl
  have g2 := h_g0.cell (i := 2) rfl
  have g3 := h_g0.cell (i := 3) rfl
  have g4 := h_g0.cell (i := 4) rfl
  have g5 := h_g0.cell (i := 5) rfl
  have g6 := h_g0.cell (i := 6) rfl
  have g7 := h_g0.cell (i := 7) rfl
  have g8 := h_g0.cell (i := 8) rfl
  have g9 := h_g0.cell (i := 9) rfl
  have g10 := h_g0.cell (i := 10) rfl
  have g11 := h_g0.cell (i := 11) rfl
  have g12 := h_g0.cell (i := 12) rfl
  have g13 := h_g0.cell (i := 13) rfl
  have zg := h_g0.lt
  have zf := h_f0.lt
  have zv := h_v0.lt
  go_region_with (first | (go_at_call 57; refine (id_any s _).mono ?_; rintro e w' ⟨rfl, rfl⟩) | (go_at_call 49; refine (modulus_sec s _).mono ?_; rintro e w3 ⟨rfl, hb3⟩; have hc := bcell hb3; have k_f := Blk.keep h_f0.drew hb3; have k_v := Blk.keep h_v0.drew hb3; have k_g := Blk.keep h_g0.drew hb3; have B3 : Below w.heap.size w w3 := Below.call (Below.drew B2) hb3; have q0 := k_g.cell (i := 0) rfl; have e0 := k_f.cell (i := 0) rfl; have m0 := k_f.frozen 0; have q1 := k_g.cell (i := 1) rfl; have e1 := k_f.cell (i := 1) rfl; have m1 := k_f.frozen 1; have q2 := k_g.cell (i := 2) rfl; have e2 := k_f.cell (i := 2) rfl; have m2 := k_f.frozen 2; have q3 := k_g.cell (i := 3) rfl; have e3 := k_f.cell (i := 3) rfl; have m3 := k_f.frozen 3; have q4 := k_g.cell (i := 4) rfl; have e4 := k_f.cell (i := 4) rfl; have m4 := k_f.frozen 4; have q5 := k_g.cell (i := 5) rfl; have e5 := k_f.cell (i := 5) rfl; have m5 := k_f.frozen 5; have q6 := k_g.cell (i := 6) rfl; have e6 := k_f.cell (i := 6) rfl; have m6 := k_f.frozen 6; have q7 := k_g.cell (i := 7) rfl; have e7 := k_f.cell (i := 7) rfl; have m7 := k_f.frozen 7; have q8 := k_g.cell (i := 8) rfl; have e8 := k_f.cell (i := 8) rfl; have m8 := k_f.frozen 8; have q9 := k_g.cell (i := 9) rfl; have e9 := k_f.cell (i := 9) rfl; have m9 := k_f.frozen 9; have q10 := k_g.cell (i := 10) rfl; have e10 := k_f.cell (i := 10) rfl; have m10 := k_f.frozen 10; have q11 := k_g.cell (i := 11) rfl; have e11 := k_f.cell (i := 11) rfl; have m11 := k_f.frozen 11; have q12 := k_g.cell (i := 12) rfl; have e12 := k_f.cell (i := 12) rfl; have m12 := k_f.frozen 12; have q13 := k_g.cell (i := 13) rfl; have e13 := k_f.cell (i := 13) rfl; have m13 := k_f.frozen 13; have r0 := k_v.cell (i := 0) rfl; have n0 := k_v.frozen 0; have r1 := k_v.cell (i := 1) rfl; have n1 := k_v.frozen 1; have r2 := k_v.cell (i := 2) rfl; have n2 := k_v.frozen 2; have r3 := k_v.cell (i := 3) rfl; have n3 := k_v.frozen 3; have yf := k_f.lt; have yv := k_v.lt; have yg := k_g.lt))
  all_goals go_wp2
  all_goals refine bodyPost_ret (by simp only [results, Tryd.results15]; go_simp; try rfl) rfl ?_
  all_goals exact ⟨rfl, by go_grown⟩
end Go.Proofs.YtogenbggjodcnaaDoor
