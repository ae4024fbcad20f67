/-
  The sum of two elements.
-/
import Derived.Test.YtfaicnileghjiaaDoorLimbA
import Derived.Test.YtfaicnileghjiaaDoorField
namespace Go.Proofs.YtfaicnileghjiaaDoor
open Go.RowKit

set_option maxRecDepth 100000 in
set_option maxHeartbeats 1000000 in
theorem madd_any (id : Int) (m inv o s a b : Nat) (hm : m < B256) (ha : a < m) (hb : b < m) (w : World) : Calls Tryd.prog 41 #[fld id m inv o s, vec a, vec b] w (Ret (vec (addm m a b)) w) := by
  go_enter Tryd.func41, Tryd.ntmps41
  go_wp2_with fail
  refine (ladd_any a b (by omega) (by omega) _).mono ?_
  rintro e w1 ⟨rfl, hb1⟩
  have h_f : Blk w1 (w.heap.size) 28 [.int .i64 id, .int .u64 (limb m 0 : Int), .int .u64 (limb m 1 : Int), .int .u64 (limb m 2 : Int), .int .u64 (limb m 3 : Int), .int .u64 (inv : Int), .int .u64 (limb o 0 : Int), .int .u64 (limb o 1 : Int), .int .u64 (limb o 2 : Int), .int .u64 (limb o 3 : Int), .int .u64 (limb s 0 : Int), .int .u64 (limb s 1 : Int), .int .u64 (limb s 2 : Int), .int .u64 (limb s 3 : Int)] := Blk.keep (Blk.alloc (Blk.alloc (Blk.alloc (Blk.new (by simp)) _) _) _) hb1
  have h_a : Blk w1 (w.heap.size + 1) 26 [.int .u64 (limb a 0 : Int), .int .u64 (limb a 1 : Int), .int .u64 (limb a 2 : Int), .int .u64 (limb a 3 : Int)] := Blk.keep (Blk.alloc (Blk.alloc (Blk.new (by simp)) _) _) hb1
  have h_b : Blk w1 (w.heap.size + 1 + 1) 26 [.int .u64 (limb b 0 : Int), .int .u64 (limb b 1 : Int), .int .u64 (limb b 2 : Int), .int .u64 (limb b 3 : Int)] := Blk.keep (Blk.alloc (Blk.new (by simp)) _) hb1
  have h_r : Blk w1 (w.heap.size + 1 + 1 + 1) 26 [.int .u64 0, .int .u64 0, .int .u64 0, .int .u64 0] := Blk.keep (Blk.new (by simp)) hb1
  have B1 : Below w.heap.size w w1 := Below.call (by go_grown) hb1
  have zB1 := B1.size
  have z_f := h_f.lt
  have z_a := h_a.lt
  have z_b := h_b.lt
  have z_r := h_r.lt
  go_wp2_with fail
  refine (subtract_any m (sum a b) (cry a b) hm (sum_lt _ _) (by have := cry_le (show a < B256 by omega) (show b < B256 by omega); unfold B64; omega) _).mono ?_
  rintro e w2 ⟨rfl, hb2⟩
  clear z_f z_a z_b z_r
  replace h_f := Blk.keep (Blk.alloc (h_f) _) hb2
  replace h_a := Blk.keep (Blk.alloc (h_a) _) hb2
  replace h_b := Blk.keep (Blk.alloc (h_b) _) hb2
  replace h_r := Blk.keep (Blk.alloc (h_r) _) hb2
  have h_s : Blk w2 (w1.heap.size) 24 [.int .u64 (limb (sum a b) 0 : Int), .int .u64 (limb (sum a b) 1 : Int), .int .u64 (limb (sum a b) 2 : Int), .int .u64 (limb (sum a b) 3 : Int)] := Blk.keep (Blk.new (by simp)) hb2
  have B2 : Below w.heap.size w w2 := Below.call (by go_grown) hb2
  have zB2 := B2.size
  rw [red_sum hm ha hb]
  have z_f := h_f.lt
  have z_a := h_a.lt
  have z_b := h_b.lt
  have z_r := h_r.lt
  have c_r0 := h_r.cell (i := 0) rfl
  have c_r1 := h_r.cell (i := 1) rfl
  have c_r2 := h_r.cell (i := 2) rfl
  have c_r3 := h_r.cell (i := 3) rfl
  have f_r0 := h_r.frozen 0
  have f_r1 := h_r.frozen 1
  have f_r2 := h_r.frozen 2
  have f_r3 := h_r.frozen 3
  have z_s := h_s.lt
  go_wp2
  refine bodyPost_ret (by simp only [results, Tryd.results41]; go_simp; try rfl) rfl ?_
  exact ⟨rfl, by go_grown⟩
end Go.Proofs.YtfaicnileghjiaaDoor
