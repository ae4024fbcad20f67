/-
  The reference of layer 4: Subtract, Add, Sub, Mul and what is built of them.
-/
import Derived.Test.YtfaicnileghjiaaDoorRef4
namespace Go.Proofs.YtfaicnileghjiaaDoor
open Go.RowKit

set_option maxHeartbeats 1000000 in
theorem rsubtract_any (m a c : Nat) (hm : m < B256) (ha : a < B256) (w : World) :
    Calls Tryd.prog 50 #[vec m, vec a, .int .u64 (c : Int)] w (Ret (vec (red m a c)) w) := by
  by_cases g1 : c % 2 = 0
  · by_cases g2 : a < m
    · have d1 : ((c : Int) % 2 == 0) = true := by simp; omega
      have d2 : ((brw a m : Int) == 1) = true := by simp [brw_eq, g2]
      go_enter Tryd.func50, Tryd.ntmps50
      go_wp2_with fail
      refine (rsub_any a m ha hm _).mono ?_
      rintro e w1 ⟨rfl, hb1⟩
      have h_m : Blk w1 (w.heap.size) 24 [.int .u64 (limb m 0 : Int), .int .u64 (limb m 1 : Int), .int .u64 (limb m 2 : Int), .int .u64 (limb m 3 : Int)] := Blk.keep (Blk.alloc (Blk.alloc (Blk.new (by simp)) _) _) hb1
      have h_a : Blk w1 (w.heap.size + 1) 24 [.int .u64 (limb a 0 : Int), .int .u64 (limb a 1 : Int), .int .u64 (limb a 2 : Int), .int .u64 (limb a 3 : Int)] := Blk.keep (Blk.alloc (Blk.new (by simp)) _) hb1
      have h_r : Blk w1 (w.heap.size + 1 + 1) 24 [.int .u64 0, .int .u64 0, .int .u64 0, .int .u64 0] := Blk.keep (Blk.new (by simp)) hb1
      have B1 : Below w.heap.size w w1 := Below.call (by go_grown) hb1
      have zB1 := B1.size
      have z_m := h_m.lt
      have z_a := h_a.lt
      have c_a0 := h_a.cell (i := 0) rfl
      have c_a1 := h_a.cell (i := 1) rfl
      have c_a2 := h_a.cell (i := 2) rfl
      have c_a3 := h_a.cell (i := 3) rfl
      have z_r := h_r.lt
      have c_r0 := h_r.cell (i := 0) rfl
      have c_r1 := h_r.cell (i := 1) rfl
      have c_r2 := h_r.cell (i := 2) rfl
      have c_r3 := h_r.cell (i := 3) rfl
      have f_r0 := h_r.frozen 0
      have f_r1 := h_r.frozen 1
      have f_r2 := h_r.frozen 2
      have f_r3 := h_r.frozen 3
      go_wp2
      refine bodyPost_ret (by simp only [results, Tryd.results50]; go_simp; try rfl) rfl ?_
      exact ⟨by rw [red_eq, if_pos ⟨g1, g2⟩], by go_grown⟩
    · have d1 : ((c : Int) % 2 == 0) = true := by simp; omega
      have d2 : ((brw a m : Int) == 1) = false := by simp [brw_eq, g2]
      go_enter Tryd.func50, Tryd.ntmps50
      go_wp2_with fail
      refine (rsub_any a m ha hm _).mono ?_
      rintro e w1 ⟨rfl, hb1⟩
      have h_m : Blk w1 (w.heap.size) 24 [.int .u64 (limb m 0 : Int), .int .u64 (limb m 1 : Int), .int .u64 (limb m 2 : Int), .int .u64 (limb m 3 : Int)] := Blk.keep (Blk.alloc (Blk.alloc (Blk.new (by simp)) _) _) hb1
      have h_a : Blk w1 (w.heap.size + 1) 24 [.int .u64 (limb a 0 : Int), .int .u64 (limb a 1 : Int), .int .u64 (limb a 2 : Int), .int .u64 (limb a 3 : Int)] := Blk.keep (Blk.alloc (Blk.new (by simp)) _) hb1
      have h_r : Blk w1 (w.heap.size + 1 + 1) 24 [.int .u64 0, .int .u64 0, .int .u64 0, .int .u64 0] := Blk.keep (Blk.new (by simp)) hb1
      have B1 : Below w.heap.size w w1 := Below.call (by go_grown) hb1
      have zB1 := B1.size
      have z_m := h_m.lt
      have z_a := h_a.lt
      have c_a0 := h_a.cell (i := 0) rfl
      have c_a1 := h_a.cell (i := 1) rfl
      have c_a2 := h_a.cell (i := 2) rfl
      have c_a3 := h_a.cell (i := 3) rfl
      have z_r := h_r.lt
      have c_r0 := h_r.cell (i := 0) rfl
      have c_r1 := h_r.cell (i := 1) rfl
      have c_r2 := h_r.cell (i := 2) rfl
      have c_r3 := h_r.cell (i := 3) rfl
      have f_r0 := h_r.frozen 0
      have f_r1 := h_r.frozen 1
      have f_r2 := h_r.frozen 2
      have f_r3 := h_r.frozen 3
      go_wp2
      refine bodyPost_ret (by simp only [results, Tryd.results50]; go_simp; try rfl) rfl ?_
      exact ⟨by rw [red_eq, if_neg (fun h => g2 h.2)], by go_grown⟩
  · have d1 : ((c : Int) % 2 == 0) = false := by simp; omega
    go_enter Tryd.func50, Tryd.ntmps50
    go_wp2_with fail
    refine (rsub_any a m ha hm _).mono ?_
    rintro e w1 ⟨rfl, hb1⟩
    have h_m : Blk w1 (w.heap.size) 24 [.int .u64 (limb m 0 : Int), .int .u64 (limb m 1 : Int), .int .u64 (limb m 2 : Int), .int .u64 (limb m 3 : Int)] := Blk.keep (Blk.alloc (Blk.alloc (Blk.new (by simp)) _) _) hb1
    have h_a : Blk w1 (w.heap.size + 1) 24 [.int .u64 (limb a 0 : Int), .int .u64 (limb a 1 : Int), .int .u64 (limb a 2 : Int), .int .u64 (limb a 3 : Int)] := Blk.keep (Blk.alloc (Blk.new (by simp)) _) hb1
    have h_r : Blk w1 (w.heap.size + 1 + 1) 24 [.int .u64 0, .int .u64 0, .int .u64 0, .int .u64 0] := Blk.keep (Blk.new (by simp)) hb1
    have B1 : Below w.heap.size w w1 := Below.call (by go_grown) hb1
    have zB1 := B1.size
    have z_m := h_m.lt
    have z_a := h_a.lt
    have c_a0 := h_a.cell (i := 0) rfl
    have c_a1 := h_a.cell (i := 1) rfl
    have c_a2 := h_a.cell (i := 2) rfl
    have c_a3 := h_a.cell (i := 3) rfl
    have z_r := h_r.lt
    have c_r0 := h_r.cell (i := 0) rfl
    have c_r1 := h_r.cell (i := 1) rfl
    have c_r2 := h_r.cell (i := 2) rfl
    have c_r3 := h_r.cell (i := 3) rfl
    have f_r0 := h_r.frozen 0
    have f_r1 := h_r.frozen 1
    have f_r2 := h_r.frozen 2
    have f_r3 := h_r.frozen 3
    go_wp2
    refine bodyPost_ret (by simp only [results, Tryd.results50]; go_simp; try rfl) rfl ?_
    exact ⟨by rw [red_eq, if_neg (fun h => g1 h.1)], by go_grown⟩

set_option maxHeartbeats 1000000 in
theorem radd_any (p a b : Nat) (hp : p < B256) (ha : a < p) (hb : b < p) (w : World) :
    Calls Tryd.prog 26 #[vec p, vec a, vec b] w (Ret (vec (addm p a b)) w) := by
  go_enter Tryd.func26, Tryd.ntmps26
  go_wp2_with fail
  refine (rsum_any a b (by omega) (by omega) _).mono ?_
  rintro e w1 ⟨rfl, hb1⟩
  have h_p : Blk w1 (w.heap.size) 24 [.int .u64 (limb p 0 : Int), .int .u64 (limb p 1 : Int), .int .u64 (limb p 2 : Int), .int .u64 (limb p 3 : Int)] := Blk.keep (Blk.alloc (Blk.alloc (Blk.alloc (Blk.new (by simp)) _) _) _) hb1
  have h_a : Blk w1 (w.heap.size + 1) 24 [.int .u64 (limb a 0 : Int), .int .u64 (limb a 1 : Int), .int .u64 (limb a 2 : Int), .int .u64 (limb a 3 : Int)] := Blk.keep (Blk.alloc (Blk.alloc (Blk.new (by simp)) _) _) hb1
  have h_b : Blk w1 (w.heap.size + 1 + 1) 24 [.int .u64 (limb b 0 : Int), .int .u64 (limb b 1 : Int), .int .u64 (limb b 2 : Int), .int .u64 (limb b 3 : Int)] := Blk.keep (Blk.alloc (Blk.new (by simp)) _) hb1
  have h_r : Blk w1 (w.heap.size + 1 + 1 + 1) 24 [.int .u64 0, .int .u64 0, .int .u64 0, .int .u64 0] := Blk.keep (Blk.new (by simp)) hb1
  have B1 : Below w.heap.size w w1 := Below.call (by go_grown) hb1
  have zB1 := B1.size
  have z_p := h_p.lt
  have c_p0 := h_p.cell (i := 0) rfl
  have c_p1 := h_p.cell (i := 1) rfl
  have c_p2 := h_p.cell (i := 2) rfl
  have c_p3 := h_p.cell (i := 3) rfl
  have z_a := h_a.lt
  have z_b := h_b.lt
  have z_r := h_r.lt
  go_wp2_with fail
  refine (rsubtract_any p (sum a b) (cry a b) hp (sum_lt _ _) _).mono ?_
  rintro e w2 ⟨rfl, hb2⟩
  clear z_p c_p0 c_p1 c_p2 c_p3 z_a z_b z_r
  replace h_p := Blk.keep (Blk.alloc (h_p) _) hb2
  replace h_a := Blk.keep (Blk.alloc (h_a) _) hb2
  replace h_b := Blk.keep (Blk.alloc (h_b) _) hb2
  replace h_r := Blk.keep (Blk.alloc (h_r) _) hb2
  have h_s : Blk w2 (w1.heap.size) 24 [.int .u64 (limb (sum a b) 0 : Int), .int .u64 (limb (sum a b) 1 : Int), .int .u64 (limb (sum a b) 2 : Int), .int .u64 (limb (sum a b) 3 : Int)] := Blk.keep (Blk.new (by simp)) hb2
  have B2 : Below w.heap.size w w2 := Below.call (by go_grown) hb2
  have zB2 := B2.size
  rw [red_sum hp ha hb]
  have z_p := h_p.lt
  have z_a := h_a.lt
  have z_b := h_b.lt
  have z_r := h_r.lt
  have c_r0 := h_r.cell (i := 0) rfl
  have c_r1 := h_r.cell (i := 1) rfl
  have c_r2 := h_r.cell (i := 2) rfl
  have c_r3 := h_r.cell (i := 3) rfl
  have f_r0 := h_r.frozen 0
  have f_r1 := h_r.frozen 1
  have f_r2 := h_r.frozen 2
  have f_r3 := h_r.frozen 3
  have z_s := h_s.lt
  go_wp2
  refine bodyPost_ret (by simp only [results, Tryd.results26]; go_simp; try rfl) rfl ?_
  exact ⟨rfl, by go_grown⟩
end Go.Proofs.YtfaicnileghjiaaDoor
