/-
  The reference of layer 4: the product by doubling and adding, and what is built of it.
-/
import Derived.Test.YtfaicnileghjiaaDoorRef4b
import Derived.Test.YtfaicnileghjiaaDoorRef3bit
namespace Go.Proofs.YtfaicnileghjiaaDoor
open Go.RowKit

set_option maxHeartbeats 2000000 in
theorem rmul_any (p a b : Nat) (hp : p < B256) (ha : a < p) (hb : b < B256) (w : World) :
    Calls Tryd.prog 21 #[vec p, vec a, vec b] w (Ret (vec (mulm p a b)) w) := by
  have z0 : (0 : Int) = (limb (mulm p a (top b 256)) 0 : Int) := by rw [top_256 hb, mulm_zero, limb0]; rfl
  have z1 : (0 : Int) = (limb (mulm p a (top b 256)) 1 : Int) := by rw [top_256 hb, mulm_zero, limb1]; rfl
  have z2 : (0 : Int) = (limb (mulm p a (top b 256)) 2 : Int) := by rw [top_256 hb, mulm_zero, limb2]; rfl
  have z3 : (0 : Int) = (limb (mulm p a (top b 256)) 3 : Int) := by rw [top_256 hb, mulm_zero, limb3]; rfl
  have Z0 := hid z0
  have Z1 := hid z1
  have Z2 := hid z2
  have Z3 := hid z3
  clear z0 z1 z2 z3
  go_enter Tryd.func21, Tryd.ntmps21
  go_wp2
  go_loopw [8] (fun i wr => ∃ k : Nat, k ≤ 256 ∧ i = .int .i64 ((k : Int) - 1) ∧ Below w.heap.size w wr ∧
      Blk wr (w.heap.size) 24 [.int .u64 (limb p 0 : Int), .int .u64 (limb p 1 : Int), .int .u64 (limb p 2 : Int), .int .u64 (limb p 3 : Int)] ∧ Blk wr (w.heap.size + 1) 24 [.int .u64 (limb a 0 : Int), .int .u64 (limb a 1 : Int), .int .u64 (limb a 2 : Int), .int .u64 (limb a 3 : Int)] ∧ Blk wr (w.heap.size + 1 + 1) 24 [.int .u64 (limb b 0 : Int), .int .u64 (limb b 1 : Int), .int .u64 (limb b 2 : Int), .int .u64 (limb b 3 : Int)] ∧ Blk wr (w.heap.size + 1 + 1 + 1) 24 [.int .u64 0, .int .u64 0, .int .u64 0, .int .u64 0] ∧ Blk wr (w.heap.size + 1 + 1 + 1 + 1) 24 [.int .u64 (limb (mulm p a (top b k)) 0 : Int), .int .u64 (limb (mulm p a (top b k)) 1 : Int), .int .u64 (limb (mulm p a (top b k)) 2 : Int), .int .u64 (limb (mulm p a (top b k)) 3 : Int)])
    (fun i _ => (intOf i + 1).toNat)
  case atStart => exact ⟨256, by omega, rfl, by go_grown, Blk.alloc (Blk.alloc (Blk.alloc (Blk.alloc (Blk.new (by simp)) _) _) _) _, Blk.alloc (Blk.alloc (Blk.alloc (Blk.new (by simp)) _) _) _, Blk.alloc (Blk.alloc (Blk.new (by simp)) _) _, Blk.alloc (Blk.new (by simp)) _, by rw [← Z0.out, ← Z1.out, ← Z2.out, ← Z3.out]; exact Blk.new (by simp)⟩
  case round =>
    obtain ⟨k, hk, rfl, hB, h_p, h_a, h_b, h_r, h_o⟩ := hrel
    clear Z0 Z1 Z2 Z3
    have zB := hB.size
    cases k with
    | zero =>
      have e0 := top_zero b
      rw [e0] at h_o
      clear e0
      have z_p := h_p.lt
      have z_a := h_a.lt
      have z_b := h_b.lt
      have z_r := h_r.lt
      have c_r0 := h_r.cell (i := 0) rfl
      have c_r1 := h_r.cell (i := 1) rfl
      have c_r2 := h_r.cell (i := 2) rfl
      have c_r3 := h_r.cell (i := 3) rfl
      have f_r0 := h_r.frozen 0
      have f_r1 := h_r.frozen 1
      have f_r2 := h_r.frozen 2
      have f_r3 := h_r.frozen 3
      have z_o := h_o.lt
      have c_o0 := h_o.cell (i := 0) rfl
      have c_o1 := h_o.cell (i := 1) rfl
      have c_o2 := h_o.cell (i := 2) rfl
      have c_o3 := h_o.cell (i := 3) rfl
      go_wp2
      refine bodyPost_ret (by simp only [results, Tryd.results21]; go_simp; try rfl) rfl ?_
      exact ⟨rfl, by go_grown⟩
    | succ k =>
      have hk2 : ((k + 1 : Nat) : Int) - 1 = (k : Int) := by omega
      rw [hk2]
      clear hk2
      by_cases g : bit b k = 1
      · have d1 : ((bit b k : Int) == 1) = true := by simp [g]
        have G := hid g
        clear g
        have B0 : Below w.heap.size w wr := hB
        have z_p := h_p.lt
        have c_p0 := h_p.cell (i := 0) rfl
        have c_p1 := h_p.cell (i := 1) rfl
        have c_p2 := h_p.cell (i := 2) rfl
        have c_p3 := h_p.cell (i := 3) rfl
        have z_a := h_a.lt
        have z_b := h_b.lt
        have z_r := h_r.lt
        have z_o := h_o.lt
        have c_o0 := h_o.cell (i := 0) rfl
        have c_o1 := h_o.cell (i := 1) rfl
        have c_o2 := h_o.cell (i := 2) rfl
        have c_o3 := h_o.cell (i := 3) rfl
        go_wp2_with fail
        refine (radd_any p (mulm p a (top b (k + 1))) (mulm p a (top b (k + 1))) hp (mulm_lt _ _ (by omega)) (mulm_lt _ _ (by omega)) _).mono ?_
        rintro e w1 ⟨rfl, hb1⟩
        clear z_p c_p0 c_p1 c_p2 c_p3 z_a z_b z_r z_o c_o0 c_o1 c_o2 c_o3
        replace h_p := Blk.keep (h_p) hb1
        replace h_a := Blk.keep (h_a) hb1
        replace h_b := Blk.keep (h_b) hb1
        replace h_r := Blk.keep (h_r) hb1
        replace h_o := Blk.keep (h_o) hb1
        have B1 : Below w.heap.size w w1 := Below.call (by go_grown) hb1
        have zB1 := B1.size
        have z_p := h_p.lt
        have z_a := h_a.lt
        have z_b := h_b.lt
        have c_b0 := h_b.cell (i := 0) rfl
        have c_b1 := h_b.cell (i := 1) rfl
        have c_b2 := h_b.cell (i := 2) rfl
        have c_b3 := h_b.cell (i := 3) rfl
        have z_r := h_r.lt
        have z_o := h_o.lt
        have c_o0 := h_o.cell (i := 0) rfl
        have c_o1 := h_o.cell (i := 1) rfl
        have c_o2 := h_o.cell (i := 2) rfl
        have c_o3 := h_o.cell (i := 3) rfl
        have f_o0 := h_o.frozen 0
        have f_o1 := h_o.frozen 1
        have f_o2 := h_o.frozen 2
        have f_o3 := h_o.frozen 3
        go_wp2_with fail
        have h_p := h_p.other4 (c := w.heap.size + 1 + 1 + 1 + 1) (by omega) (.int .u64 (limb (addm p (mulm p a (top b (k + 1))) (mulm p a (top b (k + 1)))) 0 : Int)) (.int .u64 (limb (addm p (mulm p a (top b (k + 1))) (mulm p a (top b (k + 1)))) 1 : Int)) (.int .u64 (limb (addm p (mulm p a (top b (k + 1))) (mulm p a (top b (k + 1)))) 2 : Int)) (.int .u64 (limb (addm p (mulm p a (top b (k + 1))) (mulm p a (top b (k + 1)))) 3 : Int))
        have h_a := h_a.other4 (c := w.heap.size + 1 + 1 + 1 + 1) (by omega) (.int .u64 (limb (addm p (mulm p a (top b (k + 1))) (mulm p a (top b (k + 1)))) 0 : Int)) (.int .u64 (limb (addm p (mulm p a (top b (k + 1))) (mulm p a (top b (k + 1)))) 1 : Int)) (.int .u64 (limb (addm p (mulm p a (top b (k + 1))) (mulm p a (top b (k + 1)))) 2 : Int)) (.int .u64 (limb (addm p (mulm p a (top b (k + 1))) (mulm p a (top b (k + 1)))) 3 : Int))
        have h_b := h_b.other4 (c := w.heap.size + 1 + 1 + 1 + 1) (by omega) (.int .u64 (limb (addm p (mulm p a (top b (k + 1))) (mulm p a (top b (k + 1)))) 0 : Int)) (.int .u64 (limb (addm p (mulm p a (top b (k + 1))) (mulm p a (top b (k + 1)))) 1 : Int)) (.int .u64 (limb (addm p (mulm p a (top b (k + 1))) (mulm p a (top b (k + 1)))) 2 : Int)) (.int .u64 (limb (addm p (mulm p a (top b (k + 1))) (mulm p a (top b (k + 1)))) 3 : Int))
        have h_r := h_r.other4 (c := w.heap.size + 1 + 1 + 1 + 1) (by omega) (.int .u64 (limb (addm p (mulm p a (top b (k + 1))) (mulm p a (top b (k + 1)))) 0 : Int)) (.int .u64 (limb (addm p (mulm p a (top b (k + 1))) (mulm p a (top b (k + 1)))) 1 : Int)) (.int .u64 (limb (addm p (mulm p a (top b (k + 1))) (mulm p a (top b (k + 1)))) 2 : Int)) (.int .u64 (limb (addm p (mulm p a (top b (k + 1))) (mulm p a (top b (k + 1)))) 3 : Int))
        have h_o := h_o.set4 (.int .u64 (limb (addm p (mulm p a (top b (k + 1))) (mulm p a (top b (k + 1)))) 0 : Int)) (.int .u64 (limb (addm p (mulm p a (top b (k + 1))) (mulm p a (top b (k + 1)))) 1 : Int)) (.int .u64 (limb (addm p (mulm p a (top b (k + 1))) (mulm p a (top b (k + 1)))) 2 : Int)) (.int .u64 (limb (addm p (mulm p a (top b (k + 1))) (mulm p a (top b (k + 1)))) 3 : Int))
        refine (rbit_low b k (by omega) _).mono ?_
        rintro e w2 ⟨rfl, hb2⟩
        clear z_p z_a z_b c_b0 c_b1 c_b2 c_b3 z_r z_o c_o0 c_o1 c_o2 c_o3 f_o0 f_o1 f_o2 f_o3
        replace h_p := Blk.keep (h_p) hb2
        replace h_a := Blk.keep (h_a) hb2
        replace h_b := Blk.keep (h_b) hb2
        replace h_r := Blk.keep (h_r) hb2
        replace h_o := Blk.keep (h_o) hb2
        have B2 : Below w.heap.size w w2 := Below.call (by go_grown) hb2
        have zB2 := B2.size
        have z_p := h_p.lt
        have c_p0 := h_p.cell (i := 0) rfl
        have c_p1 := h_p.cell (i := 1) rfl
        have c_p2 := h_p.cell (i := 2) rfl
        have c_p3 := h_p.cell (i := 3) rfl
        have z_a := h_a.lt
        have c_a0 := h_a.cell (i := 0) rfl
        have c_a1 := h_a.cell (i := 1) rfl
        have c_a2 := h_a.cell (i := 2) rfl
        have c_a3 := h_a.cell (i := 3) rfl
        have z_b := h_b.lt
        have z_r := h_r.lt
        have z_o := h_o.lt
        have c_o0 := h_o.cell (i := 0) rfl
        have c_o1 := h_o.cell (i := 1) rfl
        have c_o2 := h_o.cell (i := 2) rfl
        have c_o3 := h_o.cell (i := 3) rfl
        go_wp2_with fail
        refine (radd_any p (addm p (mulm p a (top b (k + 1))) (mulm p a (top b (k + 1)))) a hp (addm_lt _ _ (by omega)) ha _).mono ?_
        rintro e w3 ⟨rfl, hb3⟩
        clear z_p c_p0 c_p1 c_p2 c_p3 z_a c_a0 c_a1 c_a2 c_a3 z_b z_r z_o c_o0 c_o1 c_o2 c_o3
        replace h_p := Blk.keep (h_p) hb3
        replace h_a := Blk.keep (h_a) hb3
        replace h_b := Blk.keep (h_b) hb3
        replace h_r := Blk.keep (h_r) hb3
        replace h_o := Blk.keep (h_o) hb3
        have B3 : Below w.heap.size w w3 := Below.call (by go_grown) hb3
        have zB3 := B3.size
        rw [top_bit1 p a b k ha G.out]
        have z_p := h_p.lt
        have z_a := h_a.lt
        have z_b := h_b.lt
        have z_r := h_r.lt
        have z_o := h_o.lt
        have c_o0 := h_o.cell (i := 0) rfl
        have c_o1 := h_o.cell (i := 1) rfl
        have c_o2 := h_o.cell (i := 2) rfl
        have c_o3 := h_o.cell (i := 3) rfl
        have f_o0 := h_o.frozen 0
        have f_o1 := h_o.frozen 1
        have f_o2 := h_o.frozen 2
        have f_o3 := h_o.frozen 3
        go_wp2
        have h_p := h_p.other4 (c := w.heap.size + 1 + 1 + 1 + 1) (by omega) (.int .u64 (limb (mulm p a (top b k)) 0 : Int)) (.int .u64 (limb (mulm p a (top b k)) 1 : Int)) (.int .u64 (limb (mulm p a (top b k)) 2 : Int)) (.int .u64 (limb (mulm p a (top b k)) 3 : Int))
        have h_a := h_a.other4 (c := w.heap.size + 1 + 1 + 1 + 1) (by omega) (.int .u64 (limb (mulm p a (top b k)) 0 : Int)) (.int .u64 (limb (mulm p a (top b k)) 1 : Int)) (.int .u64 (limb (mulm p a (top b k)) 2 : Int)) (.int .u64 (limb (mulm p a (top b k)) 3 : Int))
        have h_b := h_b.other4 (c := w.heap.size + 1 + 1 + 1 + 1) (by omega) (.int .u64 (limb (mulm p a (top b k)) 0 : Int)) (.int .u64 (limb (mulm p a (top b k)) 1 : Int)) (.int .u64 (limb (mulm p a (top b k)) 2 : Int)) (.int .u64 (limb (mulm p a (top b k)) 3 : Int))
        have h_r := h_r.other4 (c := w.heap.size + 1 + 1 + 1 + 1) (by omega) (.int .u64 (limb (mulm p a (top b k)) 0 : Int)) (.int .u64 (limb (mulm p a (top b k)) 1 : Int)) (.int .u64 (limb (mulm p a (top b k)) 2 : Int)) (.int .u64 (limb (mulm p a (top b k)) 3 : Int))
        have h_o := h_o.set4 (.int .u64 (limb (mulm p a (top b k)) 0 : Int)) (.int .u64 (limb (mulm p a (top b k)) 1 : Int)) (.int .u64 (limb (mulm p a (top b k)) 2 : Int)) (.int .u64 (limb (mulm p a (top b k)) 3 : Int))
        go_roundw
        case rel => exact ⟨k, by omega, by go_num, by go_grown, h_p, h_a, h_b, h_r, h_o⟩
        case measure => simp [intOf] <;> omega
      · have d1 : ((bit b k : Int) == 1) = false := by simp; omega
        have g0 : bit b k = 0 := by have := bit_le b k; omega
        have G := hid g
        have G0 := hid g0
        clear g g0
        have B0 : Below w.heap.size w wr := hB
        have z_p := h_p.lt
        have c_p0 := h_p.cell (i := 0) rfl
        have c_p1 := h_p.cell (i := 1) rfl
        have c_p2 := h_p.cell (i := 2) rfl
        have c_p3 := h_p.cell (i := 3) rfl
        have z_a := h_a.lt
        have z_b := h_b.lt
        have z_r := h_r.lt
        have z_o := h_o.lt
        have c_o0 := h_o.cell (i := 0) rfl
        have c_o1 := h_o.cell (i := 1) rfl
        have c_o2 := h_o.cell (i := 2) rfl
        have c_o3 := h_o.cell (i := 3) rfl
        go_wp2_with fail
        refine (radd_any p (mulm p a (top b (k + 1))) (mulm p a (top b (k + 1))) hp (mulm_lt _ _ (by omega)) (mulm_lt _ _ (by omega)) _).mono ?_
        rintro e w1 ⟨rfl, hb1⟩
        clear z_p c_p0 c_p1 c_p2 c_p3 z_a z_b z_r z_o c_o0 c_o1 c_o2 c_o3
        replace h_p := Blk.keep (h_p) hb1
        replace h_a := Blk.keep (h_a) hb1
        replace h_b := Blk.keep (h_b) hb1
        replace h_r := Blk.keep (h_r) hb1
        replace h_o := Blk.keep (h_o) hb1
        have B1 : Below w.heap.size w w1 := Below.call (by go_grown) hb1
        have zB1 := B1.size
        rw [top_bit0 p a b k G0.out]
        have z_p := h_p.lt
        have z_a := h_a.lt
        have z_b := h_b.lt
        have c_b0 := h_b.cell (i := 0) rfl
        have c_b1 := h_b.cell (i := 1) rfl
        have c_b2 := h_b.cell (i := 2) rfl
        have c_b3 := h_b.cell (i := 3) rfl
        have z_r := h_r.lt
        have z_o := h_o.lt
        have c_o0 := h_o.cell (i := 0) rfl
        have c_o1 := h_o.cell (i := 1) rfl
        have c_o2 := h_o.cell (i := 2) rfl
        have c_o3 := h_o.cell (i := 3) rfl
        have f_o0 := h_o.frozen 0
        have f_o1 := h_o.frozen 1
        have f_o2 := h_o.frozen 2
        have f_o3 := h_o.frozen 3
        go_wp2_with fail
        have h_p := h_p.other4 (c := w.heap.size + 1 + 1 + 1 + 1) (by omega) (.int .u64 (limb (mulm p a (top b k)) 0 : Int)) (.int .u64 (limb (mulm p a (top b k)) 1 : Int)) (.int .u64 (limb (mulm p a (top b k)) 2 : Int)) (.int .u64 (limb (mulm p a (top b k)) 3 : Int))
        have h_a := h_a.other4 (c := w.heap.size + 1 + 1 + 1 + 1) (by omega) (.int .u64 (limb (mulm p a (top b k)) 0 : Int)) (.int .u64 (limb (mulm p a (top b k)) 1 : Int)) (.int .u64 (limb (mulm p a (top b k)) 2 : Int)) (.int .u64 (limb (mulm p a (top b k)) 3 : Int))
        have h_b := h_b.other4 (c := w.heap.size + 1 + 1 + 1 + 1) (by omega) (.int .u64 (limb (mulm p a (top b k)) 0 : Int)) (.int .u64 (limb (mulm p a (top b k)) 1 : Int)) (.int .u64 (limb (mulm p a (top b k)) 2 : Int)) (.int .u64 (limb (mulm p a (top b k)) 3 : Int))
        have h_r := h_r.other4 (c := w.heap.size + 1 + 1 + 1 + 1) (by omega) (.int .u64 (limb (mulm p a (top b k)) 0 : Int)) (.int .u64 (limb (mulm p a (top b k)) 1 : Int)) (.int .u64 (limb (mulm p a (top b k)) 2 : Int)) (.int .u64 (limb (mulm p a (top b k)) 3 : Int))
        have h_o := h_o.set4 (.int .u64 (limb (mulm p a (top b k)) 0 : Int)) (.int .u64 (limb (mulm p a (top b k)) 1 : Int)) (.int .u64 (limb (mulm p a (top b k)) 2 : Int)) (.int .u64 (limb (mulm p a (top b k)) 3 : Int))
        refine (rbit_low b k (by omega) _).mono ?_
        rintro e w2 ⟨rfl, hb2⟩
        clear z_p z_a z_b c_b0 c_b1 c_b2 c_b3 z_r z_o c_o0 c_o1 c_o2 c_o3 f_o0 f_o1 f_o2 f_o3
        replace h_p := Blk.keep (h_p) hb2
        replace h_a := Blk.keep (h_a) hb2
        replace h_b := Blk.keep (h_b) hb2
        replace h_r := Blk.keep (h_r) hb2
        replace h_o := Blk.keep (h_o) hb2
        have B2 : Below w.heap.size w w2 := Below.call (by go_grown) hb2
        have zB2 := B2.size
        have z_p := h_p.lt
        have z_a := h_a.lt
        have z_b := h_b.lt
        have z_r := h_r.lt
        have z_o := h_o.lt
        go_wp2
        go_roundw
        case rel => exact ⟨k, by omega, by go_num, by go_grown, h_p, h_a, h_b, h_r, h_o⟩
        case measure => simp [intOf] <;> omega
end Go.Proofs.YtfaicnileghjiaaDoor
