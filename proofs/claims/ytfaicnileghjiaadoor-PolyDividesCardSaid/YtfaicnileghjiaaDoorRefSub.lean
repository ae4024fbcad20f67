/-
  The reference's difference modulo p.
-/
import Derived.Test.YtfaicnileghjiaaDoorRefV
namespace Go.Proofs.YtfaicnileghjiaaDoor
open Go.RowKit

theorem subm_brw {p a b : Nat} (hp : p < B256) (ha : a < p) (hb : b < p) (h : a < b) : sum (dif a b) p = subm p a b := by
  rw [sum_eq, dif_eq, subm_eq]; unfold B256 at *
  rw [Nat.mod_eq_of_lt (a := a + p - b) (by omega), Nat.mod_eq_of_lt (a := a + _ - b) (by omega)]
  rw [show a + 115792089237316195423570985008687907853269984665640564039457584007913129639936 - b + p = a + p - b + 115792089237316195423570985008687907853269984665640564039457584007913129639936 by omega, Nat.add_mod_right, Nat.mod_eq_of_lt (by omega)]
theorem subm_nob {p a b : Nat} (hp : p < B256) (ha : a < p) (hb : b < p) (h : ¬ a < b) : dif a b = subm p a b := by
  rw [dif_eq, subm_eq]; unfold B256 at *
  rw [show a + 115792089237316195423570985008687907853269984665640564039457584007913129639936 - b = a - b + 115792089237316195423570985008687907853269984665640564039457584007913129639936 by omega, Nat.add_mod_right, Nat.mod_eq_of_lt (by omega),
    show a + p - b = a - b + p by omega, Nat.add_mod_right, Nat.mod_eq_of_lt (by omega)]
set_option maxHeartbeats 1000000 in
theorem rsubm_any (p a b : Nat) (hp : p < B256) (ha : a < p) (hb : b < p) (w : World) :
    Calls Tryd.prog 19 #[vec p, vec a, vec b] w (Ret (vec (subm p a b)) w) := by
  by_cases h : a < b
  · have hd : ((brw a b : Int) == 1) = true := by simp [brw_eq, h]
    have BW := hid (Below.refl w.heap.size w)
    go_enter Tryd.func19, Tryd.ntmps19
    go_wp2_with fail
    obtain ⟨v1, hv9⟩ : ∃ v, ((((w.alloc (.cells #[.int .u64 (limb p 0 : Int), .int .u64 (limb p 1 : Int), .int .u64 (limb p 2 : Int), .int .u64 (limb p 3 : Int)] 24)).alloc (.cells #[.int .u64 (limb a 0 : Int), .int .u64 (limb a 1 : Int), .int .u64 (limb a 2 : Int), .int .u64 (limb a 3 : Int)] 24)).alloc (.cells #[.int .u64 (limb b 0 : Int), .int .u64 (limb b 1 : Int), .int .u64 (limb b 2 : Int), .int .u64 (limb b 3 : Int)] 24)).alloc (.cells #[.int .u64 0, .int .u64 0, .int .u64 0, .int .u64 0] 24)) = v := ⟨_, rfl⟩
    have hG9 : Below w.heap.size w v1 := by rw [← hv9]; go_grown
    have X_p : Blk v1 (w.heap.size) 24 [.int .u64 (limb p 0 : Int), .int .u64 (limb p 1 : Int), .int .u64 (limb p 2 : Int), .int .u64 (limb p 3 : Int)] := by rw [← hv9]; exact Blk.alloc (Blk.alloc (Blk.alloc (Blk.new (by simp)) _) _) _
    have X_a : Blk v1 (w.heap.size + 1) 24 [.int .u64 (limb a 0 : Int), .int .u64 (limb a 1 : Int), .int .u64 (limb a 2 : Int), .int .u64 (limb a 3 : Int)] := by rw [← hv9]; exact Blk.alloc (Blk.alloc (Blk.new (by simp)) _) _
    have X_b : Blk v1 (w.heap.size + 1 + 1) 24 [.int .u64 (limb b 0 : Int), .int .u64 (limb b 1 : Int), .int .u64 (limb b 2 : Int), .int .u64 (limb b 3 : Int)] := by rw [← hv9]; exact Blk.alloc (Blk.new (by simp)) _
    have X_r : Blk v1 (w.heap.size + 1 + 1 + 1) 24 [.int .u64 0, .int .u64 0, .int .u64 0, .int .u64 0] := by rw [← hv9]; exact Blk.new (by simp)
    obtain ⟨bp, hb9⟩ : ∃ k, w.heap.size = k := ⟨_, rfl⟩
    rw [hb9] at X_p
    rw [hb9] at X_a
    rw [hb9] at X_b
    rw [hb9] at X_r
    have g_bp : w.heap.size ≤ bp := by rw [← hb9]; exact BW.out.size
    replace BW := hid (BW.out.trans (hG9.mono BW.out.size))
    clear hG9
    rw [hv9]
    try rw [hb9]
    clear hv9 hb9
    refine (rsub_any a b (by omega) (by omega) _).mono ?_
    rintro e v2 ⟨rfl, b9⟩
    replace X_p := X_p.keep b9
    replace X_a := X_a.keep b9
    replace X_b := X_b.keep b9
    replace X_r := X_r.keep b9
    replace BW := hid (BW.out.trans (b9.mono BW.out.size))
    clear b9
    have z_p := X_p.lt
    have c_p0 := X_p.cell (i := 0) rfl
    have c_p1 := X_p.cell (i := 1) rfl
    have c_p2 := X_p.cell (i := 2) rfl
    have c_p3 := X_p.cell (i := 3) rfl
    go_wp2_with fail
    obtain ⟨v3, hv9⟩ : ∃ v, (v2.alloc (.cells #[.int .u64 (limb (dif a b) 0 : Int), .int .u64 (limb (dif a b) 1 : Int), .int .u64 (limb (dif a b) 2 : Int), .int .u64 (limb (dif a b) 3 : Int)] 24)) = v := ⟨_, rfl⟩
    have hG9 : Below v2.heap.size v2 v3 := by rw [← hv9]; go_grown
    have X_d : Blk v3 (v2.heap.size) 24 [.int .u64 (limb (dif a b) 0 : Int), .int .u64 (limb (dif a b) 1 : Int), .int .u64 (limb (dif a b) 2 : Int), .int .u64 (limb (dif a b) 3 : Int)] := by rw [← hv9]; exact Blk.new (by simp)
    obtain ⟨bd, hb9⟩ : ∃ k, v2.heap.size = k := ⟨_, rfl⟩
    rw [hb9] at X_d
    have g_bd : w.heap.size ≤ bd := by rw [← hb9]; exact BW.out.size
    have q_p_bd : bp < bd := by rw [← hb9]; exact X_p.lt
    have q_a_bd : bp + 1 < bd := by rw [← hb9]; exact X_a.lt
    have q_b_bd : bp + 1 + 1 < bd := by rw [← hb9]; exact X_b.lt
    have q_r_bd : bp + 1 + 1 + 1 < bd := by rw [← hb9]; exact X_r.lt
    clear z_p c_p0 c_p1 c_p2 c_p3
    replace X_p := X_p.keep hG9
    replace X_a := X_a.keep hG9
    replace X_b := X_b.keep hG9
    replace X_r := X_r.keep hG9
    replace BW := hid (BW.out.trans (hG9.mono BW.out.size))
    clear hG9
    rw [hv9]
    try rw [hb9]
    clear hv9 hb9
    refine (rsum_any (dif a b) p (dif_lt _ _) hp _).mono ?_
    rintro e v4 ⟨rfl, b9⟩
    replace X_p := X_p.keep b9
    replace X_a := X_a.keep b9
    replace X_b := X_b.keep b9
    replace X_r := X_r.keep b9
    replace X_d := X_d.keep b9
    replace BW := hid (BW.out.trans (b9.mono BW.out.size))
    clear b9
    have z_r := X_r.lt
    have c_r0 := X_r.cell (i := 0) rfl
    have f_r0 := X_r.frozen 0
    have c_r1 := X_r.cell (i := 1) rfl
    have f_r1 := X_r.frozen 1
    have c_r2 := X_r.cell (i := 2) rfl
    have f_r2 := X_r.frozen 2
    have c_r3 := X_r.cell (i := 3) rfl
    have f_r3 := X_r.frozen 3
    have z_d := X_d.lt
    have c_d0 := X_d.cell (i := 0) rfl
    have f_d0 := X_d.frozen 0
    have c_d1 := X_d.cell (i := 1) rfl
    have f_d1 := X_d.frozen 1
    have c_d2 := X_d.cell (i := 2) rfl
    have f_d2 := X_d.frozen 2
    have c_d3 := X_d.cell (i := 3) rfl
    have f_d3 := X_d.frozen 3
    have n_rd : ¬ (bp + 1 + 1 + 1 = bd) := by omega
    have n_dr : ¬ (bd = bp + 1 + 1 + 1) := by omega
    go_wp2
    refine bodyPost_ret (by simp only [results, Tryd.results19]; go_simp; try rfl) rfl ?_
    exact ⟨by rw [subm_brw hp ha hb h], by have := BW.out; have := BW.out.size; go_grown; all_goals (simp; try omega)⟩
  · have hd : ((brw a b : Int) == 1) = false := by simp [brw_eq, h]
    have BW := hid (Below.refl w.heap.size w)
    go_enter Tryd.func19, Tryd.ntmps19
    go_wp2_with fail
    obtain ⟨v1, hv9⟩ : ∃ v, ((((w.alloc (.cells #[.int .u64 (limb p 0 : Int), .int .u64 (limb p 1 : Int), .int .u64 (limb p 2 : Int), .int .u64 (limb p 3 : Int)] 24)).alloc (.cells #[.int .u64 (limb a 0 : Int), .int .u64 (limb a 1 : Int), .int .u64 (limb a 2 : Int), .int .u64 (limb a 3 : Int)] 24)).alloc (.cells #[.int .u64 (limb b 0 : Int), .int .u64 (limb b 1 : Int), .int .u64 (limb b 2 : Int), .int .u64 (limb b 3 : Int)] 24)).alloc (.cells #[.int .u64 0, .int .u64 0, .int .u64 0, .int .u64 0] 24)) = v := ⟨_, rfl⟩
    have hG9 : Below w.heap.size w v1 := by rw [← hv9]; go_grown
    have X_p : Blk v1 (w.heap.size) 24 [.int .u64 (limb p 0 : Int), .int .u64 (limb p 1 : Int), .int .u64 (limb p 2 : Int), .int .u64 (limb p 3 : Int)] := by rw [← hv9]; exact Blk.alloc (Blk.alloc (Blk.alloc (Blk.new (by simp)) _) _) _
    have X_a : Blk v1 (w.heap.size + 1) 24 [.int .u64 (limb a 0 : Int), .int .u64 (limb a 1 : Int), .int .u64 (limb a 2 : Int), .int .u64 (limb a 3 : Int)] := by rw [← hv9]; exact Blk.alloc (Blk.alloc (Blk.new (by simp)) _) _
    have X_b : Blk v1 (w.heap.size + 1 + 1) 24 [.int .u64 (limb b 0 : Int), .int .u64 (limb b 1 : Int), .int .u64 (limb b 2 : Int), .int .u64 (limb b 3 : Int)] := by rw [← hv9]; exact Blk.alloc (Blk.new (by simp)) _
    have X_r : Blk v1 (w.heap.size + 1 + 1 + 1) 24 [.int .u64 0, .int .u64 0, .int .u64 0, .int .u64 0] := by rw [← hv9]; exact Blk.new (by simp)
    obtain ⟨bp, hb9⟩ : ∃ k, w.heap.size = k := ⟨_, rfl⟩
    rw [hb9] at X_p
    rw [hb9] at X_a
    rw [hb9] at X_b
    rw [hb9] at X_r
    have g_bp : w.heap.size ≤ bp := by rw [← hb9]; exact BW.out.size
    replace BW := hid (BW.out.trans (hG9.mono BW.out.size))
    clear hG9
    rw [hv9]
    try rw [hb9]
    clear hv9 hb9
    refine (rsub_any a b (by omega) (by omega) _).mono ?_
    rintro e v2 ⟨rfl, b9⟩
    replace X_p := X_p.keep b9
    replace X_a := X_a.keep b9
    replace X_b := X_b.keep b9
    replace X_r := X_r.keep b9
    replace BW := hid (BW.out.trans (b9.mono BW.out.size))
    clear b9
    have z_r := X_r.lt
    have c_r0 := X_r.cell (i := 0) rfl
    have f_r0 := X_r.frozen 0
    have c_r1 := X_r.cell (i := 1) rfl
    have f_r1 := X_r.frozen 1
    have c_r2 := X_r.cell (i := 2) rfl
    have f_r2 := X_r.frozen 2
    have c_r3 := X_r.cell (i := 3) rfl
    have f_r3 := X_r.frozen 3
    go_wp2
    refine bodyPost_ret (by simp only [results, Tryd.results19]; go_simp; try rfl) rfl ?_
    exact ⟨by rw [subm_nob hp ha hb h], by have := BW.out; have := BW.out.size; go_grown; all_goals (simp; try omega)⟩
end Go.Proofs.YtfaicnileghjiaaDoor
