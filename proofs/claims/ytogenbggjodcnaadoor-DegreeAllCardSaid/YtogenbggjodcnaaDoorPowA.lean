/-
  Elements: whether one is zero, the choice of one, squares.
-/
import Derived.Test.YtogenbggjodcnaaDoorIsz
import Derived.Test.YtogenbggjodcnaaDoorLimbs
import Derived.Test.YtogenbggjodcnaaDoorMont
namespace Go.Proofs.YtogenbggjodcnaaDoor
open Go.RowKit

theorem zmk_vec {a : Nat} (ha : a < B256) : zmk (orl [limb a 0, limb a 1, limb a 2, limb a 3]) = zmk a := by
  have h : orl [limb a 0, limb a 1, limb a 2, limb a 3] = 0 ↔ a = 0 := by
    rw [orl_zero]
    constructor
    · intro h
      have e : ∀ i, limb 0 i = 0 := fun i => by rw [limb_eq]; simp
      exact vec_inj ha (by decide) ((h _ (by simp)).trans (e 0).symm) ((h _ (by simp)).trans (e 1).symm) ((h _ (by simp)).trans (e 2).symm) ((h _ (by simp)).trans (e 3).symm)
    · rintro rfl x hx
      have e : ∀ i, limb 0 i = 0 := fun i => by rw [limb_eq]; simp
      rw [e, e, e, e] at hx
      simpa using hx
  rw [zmk_eq, zmk_eq]
  by_cases h0 : a = 0
  · rw [if_pos h0, if_pos (h.2 h0)]
  · rw [if_neg h0, if_neg (fun e => h0 (h.1 e))]
set_option maxHeartbeats 1000000 in
theorem lisz_any (a : Nat) (ha : a < B256) (w : World) : Calls Tryd.prog 146 #[vec a] w (Ret (.int .u64 (zmk a : Int)) w) := by
  have BW := hid (Below.refl w.heap.size w)
  have HI := hid (fun (W : World) (v : Value) (h : WordSl W v [limb a 0, limb a 1, limb a 2, limb a 3]) => isz_any v _ W h (by simp))
  rw [zmk_vec ha] at HI
  go_enter Tryd.func146, Tryd.ntmps146
  go_wp2_with fail
  obtain ⟨v1, hv9⟩ : ∃ v, (w.alloc (.cells #[.int .u64 (limb a 0 : Int), .int .u64 (limb a 1 : Int), .int .u64 (limb a 2 : Int), .int .u64 (limb a 3 : Int)] 28)) = v := ⟨_, rfl⟩
  have hG9 : Below w.heap.size w v1 := by rw [← hv9]; go_grown
  have X_a : Blk v1 (w.heap.size) 28 [.int .u64 (limb a 0 : Int), .int .u64 (limb a 1 : Int), .int .u64 (limb a 2 : Int), .int .u64 (limb a 3 : Int)] := by rw [← hv9]; exact Blk.new (by simp)
  obtain ⟨ba, hb9⟩ : ∃ k, w.heap.size = k := ⟨_, rfl⟩
  rw [hb9] at X_a
  have g_ba : w.heap.size ≤ ba := by rw [← hb9]; exact BW.out.size
  replace BW := hid (BW.out.trans (hG9.mono BW.out.size))
  clear hG9
  rw [hv9]
  try rw [hb9]
  clear hv9 hb9
  refine (HI.out _ _ ⟨_, _, rfl, by simp, .inr ⟨_, _, rfl, fun j x hx => ?_⟩⟩).mono ?_
  · match j, hx with
    | 0, hx => cases hx; exact ⟨limb_lt _ _, X_a.cell (i := 0) rfl⟩
    | 1, hx => cases hx; exact ⟨limb_lt _ _, X_a.cell (i := 1) rfl⟩
    | 2, hx => cases hx; exact ⟨limb_lt _ _, X_a.cell (i := 2) rfl⟩
    | 3, hx => cases hx; exact ⟨limb_lt _ _, X_a.cell (i := 3) rfl⟩
  rintro e w' ⟨rfl, rfl⟩
  go_wp2
  go_ret
  exact ⟨rfl, BW.out⟩
set_option maxHeartbeats 1000000 in
theorem misz_any (a : Nat) (ha : a < B256) (w : World) : Calls Tryd.prog 133 #[vec a] w (Ret (.int .u64 (zmk a : Int)) w) := by
  have BW := hid (Below.refl w.heap.size w)
  go_enter Tryd.func133, Tryd.ntmps133
  go_wp2_with fail
  obtain ⟨v1, hv9⟩ : ∃ v, (w.alloc (.cells #[.int .u64 (limb a 0 : Int), .int .u64 (limb a 1 : Int), .int .u64 (limb a 2 : Int), .int .u64 (limb a 3 : Int)] 29)) = v := ⟨_, rfl⟩
  have hG9 : Below w.heap.size w v1 := by rw [← hv9]; go_grown
  have X_a : Blk v1 (w.heap.size) 29 [.int .u64 (limb a 0 : Int), .int .u64 (limb a 1 : Int), .int .u64 (limb a 2 : Int), .int .u64 (limb a 3 : Int)] := by rw [← hv9]; exact Blk.new (by simp)
  obtain ⟨ba, hb9⟩ : ∃ k, w.heap.size = k := ⟨_, rfl⟩
  rw [hb9] at X_a
  have g_ba : w.heap.size ≤ ba := by rw [← hb9]; exact BW.out.size
  replace BW := hid (BW.out.trans (hG9.mono BW.out.size))
  clear hG9
  rw [hv9]
  try rw [hb9]
  clear hv9 hb9
  refine (lisz_any a ha _).mono ?_
  rintro e v2 ⟨rfl, b9⟩
  replace X_a := X_a.keep b9
  replace BW := hid (BW.out.trans (b9.mono BW.out.size))
  clear b9
  go_wp2
  go_ret
  exact ⟨rfl, BW.out⟩
set_option maxHeartbeats 1000000 in
theorem mtake_any (c a b : Nat) (hc : c < B64) (w : World) : Calls Tryd.prog 132 #[.int .u64 (c : Int), vec a, vec b] w (Ret (vec (pick c a b)) w) := by
  have BW := hid (Below.refl w.heap.size w)
  go_enter Tryd.func132, Tryd.ntmps132
  go_wp2_with fail
  obtain ⟨v1, hv9⟩ : ∃ v, (((w.alloc (.cells #[.int .u64 (limb a 0 : Int), .int .u64 (limb a 1 : Int), .int .u64 (limb a 2 : Int), .int .u64 (limb a 3 : Int)] 29)).alloc (.cells #[.int .u64 (limb b 0 : Int), .int .u64 (limb b 1 : Int), .int .u64 (limb b 2 : Int), .int .u64 (limb b 3 : Int)] 29)).alloc (.cells #[.int .u64 0, .int .u64 0, .int .u64 0, .int .u64 0] 29)) = v := ⟨_, rfl⟩
  have hG9 : Below w.heap.size w v1 := by rw [← hv9]; go_grown
  have X_a : Blk v1 (w.heap.size) 29 [.int .u64 (limb a 0 : Int), .int .u64 (limb a 1 : Int), .int .u64 (limb a 2 : Int), .int .u64 (limb a 3 : Int)] := by rw [← hv9]; exact Blk.alloc (Blk.alloc (Blk.new (by simp)) _) _
  have X_b : Blk v1 (w.heap.size + 1) 29 [.int .u64 (limb b 0 : Int), .int .u64 (limb b 1 : Int), .int .u64 (limb b 2 : Int), .int .u64 (limb b 3 : Int)] := by rw [← hv9]; exact Blk.alloc (Blk.new (by simp)) _
  have X_r : Blk v1 (w.heap.size + 1 + 1) 29 [.int .u64 0, .int .u64 0, .int .u64 0, .int .u64 0] := by rw [← hv9]; exact Blk.new (by simp)
  obtain ⟨ba, hb9⟩ : ∃ k, w.heap.size = k := ⟨_, rfl⟩
  rw [hb9] at X_a
  rw [hb9] at X_b
  rw [hb9] at X_r
  have g_ba : w.heap.size ≤ ba := by rw [← hb9]; exact BW.out.size
  replace BW := hid (BW.out.trans (hG9.mono BW.out.size))
  clear hG9
  rw [hv9]
  try rw [hb9]
  clear hv9 hb9
  refine (lchoose_any c a b hc _).mono ?_
  rintro e v2 ⟨rfl, b9⟩
  replace X_a := X_a.keep b9
  replace X_b := X_b.keep b9
  replace X_r := X_r.keep b9
  replace BW := hid (BW.out.trans (b9.mono BW.out.size))
  clear b9
  have z_r := X_r.lt
  have c_r0 := X_r.cell (i := 0) rfl
  have f_r0 := X_r.frozen 0
  have c_r1 := X_r.cell (i := 1) rfl
  have f_r1 := X_r.frozen 1
  have c_r2 := X_r.cell (i := 2) rfl
  have f_r2 := X_r.frozen 2
  have c_r3 := X_r.cell (i := 3) rfl
  have f_r3 := X_r.frozen 3
  go_wp2
  refine bodyPost_ret (by simp only [results, Tryd.results132]; go_simp; try rfl) rfl ?_
  exact ⟨rfl, by have := BW.out; have := BW.out.size; go_grown; all_goals (simp; try omega)⟩
set_option maxHeartbeats 1000000 in
theorem msqr_any (id : Int) (m inv o s a : Nat) (hF : FieldOK m inv) (ha : a < m) (w : World) : Calls Tryd.prog 150 #[fld id m inv o s, vec a] w (Ret (vec (mont m a a)) w) := by
  have BW := hid (Below.refl w.heap.size w)
  go_enter Tryd.func150, Tryd.ntmps150
  go_wp2_with fail
  obtain ⟨v1, hv9⟩ : ∃ v, (((w.alloc (.cells #[.int .i64 id, .int .u64 (limb m 0 : Int), .int .u64 (limb m 1 : Int), .int .u64 (limb m 2 : Int), .int .u64 (limb m 3 : Int), .int .u64 (inv : Int), .int .u64 (limb o 0 : Int), .int .u64 (limb o 1 : Int), .int .u64 (limb o 2 : Int), .int .u64 (limb o 3 : Int), .int .u64 (limb s 0 : Int), .int .u64 (limb s 1 : Int), .int .u64 (limb s 2 : Int), .int .u64 (limb s 3 : Int)] 31)).alloc (.cells #[.int .u64 (limb a 0 : Int), .int .u64 (limb a 1 : Int), .int .u64 (limb a 2 : Int), .int .u64 (limb a 3 : Int)] 29)).alloc (.cells #[.int .u64 0, .int .u64 0, .int .u64 0, .int .u64 0] 29)) = v := ⟨_, rfl⟩
  have hG9 : Below w.heap.size w v1 := by rw [← hv9]; go_grown
  have X_f : Blk v1 (w.heap.size) 31 [.int .i64 id, .int .u64 (limb m 0 : Int), .int .u64 (limb m 1 : Int), .int .u64 (limb m 2 : Int), .int .u64 (limb m 3 : Int), .int .u64 (inv : Int), .int .u64 (limb o 0 : Int), .int .u64 (limb o 1 : Int), .int .u64 (limb o 2 : Int), .int .u64 (limb o 3 : Int), .int .u64 (limb s 0 : Int), .int .u64 (limb s 1 : Int), .int .u64 (limb s 2 : Int), .int .u64 (limb s 3 : Int)] := by rw [← hv9]; exact Blk.alloc (Blk.alloc (Blk.new (by simp)) _) _
  have X_a : Blk v1 (w.heap.size + 1) 29 [.int .u64 (limb a 0 : Int), .int .u64 (limb a 1 : Int), .int .u64 (limb a 2 : Int), .int .u64 (limb a 3 : Int)] := by rw [← hv9]; exact Blk.alloc (Blk.new (by simp)) _
  have X_r : Blk v1 (w.heap.size + 1 + 1) 29 [.int .u64 0, .int .u64 0, .int .u64 0, .int .u64 0] := by rw [← hv9]; exact Blk.new (by simp)
  obtain ⟨bf, hb9⟩ : ∃ k, w.heap.size = k := ⟨_, rfl⟩
  rw [hb9] at X_f
  rw [hb9] at X_a
  rw [hb9] at X_r
  have g_bf : w.heap.size ≤ bf := by rw [← hb9]; exact BW.out.size
  replace BW := hid (BW.out.trans (hG9.mono BW.out.size))
  clear hG9
  rw [hv9]
  try rw [hb9]
  clear hv9 hb9
  refine (mmul_any id m inv o s a a hF (by have := hF.1; omega) (by have := hF.1; omega) (Nat.mul_lt_mul_of_lt_of_lt (by have := hF.1; omega) ha) _).mono ?_
  rintro e v2 ⟨rfl, b9⟩
  replace X_f := X_f.keep b9
  replace X_a := X_a.keep b9
  replace X_r := X_r.keep b9
  replace BW := hid (BW.out.trans (b9.mono BW.out.size))
  clear b9
  have z_r := X_r.lt
  have c_r0 := X_r.cell (i := 0) rfl
  have f_r0 := X_r.frozen 0
  have c_r1 := X_r.cell (i := 1) rfl
  have f_r1 := X_r.frozen 1
  have c_r2 := X_r.cell (i := 2) rfl
  have f_r2 := X_r.frozen 2
  have c_r3 := X_r.cell (i := 3) rfl
  have f_r3 := X_r.frozen 3
  go_wp2
  refine bodyPost_ret (by simp only [results, Tryd.results150]; go_simp; try rfl) rfl ?_
  exact ⟨rfl, by have := BW.out; have := BW.out.size; go_grown; all_goals (simp; try omega)⟩
end Go.Proofs.YtogenbggjodcnaaDoor
