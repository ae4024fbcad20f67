/-
  The sum of two numbers.
-/
import Derived.Test.YtfaicnileghjiaaDoorLimb
namespace Go.Proofs.YtfaicnileghjiaaDoor
open Go.RowKit

theorem run_add64 (x y c : Nat) (hc : c ≤ 1) (w : World) :
    Sem.run Tryd.prog (callFunc 61 #[.int .u64 (x : Int), .int .u64 (y : Int), .int .u64 (c : Int)]) w = .ok (.value (.tuple #[.int .u64 (nas x y c : Int), .int .u64 (nac x y c : Int)])) w := by
  have h : c = 0 ∨ c = 1 := by omega
  rw [nas_eq, nac_eq]
  rcases h with rfl | rfl <;> rfl
theorem run_add64_0 (x y : Nat) (w : World) :
    Sem.run Tryd.prog (callFunc 61 #[.int .u64 (x : Int), .int .u64 (y : Int), .int .u64 0]) w = .ok (.value (.tuple #[.int .u64 (nas x y 0 : Int), .int .u64 (nac x y 0 : Int)])) w := run_add64 x y 0 (by omega) w
set_option maxRecDepth 100000 in
set_option maxHeartbeats 1000000 in
theorem apply_add (a b : Nat) (ha : a < B256) (hb : b < B256) (w : World) :
    Calls Tryd.prog 68 #[.agg #[.func (.func 61) #[] #[]], vec a, vec b] w (Ret (.tuple #[vec (sum a b), .int .u64 (cry a b : Int)]) w) := by
  have hs := run_add64
  go_enter Tryd.func68, Tryd.ntmps68
  go_wp2
  go_loopw [7, 8, 9] (fun c _ i wr => ∃ (k : Nat) (o : List Value), k ≤ 4 ∧ i = .int .i64 k ∧ c = .int .u64 (car (limb a) (limb b) k : Int) ∧ Below w.heap.size w wr ∧
      Blk wr w.heap.size 102 [.func (.func 61) #[] #[]] ∧ Blk wr (w.heap.size + 1) 24 (limbs a) ∧ Blk wr (w.heap.size + 1 + 1) 24 (limbs b) ∧
      Blk wr (w.heap.size + 1 + 1 + 1) 24 o ∧ o.length = 4 ∧ ∀ j, j < k → o[j]? = some (.int .u64 (nas (limb a j) (limb b j) (car (limb a) (limb b) j) : Int)))
    (fun _ _ i _ => 4 - (intOf i).toNat)
  case atStart => exact ⟨0, [.int .u64 0, .int .u64 0, .int .u64 0, .int .u64 0], by omega, rfl, rfl, by go_grown, Blk.alloc (Blk.alloc (Blk.alloc (Blk.new (by simp)) _) _) _, Blk.alloc (Blk.alloc (Blk.new (by simp)) _) _, Blk.alloc (Blk.new (by simp)) _, Blk.new (by simp), rfl, fun j hj => by omega⟩
  case round =>
    obtain ⟨k, o, hk, rfl, rfl, hB, h0, h1, h2, h3, ho, hj⟩ := hrel
    by_cases hlt : k < 4
    · have cc := h0.cell (i := 0) rfl
      have ca := h1.cell (limbs_get a hlt)
      have cb := h2.cell (limbs_get b hlt)
      obtain ⟨ok, hok⟩ : ∃ v, o[k]? = some v := ⟨o[k], by simp⟩
      have co := h3.cell hok
      have fo := h3.frozen k
      have hbk := car_le (limb_lt a) (limb_lt b) k
      have HJ := hid hj; clear hj
      have HO := hid hok; clear hok
      have HL := hid ho; clear ho
      clear ha hb
      go_wp2
      go_region_held3 (fun w' => w'.cell? ⟨w.heap.size, 0, none⟩ = some (.func (.func 61) #[] #[]) ∧ w'.cell? ⟨w.heap.size + 1, k, none⟩ = some (.int .u64 (limb a k : Int)) ∧ w'.cell? ⟨w.heap.size + 1 + 1, k, none⟩ = some (.int .u64 (limb b k : Int))) ((first | (go_simp; done) | go_keep)) (fail)
      go_wp2
      go_roundw
      case rel => exact ⟨k + 1, o.set k (.int .u64 (nas (limb a k) (limb b k) (car (limb a) (limb b) k) : Int)), by omega, by go_num, rfl, by go_grown, h0.other _ _ (by dsimp only; omega), h1.other _ _ (by dsimp only; omega), h2.other _ _ (by dsimp only; omega), h3.set k _, by simp [HL.out], row_set HJ.out HL.out hlt rfl⟩
      case measure => simp [intOf]; omega
    · obtain rfl : k = 4 := by omega
      obtain rfl := row_four hj ho
      have hv := hid (vec_sum ha hb)
      have hc := hid (sum_words ha hb).2
      have c0 := h3.cell (i := 0) rfl
      have f0 := h3.frozen 0
      have c1 := h3.cell (i := 1) rfl
      have f1 := h3.frozen 1
      have c2 := h3.cell (i := 2) rfl
      have f2 := h3.frozen 2
      have c3 := h3.cell (i := 3) rfl
      have f3 := h3.frozen 3
      clear hj ho ha hb
      go_wp2
      refine bodyPost_ret (by simp only [results, Tryd.results68]; go_simp; try rfl) rfl ?_
      exact ⟨by rw [hv.out, hc.out], by go_grown⟩

set_option maxRecDepth 100000 in
set_option maxHeartbeats 1000000 in
theorem ladd_any (a b : Nat) (ha : a < B256) (hb : b < B256) (w : World) :
    Calls Tryd.prog 59 #[vec a, vec b] w (Ret (.tuple #[vec (sum a b), .int .u64 (cry a b : Int)]) w) := by
  go_enter Tryd.func59, Tryd.ntmps59
  go_wp2_with fail
  refine (apply_add a b ha hb _).mono ?_
  rintro e w1 ⟨rfl, hb1⟩
  have h_a : Blk w1 (w.heap.size) 24 [.int .u64 (limb a 0 : Int), .int .u64 (limb a 1 : Int), .int .u64 (limb a 2 : Int), .int .u64 (limb a 3 : Int)] := Blk.keep (Blk.alloc (Blk.alloc (Blk.new (by simp)) _) _) hb1
  have h_b : Blk w1 (w.heap.size + 1) 24 [.int .u64 (limb b 0 : Int), .int .u64 (limb b 1 : Int), .int .u64 (limb b 2 : Int), .int .u64 (limb b 3 : Int)] := Blk.keep (Blk.alloc (Blk.new (by simp)) _) hb1
  have h_r : Blk w1 (w.heap.size + 1 + 1) 24 [.int .u64 0, .int .u64 0, .int .u64 0, .int .u64 0] := Blk.keep (Blk.new (by simp)) hb1
  have B1 : Below w.heap.size w w1 := Below.call (by go_grown) hb1
  have zB1 := B1.size
  have z_a := h_a.lt
  have z_b := h_b.lt
  have z_r := h_r.lt
  have c_r0 := h_r.cell (i := 0) rfl
  have c_r1 := h_r.cell (i := 1) rfl
  have c_r2 := h_r.cell (i := 2) rfl
  have c_r3 := h_r.cell (i := 3) rfl
  have f_r0 := h_r.frozen 0
  have f_r1 := h_r.frozen 1
  have f_r2 := h_r.frozen 2
  have f_r3 := h_r.frozen 3
  go_wp2
  refine bodyPost_ret (by simp only [results, Tryd.results59]; go_simp; try rfl) rfl ?_
  exact ⟨rfl, by go_grown⟩

end Go.Proofs.YtfaicnileghjiaaDoor
