/-
  Two numbers of four words, compared by Go's ==.
-/
import Derived.Test.YtfaicnileghjiaaDoorBase
import Derived.ChangeKeysEq
namespace Go.Proofs.YtfaicnileghjiaaDoor
open Go.RowKit

theorem run_eq4 (t : TypeId) (hu : Tryd.prog.underlying t = some (.array 4 23)) (a0 a1 a2 a3 b0 b1 b2 b3 : Int) (w : World) :
    (Op.equalIn 10000 t (.agg #[.int .u64 a0, .int .u64 a1, .int .u64 a2, .int .u64 a3]) (.agg #[.int .u64 b0, .int .u64 b1, .int .u64 b2, .int .u64 b3])).run Tryd.prog w =
      .ok (a0 == b0 && (a1 == b1 && (a2 == b2 && a3 == b3))) w := by
  obtain ⟨i, hi⟩ := info_of_underlying Tryd.underlying23
  have hc : Tryd.prog.cellsOf 23 = 1 := by kernel_rfl
  rw [run_equalIn_array w 9999 _ _ hu hi, hc]
  have hr : List.range 4 = [0, 1, 2, 3] := by decide
  rw [hr]
  simp [Op.eqItems, go_sem]
  by_cases h0 : a0 = b0 <;> by_cases h1 : a1 = b1 <;> by_cases h2 : a2 = b2 <;> by_cases h3 : a3 = b3 <;> simp [h0, h1, h2, h3]
theorem run_eq_vec (a0 a1 a2 a3 b0 b1 b2 b3 : Int) (w : World) :
    (Op.equalIn 10000 24 (.agg #[.int .u64 a0, .int .u64 a1, .int .u64 a2, .int .u64 a3]) (.agg #[.int .u64 b0, .int .u64 b1, .int .u64 b2, .int .u64 b3])).run Tryd.prog w =
      .ok (a0 == b0 && (a1 == b1 && (a2 == b2 && a3 == b3))) w := run_eq4 24 Tryd.underlying24 _ _ _ _ _ _ _ _ w
theorem run_eq_elem (a0 a1 a2 a3 b0 b1 b2 b3 : Int) (w : World) :
    (Op.equalIn 10000 26 (.agg #[.int .u64 a0, .int .u64 a1, .int .u64 a2, .int .u64 a3]) (.agg #[.int .u64 b0, .int .u64 b1, .int .u64 b2, .int .u64 b3])).run Tryd.prog w =
      .ok (a0 == b0 && (a1 == b1 && (a2 == b2 && a3 == b3))) w := run_eq4 26 Tryd.underlying26 _ _ _ _ _ _ _ _ w
/-- What the comparison of two numbers comes to. -/
theorem eq4_vec {a b : Nat} (ha : a < B256) (hb : b < B256) : ((limb a 0 : Int) == (limb b 0 : Int) && ((limb a 1 : Int) == (limb b 1 : Int) && ((limb a 2 : Int) == (limb b 2 : Int) && (limb a 3 : Int) == (limb b 3 : Int)))) = decide (a = b) := by
  by_cases h : a = b
  · subst h; simp
  · rw [decide_eq_false h]
    refine Bool.eq_false_iff.2 (fun e => h ?_)
    simp only [Bool.and_eq_true, beq_iff_eq, Int.ofNat_inj] at e
    exact vec_inj ha hb e.1 e.2.1 e.2.2.1 e.2.2.2
theorem eqv_vec {a b : Nat} (ha : a < B256) (hb : b < B256) (w : World) :
    (Op.equalIn 10000 24 (vec a) (vec b)).run Tryd.prog w = .ok (decide (a = b)) w := by rw [vec, vec, run_eq_vec, eq4_vec ha hb]
theorem eqz_vec {a : Nat} (ha : a < B256) (w : World) :
    (Op.equalIn 10000 24 (vec a) (.agg #[.int .u64 0, .int .u64 0, .int .u64 0, .int .u64 0])).run Tryd.prog w = .ok (decide (a = 0)) w := by rw [vec_zero]; exact eqv_vec ha (by decide) w
theorem eq1_vec {a : Nat} (ha : a < B256) (w : World) :
    (Op.equalIn 10000 24 (vec a) (.agg #[.int .u64 1, .int .u64 0, .int .u64 0, .int .u64 0])).run Tryd.prog w = .ok (decide (a = 1)) w := by rw [vec_one]; exact eqv_vec ha (by decide) w
theorem eqv_elem {a b : Nat} (ha : a < B256) (hb : b < B256) (w : World) :
    (Op.equalIn 10000 26 (vec a) (vec b)).run Tryd.prog w = .ok (decide (a = b)) w := by rw [vec, vec, run_eq_elem, eq4_vec ha hb]
end Go.Proofs.YtfaicnileghjiaaDoor
