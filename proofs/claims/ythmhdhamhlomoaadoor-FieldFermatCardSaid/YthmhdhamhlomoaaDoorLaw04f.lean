/-
  FieldFermat: the walk.
-/
import Derived.Test.YthmhdhamhlomoaaDoorLaw04
import Derived.Test.YthmhdhamhlomoaaDoorPrime
import Derived.Test.YthmhdhamhlomoaaDoorBlk3
import Derived.Deep.DeepCutAuto
namespace Go.Proofs.YthmhdhamhlomoaaDoor
open Go.RowKit
theorem limb_some {x : Nat} (hx : x < B256) (h : x ≠ 0) : ((limb x 0 : Int) == 0) = false ∨ ((limb x 1 : Int) == 0) = false ∨ ((limb x 2 : Int) == 0) = false ∨ ((limb x 3 : Int) == 0) = false := by
  have e := eq4_vec hx (show 0 < B256 by decide)
  have m0 : (limb 0 0 : Int) = 0 := by rw [limb0]; rfl
  have m1 : (limb 0 1 : Int) = 0 := by rw [limb1]; rfl
  have m2 : (limb 0 2 : Int) = 0 := by rw [limb2]; rfl
  have m3 : (limb 0 3 : Int) = 0 := by rw [limb3]; rfl
  rw [decide_eq_false h, m0, m1, m2, m3] at e
  simp only [Bool.and_eq_false_iff] at e
  exact e
theorem fermat_one {p x : Nat} (hp : Fer p) (h2 : 2 ≤ p) (hx : x < p) (h : x ≠ 0) : mulm p x (powm p x (p - 2)) = 1 := by
  rw [mulm_eq, powm_eq, Nat.mul_mod, Nat.mod_mod, ← Nat.mul_mod, Nat.mul_comm, ← Nat.pow_succ, show (p - 2).succ = p - 1 by omega]
  exact hp.2 x (by omega) hx
theorem fermat_zero {p : Nat} (e : Nat) : mulm p 0 e = 0 := by rw [mulm_eq]; simp
theorem fer_exa1 {w1 : World} {W W' : World} (h : W.cell? ⟨w1.heap.size, 0, none⟩ = some (.int .i64 1) ∧ W.cell? ⟨w1.heap.size, 1, none⟩ = some (.int .u64 (limb P1 0 : Int)) ∧ W.cell? ⟨w1.heap.size, 2, none⟩ = some (.int .u64 (limb P1 1 : Int)) ∧ W.cell? ⟨w1.heap.size, 3, none⟩ = some (.int .u64 (limb P1 2 : Int)) ∧ W.cell? ⟨w1.heap.size, 4, none⟩ = some (.int .u64 (limb P1 3 : Int)) ∧ W.cell? ⟨w1.heap.size, 5, none⟩ = some (.int .u64 (I1 : Int)) ∧ W.cell? ⟨w1.heap.size, 6, none⟩ = some (.int .u64 (limb O1 0 : Int)) ∧ W.cell? ⟨w1.heap.size, 7, none⟩ = some (.int .u64 (limb O1 1 : Int)) ∧ W.cell? ⟨w1.heap.size, 8, none⟩ = some (.int .u64 (limb O1 2 : Int)) ∧ W.cell? ⟨w1.heap.size, 9, none⟩ = some (.int .u64 (limb O1 3 : Int)) ∧ W.cell? ⟨w1.heap.size, 10, none⟩ = some (.int .u64 (limb S1 0 : Int)) ∧ W.cell? ⟨w1.heap.size, 11, none⟩ = some (.int .u64 (limb S1 1 : Int)) ∧ W.cell? ⟨w1.heap.size, 12, none⟩ = some (.int .u64 (limb S1 2 : Int)) ∧ W.cell? ⟨w1.heap.size, 13, none⟩ = some (.int .u64 (limb S1 3 : Int))) (e : Ext W W') : W'.cell? ⟨w1.heap.size, 0, none⟩ = some (.int .i64 1) ∧ W'.cell? ⟨w1.heap.size, 1, none⟩ = some (.int .u64 (limb P1 0 : Int)) ∧ W'.cell? ⟨w1.heap.size, 2, none⟩ = some (.int .u64 (limb P1 1 : Int)) ∧ W'.cell? ⟨w1.heap.size, 3, none⟩ = some (.int .u64 (limb P1 2 : Int)) ∧ W'.cell? ⟨w1.heap.size, 4, none⟩ = some (.int .u64 (limb P1 3 : Int)) ∧ W'.cell? ⟨w1.heap.size, 5, none⟩ = some (.int .u64 (I1 : Int)) ∧ W'.cell? ⟨w1.heap.size, 6, none⟩ = some (.int .u64 (limb O1 0 : Int)) ∧ W'.cell? ⟨w1.heap.size, 7, none⟩ = some (.int .u64 (limb O1 1 : Int)) ∧ W'.cell? ⟨w1.heap.size, 8, none⟩ = some (.int .u64 (limb O1 2 : Int)) ∧ W'.cell? ⟨w1.heap.size, 9, none⟩ = some (.int .u64 (limb O1 3 : Int)) ∧ W'.cell? ⟨w1.heap.size, 10, none⟩ = some (.int .u64 (limb S1 0 : Int)) ∧ W'.cell? ⟨w1.heap.size, 11, none⟩ = some (.int .u64 (limb S1 1 : Int)) ∧ W'.cell? ⟨w1.heap.size, 12, none⟩ = some (.int .u64 (limb S1 2 : Int)) ∧ W'.cell? ⟨w1.heap.size, 13, none⟩ = some (.int .u64 (limb S1 3 : Int)) := ⟨e _ _ h.1, e _ _ h.2.1, e _ _ h.2.2.1, e _ _ h.2.2.2.1, e _ _ h.2.2.2.2.1, e _ _ h.2.2.2.2.2.1, e _ _ h.2.2.2.2.2.2.1, e _ _ h.2.2.2.2.2.2.2.1, e _ _ h.2.2.2.2.2.2.2.2.1, e _ _ h.2.2.2.2.2.2.2.2.2.1, e _ _ h.2.2.2.2.2.2.2.2.2.2.1, e _ _ h.2.2.2.2.2.2.2.2.2.2.2.1, e _ _ h.2.2.2.2.2.2.2.2.2.2.2.2.1, e _ _ h.2.2.2.2.2.2.2.2.2.2.2.2.2⟩
theorem fer_exb1 {w1 w3 : World} {x : Nat} {W W' : World} (h : W.cell? ⟨w1.heap.size, 0, none⟩ = some (.int .i64 1) ∧ W.cell? ⟨w1.heap.size, 1, none⟩ = some (.int .u64 (limb P1 0 : Int)) ∧ W.cell? ⟨w1.heap.size, 2, none⟩ = some (.int .u64 (limb P1 1 : Int)) ∧ W.cell? ⟨w1.heap.size, 3, none⟩ = some (.int .u64 (limb P1 2 : Int)) ∧ W.cell? ⟨w1.heap.size, 4, none⟩ = some (.int .u64 (limb P1 3 : Int)) ∧ W.cell? ⟨w1.heap.size, 5, none⟩ = some (.int .u64 (I1 : Int)) ∧ W.cell? ⟨w1.heap.size, 6, none⟩ = some (.int .u64 (limb O1 0 : Int)) ∧ W.cell? ⟨w1.heap.size, 7, none⟩ = some (.int .u64 (limb O1 1 : Int)) ∧ W.cell? ⟨w1.heap.size, 8, none⟩ = some (.int .u64 (limb O1 2 : Int)) ∧ W.cell? ⟨w1.heap.size, 9, none⟩ = some (.int .u64 (limb O1 3 : Int)) ∧ W.cell? ⟨w1.heap.size, 10, none⟩ = some (.int .u64 (limb S1 0 : Int)) ∧ W.cell? ⟨w1.heap.size, 11, none⟩ = some (.int .u64 (limb S1 1 : Int)) ∧ W.cell? ⟨w1.heap.size, 12, none⟩ = some (.int .u64 (limb S1 2 : Int)) ∧ W.cell? ⟨w1.heap.size, 13, none⟩ = some (.int .u64 (limb S1 3 : Int)) ∧ W.cell? ⟨w3.heap.size, 0, none⟩ = some (.int .u64 (limb x 0 : Int)) ∧ W.cell? ⟨w3.heap.size, 1, none⟩ = some (.int .u64 (limb x 1 : Int)) ∧ W.cell? ⟨w3.heap.size, 2, none⟩ = some (.int .u64 (limb x 2 : Int)) ∧ W.cell? ⟨w3.heap.size, 3, none⟩ = some (.int .u64 (limb x 3 : Int))) (e : Ext W W') : W'.cell? ⟨w1.heap.size, 0, none⟩ = some (.int .i64 1) ∧ W'.cell? ⟨w1.heap.size, 1, none⟩ = some (.int .u64 (limb P1 0 : Int)) ∧ W'.cell? ⟨w1.heap.size, 2, none⟩ = some (.int .u64 (limb P1 1 : Int)) ∧ W'.cell? ⟨w1.heap.size, 3, none⟩ = some (.int .u64 (limb P1 2 : Int)) ∧ W'.cell? ⟨w1.heap.size, 4, none⟩ = some (.int .u64 (limb P1 3 : Int)) ∧ W'.cell? ⟨w1.heap.size, 5, none⟩ = some (.int .u64 (I1 : Int)) ∧ W'.cell? ⟨w1.heap.size, 6, none⟩ = some (.int .u64 (limb O1 0 : Int)) ∧ W'.cell? ⟨w1.heap.size, 7, none⟩ = some (.int .u64 (limb O1 1 : Int)) ∧ W'.cell? ⟨w1.heap.size, 8, none⟩ = some (.int .u64 (limb O1 2 : Int)) ∧ W'.cell? ⟨w1.heap.size, 9, none⟩ = some (.int .u64 (limb O1 3 : Int)) ∧ W'.cell? ⟨w1.heap.size, 10, none⟩ = some (.int .u64 (limb S1 0 : Int)) ∧ W'.cell? ⟨w1.heap.size, 11, none⟩ = some (.int .u64 (limb S1 1 : Int)) ∧ W'.cell? ⟨w1.heap.size, 12, none⟩ = some (.int .u64 (limb S1 2 : Int)) ∧ W'.cell? ⟨w1.heap.size, 13, none⟩ = some (.int .u64 (limb S1 3 : Int)) ∧ W'.cell? ⟨w3.heap.size, 0, none⟩ = some (.int .u64 (limb x 0 : Int)) ∧ W'.cell? ⟨w3.heap.size, 1, none⟩ = some (.int .u64 (limb x 1 : Int)) ∧ W'.cell? ⟨w3.heap.size, 2, none⟩ = some (.int .u64 (limb x 2 : Int)) ∧ W'.cell? ⟨w3.heap.size, 3, none⟩ = some (.int .u64 (limb x 3 : Int)) := ⟨e _ _ h.1, e _ _ h.2.1, e _ _ h.2.2.1, e _ _ h.2.2.2.1, e _ _ h.2.2.2.2.1, e _ _ h.2.2.2.2.2.1, e _ _ h.2.2.2.2.2.2.1, e _ _ h.2.2.2.2.2.2.2.1, e _ _ h.2.2.2.2.2.2.2.2.1, e _ _ h.2.2.2.2.2.2.2.2.2.1, e _ _ h.2.2.2.2.2.2.2.2.2.2.1, e _ _ h.2.2.2.2.2.2.2.2.2.2.2.1, e _ _ h.2.2.2.2.2.2.2.2.2.2.2.2.1, e _ _ h.2.2.2.2.2.2.2.2.2.2.2.2.2.1, e _ _ h.2.2.2.2.2.2.2.2.2.2.2.2.2.2.1, e _ _ h.2.2.2.2.2.2.2.2.2.2.2.2.2.2.2.1, e _ _ h.2.2.2.2.2.2.2.2.2.2.2.2.2.2.2.2.1, e _ _ h.2.2.2.2.2.2.2.2.2.2.2.2.2.2.2.2.2⟩
theorem fer_exb1s {w1 w3 : World} {x : Nat} {W : World} {c : Nat} {v0 v1 v2 v3 : Value} (h : W.cell? ⟨w1.heap.size, 0, none⟩ = some (.int .i64 1) ∧ W.cell? ⟨w1.heap.size, 1, none⟩ = some (.int .u64 (limb P1 0 : Int)) ∧ W.cell? ⟨w1.heap.size, 2, none⟩ = some (.int .u64 (limb P1 1 : Int)) ∧ W.cell? ⟨w1.heap.size, 3, none⟩ = some (.int .u64 (limb P1 2 : Int)) ∧ W.cell? ⟨w1.heap.size, 4, none⟩ = some (.int .u64 (limb P1 3 : Int)) ∧ W.cell? ⟨w1.heap.size, 5, none⟩ = some (.int .u64 (I1 : Int)) ∧ W.cell? ⟨w1.heap.size, 6, none⟩ = some (.int .u64 (limb O1 0 : Int)) ∧ W.cell? ⟨w1.heap.size, 7, none⟩ = some (.int .u64 (limb O1 1 : Int)) ∧ W.cell? ⟨w1.heap.size, 8, none⟩ = some (.int .u64 (limb O1 2 : Int)) ∧ W.cell? ⟨w1.heap.size, 9, none⟩ = some (.int .u64 (limb O1 3 : Int)) ∧ W.cell? ⟨w1.heap.size, 10, none⟩ = some (.int .u64 (limb S1 0 : Int)) ∧ W.cell? ⟨w1.heap.size, 11, none⟩ = some (.int .u64 (limb S1 1 : Int)) ∧ W.cell? ⟨w1.heap.size, 12, none⟩ = some (.int .u64 (limb S1 2 : Int)) ∧ W.cell? ⟨w1.heap.size, 13, none⟩ = some (.int .u64 (limb S1 3 : Int)) ∧ W.cell? ⟨w3.heap.size, 0, none⟩ = some (.int .u64 (limb x 0 : Int)) ∧ W.cell? ⟨w3.heap.size, 1, none⟩ = some (.int .u64 (limb x 1 : Int)) ∧ W.cell? ⟨w3.heap.size, 2, none⟩ = some (.int .u64 (limb x 2 : Int)) ∧ W.cell? ⟨w3.heap.size, 3, none⟩ = some (.int .u64 (limb x 3 : Int))) (n0 : w1.heap.size ≠ c) (n1 : w3.heap.size ≠ c) : ((((W.setCell ⟨c, 0, none⟩ v0).setCell ⟨c, 1, none⟩ v1).setCell ⟨c, 2, none⟩ v2).setCell ⟨c, 3, none⟩ v3).cell? ⟨w1.heap.size, 0, none⟩ = some (.int .i64 1) ∧ ((((W.setCell ⟨c, 0, none⟩ v0).setCell ⟨c, 1, none⟩ v1).setCell ⟨c, 2, none⟩ v2).setCell ⟨c, 3, none⟩ v3).cell? ⟨w1.heap.size, 1, none⟩ = some (.int .u64 (limb P1 0 : Int)) ∧ ((((W.setCell ⟨c, 0, none⟩ v0).setCell ⟨c, 1, none⟩ v1).setCell ⟨c, 2, none⟩ v2).setCell ⟨c, 3, none⟩ v3).cell? ⟨w1.heap.size, 2, none⟩ = some (.int .u64 (limb P1 1 : Int)) ∧ ((((W.setCell ⟨c, 0, none⟩ v0).setCell ⟨c, 1, none⟩ v1).setCell ⟨c, 2, none⟩ v2).setCell ⟨c, 3, none⟩ v3).cell? ⟨w1.heap.size, 3, none⟩ = some (.int .u64 (limb P1 2 : Int)) ∧ ((((W.setCell ⟨c, 0, none⟩ v0).setCell ⟨c, 1, none⟩ v1).setCell ⟨c, 2, none⟩ v2).setCell ⟨c, 3, none⟩ v3).cell? ⟨w1.heap.size, 4, none⟩ = some (.int .u64 (limb P1 3 : Int)) ∧ ((((W.setCell ⟨c, 0, none⟩ v0).setCell ⟨c, 1, none⟩ v1).setCell ⟨c, 2, none⟩ v2).setCell ⟨c, 3, none⟩ v3).cell? ⟨w1.heap.size, 5, none⟩ = some (.int .u64 (I1 : Int)) ∧ ((((W.setCell ⟨c, 0, none⟩ v0).setCell ⟨c, 1, none⟩ v1).setCell ⟨c, 2, none⟩ v2).setCell ⟨c, 3, none⟩ v3).cell? ⟨w1.heap.size, 6, none⟩ = some (.int .u64 (limb O1 0 : Int)) ∧ ((((W.setCell ⟨c, 0, none⟩ v0).setCell ⟨c, 1, none⟩ v1).setCell ⟨c, 2, none⟩ v2).setCell ⟨c, 3, none⟩ v3).cell? ⟨w1.heap.size, 7, none⟩ = some (.int .u64 (limb O1 1 : Int)) ∧ ((((W.setCell ⟨c, 0, none⟩ v0).setCell ⟨c, 1, none⟩ v1).setCell ⟨c, 2, none⟩ v2).setCell ⟨c, 3, none⟩ v3).cell? ⟨w1.heap.size, 8, none⟩ = some (.int .u64 (limb O1 2 : Int)) ∧ ((((W.setCell ⟨c, 0, none⟩ v0).setCell ⟨c, 1, none⟩ v1).setCell ⟨c, 2, none⟩ v2).setCell ⟨c, 3, none⟩ v3).cell? ⟨w1.heap.size, 9, none⟩ = some (.int .u64 (limb O1 3 : Int)) ∧ ((((W.setCell ⟨c, 0, none⟩ v0).setCell ⟨c, 1, none⟩ v1).setCell ⟨c, 2, none⟩ v2).setCell ⟨c, 3, none⟩ v3).cell? ⟨w1.heap.size, 10, none⟩ = some (.int .u64 (limb S1 0 : Int)) ∧ ((((W.setCell ⟨c, 0, none⟩ v0).setCell ⟨c, 1, none⟩ v1).setCell ⟨c, 2, none⟩ v2).setCell ⟨c, 3, none⟩ v3).cell? ⟨w1.heap.size, 11, none⟩ = some (.int .u64 (limb S1 1 : Int)) ∧ ((((W.setCell ⟨c, 0, none⟩ v0).setCell ⟨c, 1, none⟩ v1).setCell ⟨c, 2, none⟩ v2).setCell ⟨c, 3, none⟩ v3).cell? ⟨w1.heap.size, 12, none⟩ = some (.int .u64 (limb S1 2 : Int)) ∧ ((((W.setCell ⟨c, 0, none⟩ v0).setCell ⟨c, 1, none⟩ v1).setCell ⟨c, 2, none⟩ v2).setCell ⟨c, 3, none⟩ v3).cell? ⟨w1.heap.size, 13, none⟩ = some (.int .u64 (limb S1 3 : Int)) ∧ ((((W.setCell ⟨c, 0, none⟩ v0).setCell ⟨c, 1, none⟩ v1).setCell ⟨c, 2, none⟩ v2).setCell ⟨c, 3, none⟩ v3).cell? ⟨w3.heap.size, 0, none⟩ = some (.int .u64 (limb x 0 : Int)) ∧ ((((W.setCell ⟨c, 0, none⟩ v0).setCell ⟨c, 1, none⟩ v1).setCell ⟨c, 2, none⟩ v2).setCell ⟨c, 3, none⟩ v3).cell? ⟨w3.heap.size, 1, none⟩ = some (.int .u64 (limb x 1 : Int)) ∧ ((((W.setCell ⟨c, 0, none⟩ v0).setCell ⟨c, 1, none⟩ v1).setCell ⟨c, 2, none⟩ v2).setCell ⟨c, 3, none⟩ v3).cell? ⟨w3.heap.size, 2, none⟩ = some (.int .u64 (limb x 2 : Int)) ∧ ((((W.setCell ⟨c, 0, none⟩ v0).setCell ⟨c, 1, none⟩ v1).setCell ⟨c, 2, none⟩ v2).setCell ⟨c, 3, none⟩ v3).cell? ⟨w3.heap.size, 3, none⟩ = some (.int .u64 (limb x 3 : Int)) := ⟨set4_cell n0 h.1, set4_cell n0 h.2.1, set4_cell n0 h.2.2.1, set4_cell n0 h.2.2.2.1, set4_cell n0 h.2.2.2.2.1, set4_cell n0 h.2.2.2.2.2.1, set4_cell n0 h.2.2.2.2.2.2.1, set4_cell n0 h.2.2.2.2.2.2.2.1, set4_cell n0 h.2.2.2.2.2.2.2.2.1, set4_cell n0 h.2.2.2.2.2.2.2.2.2.1, set4_cell n0 h.2.2.2.2.2.2.2.2.2.2.1, set4_cell n0 h.2.2.2.2.2.2.2.2.2.2.2.1, set4_cell n0 h.2.2.2.2.2.2.2.2.2.2.2.2.1, set4_cell n0 h.2.2.2.2.2.2.2.2.2.2.2.2.2.1, set4_cell n1 h.2.2.2.2.2.2.2.2.2.2.2.2.2.2.1, set4_cell n1 h.2.2.2.2.2.2.2.2.2.2.2.2.2.2.2.1, set4_cell n1 h.2.2.2.2.2.2.2.2.2.2.2.2.2.2.2.2.1, set4_cell n1 h.2.2.2.2.2.2.2.2.2.2.2.2.2.2.2.2.2⟩

set_option maxRecDepth 100000 in
set_option maxHeartbeats 8000000 in
theorem fermat_law1 (a : Nat) (ha : a < B256) (w : World) (hT : Tab w) :
    Calls Tryd.prog 5 #[.bool false, vec a] w (Ret (.bool true) w) := by
  have HT := hid hT
  have q4 := run_eq_vec
  clear hT
  go_enter Tryd.func5, Tryd.ntmps5
  go_wp2_with fail
  refine (get_1 _ (HT.out.alloc _)).mono ?_
  rintro e w1 ⟨rfl, hb1⟩
  have T1 := hid ((HT.out.alloc _).keep hb1)
  have B1 : Below w.heap.size w w1 := Below.call (by go_grown) hb1
  have zB1 := B1.size
  have y1_0 : w.heap.size < w1.heap.size := (by have this := hb1.size; (try simp at this); omega)
  have l1_0 : w.heap.size ≤ w1.heap.size := (by omega)
  have m1_0 : w.heap.size ≤ w1.heap.size + 1 := (by omega)
  have hc1_0 := fun o => bcell hb1 (w.heap.size) o (by first | omega | (simp; done) | (simp; omega))
  have hf1_0 := fun o => bfrozen hb1 (w.heap.size) o (by first | omega | (simp; done) | (simp; omega))
  go_upto_region 5 with fail
  go_region_held3 (fun w' => w'.cell? ⟨w1.heap.size, 0, none⟩ = some (.int .i64 1) ∧ w'.cell? ⟨w1.heap.size, 1, none⟩ = some (.int .u64 (limb P1 0 : Int)) ∧ w'.cell? ⟨w1.heap.size, 2, none⟩ = some (.int .u64 (limb P1 1 : Int)) ∧ w'.cell? ⟨w1.heap.size, 3, none⟩ = some (.int .u64 (limb P1 2 : Int)) ∧ w'.cell? ⟨w1.heap.size, 4, none⟩ = some (.int .u64 (limb P1 3 : Int)) ∧ w'.cell? ⟨w1.heap.size, 5, none⟩ = some (.int .u64 (I1 : Int)) ∧ w'.cell? ⟨w1.heap.size, 6, none⟩ = some (.int .u64 (limb O1 0 : Int)) ∧ w'.cell? ⟨w1.heap.size, 7, none⟩ = some (.int .u64 (limb O1 1 : Int)) ∧ w'.cell? ⟨w1.heap.size, 8, none⟩ = some (.int .u64 (limb O1 2 : Int)) ∧ w'.cell? ⟨w1.heap.size, 9, none⟩ = some (.int .u64 (limb O1 3 : Int)) ∧ w'.cell? ⟨w1.heap.size, 10, none⟩ = some (.int .u64 (limb S1 0 : Int)) ∧ w'.cell? ⟨w1.heap.size, 11, none⟩ = some (.int .u64 (limb S1 1 : Int)) ∧ w'.cell? ⟨w1.heap.size, 12, none⟩ = some (.int .u64 (limb S1 2 : Int)) ∧ w'.cell? ⟨w1.heap.size, 13, none⟩ = some (.int .u64 (limb S1 3 : Int))) ((first | (refine fer_exa1 (by with_reducible assumption) ?_; with_reducible first | exact Ext.below (by assumption) | exact Ext.alloc1 _ _ | exact Ext.alloc2 _ _ | exact Ext.alloc _ _ | exact Ext.alloc3 _ _) | (go_simp; done) | go_keep)) (first | (go_at_call 14; refine (rmodulus_1 _).mono ?_; rintro e w2 ⟨rfl, hb2⟩; have B2 : Below w.heap.size w w2 := Below.call (by go_grown) hb2; have zB2 := B2.size; have y2_0 : w1.heap.size < w2.heap.size := (by have this := hb2.size; (try simp at this); omega); have y2_1 : w.heap.size < w2.heap.size := (by have this := hb2.size; (try simp at this); omega); have hc2 := bcell hb2))
  have h_f : Blk w2 w1.heap.size 26 [.int .i64 1, .int .u64 (limb P1 0 : Int), .int .u64 (limb P1 1 : Int), .int .u64 (limb P1 2 : Int), .int .u64 (limb P1 3 : Int), .int .u64 (I1 : Int), .int .u64 (limb O1 0 : Int), .int .u64 (limb O1 1 : Int), .int .u64 (limb O1 2 : Int), .int .u64 (limb O1 3 : Int), .int .u64 (limb S1 0 : Int), .int .u64 (limb S1 1 : Int), .int .u64 (limb S1 2 : Int), .int .u64 (limb S1 3 : Int)] := by first | exact Blk.keep (Blk.new rfl) hb2 | exact Blk.keep (Blk.drew (Blk.new rfl)) hb2
  have h_a : Blk w2 w.heap.size 23 [.int .u64 (limb a 0 : Int), .int .u64 (limb a 1 : Int), .int .u64 (limb a 2 : Int), .int .u64 (limb a 3 : Int)] := by first | exact Blk.keep (Blk.alloc (Blk.keep (Blk.new rfl) hb1) _) hb2 | exact Blk.keep (Blk.drew (Blk.alloc (Blk.keep (Blk.new rfl) hb1) _)) hb2
  have T2 := hid (show Tab w2 by first | exact (T1.out.alloc _).keep hb2 | exact (T1.out.alloc _).drew.keep hb2)
  clear hc2 hc1_0 hf1_0
  have c_f1 := h_f.cell (i := 1) rfl
  have c_f2 := h_f.cell (i := 2) rfl
  have c_f3 := h_f.cell (i := 3) rfl
  have c_f4 := h_f.cell (i := 4) rfl
  have c_a0 := h_a.cell (i := 0) rfl
  have c_a1 := h_a.cell (i := 1) rfl
  have c_a2 := h_a.cell (i := 2) rfl
  have c_a3 := h_a.cell (i := 3) rfl
  go_wp2_with fail
  refine (rmod_any P1 a P1_lt (by decide) ha _).mono ?_
  rintro e w3 ⟨rfl, hb3⟩
  have T3 := hid (T2.out.keep hb3)
  have B3 : Below w.heap.size w w3 := Below.call (by go_grown) hb3
  replace h_f := Blk.keep h_f hb3
  have Lx : mulm P1 1 a < P1 := mulm_lt _ _ (by decide)
  clear c_f1 c_f2 c_f3 c_f4 c_a0 c_a1 c_a2 c_a3 h_a B1 B2 hb1 hb2 hb3 T1 T2 HT zB1 zB2
  generalize mulm P1 1 a = x at *
  have h_x : Blk (w3.alloc (.cells #[.int .u64 (limb x 0 : Int), .int .u64 (limb x 1 : Int), .int .u64 (limb x 2 : Int), .int .u64 (limb x 3 : Int)] 23)) w3.heap.size 23 [.int .u64 (limb x 0 : Int), .int .u64 (limb x 1 : Int), .int .u64 (limb x 2 : Int), .int .u64 (limb x 3 : Int)] := Blk.new rfl
  have zB3 := B3.size
  have z_f := h_f.lt
  have c_f0 := h_f.cell (i := 0) rfl
  have c_f1 := h_f.cell (i := 1) rfl
  have c_f2 := h_f.cell (i := 2) rfl
  have c_f3 := h_f.cell (i := 3) rfl
  have c_f4 := h_f.cell (i := 4) rfl
  have c_f5 := h_f.cell (i := 5) rfl
  have c_f6 := h_f.cell (i := 6) rfl
  have c_f7 := h_f.cell (i := 7) rfl
  have c_f8 := h_f.cell (i := 8) rfl
  have c_f9 := h_f.cell (i := 9) rfl
  have c_f10 := h_f.cell (i := 10) rfl
  have c_f11 := h_f.cell (i := 11) rfl
  have c_f12 := h_f.cell (i := 12) rfl
  have c_f13 := h_f.cell (i := 13) rfl
  have n1 : ¬ w1.heap.size = w3.heap.size + 1 := by omega
  have n2 : ¬ w1.heap.size = w3.heap.size := by omega
  have n3 : w1.heap.size < w3.heap.size + 1 := by omega
  go_upto_region 8 with fail
  go_cut [9] (fun s9 wx => ∃ Y : Nat, s9 = .pointer (some ⟨Y, 0, none⟩) ∧ Below w3.heap.size w3 wx ∧ wx.cell? ⟨w3.heap.size, 0, none⟩ = some (.int .u64 (limb x 0 : Int)) ∧ wx.cell? ⟨w3.heap.size, 1, none⟩ = some (.int .u64 (limb x 1 : Int)) ∧ wx.cell? ⟨w3.heap.size, 2, none⟩ = some (.int .u64 (limb x 2 : Int)) ∧ wx.cell? ⟨w3.heap.size, 3, none⟩ = some (.int .u64 (limb x 3 : Int)) ∧ wx.cell? ⟨Y, 0, none⟩ = some (.int .u64 (limb (mulm P1 x (powm P1 x (P1 - 2))) 0 : Int)) ∧ wx.cell? ⟨Y, 1, none⟩ = some (.int .u64 (limb (mulm P1 x (powm P1 x (P1 - 2))) 1 : Int)) ∧ wx.cell? ⟨Y, 2, none⟩ = some (.int .u64 (limb (mulm P1 x (powm P1 x (P1 - 2))) 2 : Int)) ∧ wx.cell? ⟨Y, 3, none⟩ = some (.int .u64 (limb (mulm P1 x (powm P1 x (P1 - 2))) 3 : Int)))
  case first =>
    go_region_held3 (fun w' => w'.cell? ⟨w1.heap.size, 0, none⟩ = some (.int .i64 1) ∧ w'.cell? ⟨w1.heap.size, 1, none⟩ = some (.int .u64 (limb P1 0 : Int)) ∧ w'.cell? ⟨w1.heap.size, 2, none⟩ = some (.int .u64 (limb P1 1 : Int)) ∧ w'.cell? ⟨w1.heap.size, 3, none⟩ = some (.int .u64 (limb P1 2 : Int)) ∧ w'.cell? ⟨w1.heap.size, 4, none⟩ = some (.int .u64 (limb P1 3 : Int)) ∧ w'.cell? ⟨w1.heap.size, 5, none⟩ = some (.int .u64 (I1 : Int)) ∧ w'.cell? ⟨w1.heap.size, 6, none⟩ = some (.int .u64 (limb O1 0 : Int)) ∧ w'.cell? ⟨w1.heap.size, 7, none⟩ = some (.int .u64 (limb O1 1 : Int)) ∧ w'.cell? ⟨w1.heap.size, 8, none⟩ = some (.int .u64 (limb O1 2 : Int)) ∧ w'.cell? ⟨w1.heap.size, 9, none⟩ = some (.int .u64 (limb O1 3 : Int)) ∧ w'.cell? ⟨w1.heap.size, 10, none⟩ = some (.int .u64 (limb S1 0 : Int)) ∧ w'.cell? ⟨w1.heap.size, 11, none⟩ = some (.int .u64 (limb S1 1 : Int)) ∧ w'.cell? ⟨w1.heap.size, 12, none⟩ = some (.int .u64 (limb S1 2 : Int)) ∧ w'.cell? ⟨w1.heap.size, 13, none⟩ = some (.int .u64 (limb S1 3 : Int)) ∧ w'.cell? ⟨w3.heap.size, 0, none⟩ = some (.int .u64 (limb x 0 : Int)) ∧ w'.cell? ⟨w3.heap.size, 1, none⟩ = some (.int .u64 (limb x 1 : Int)) ∧ w'.cell? ⟨w3.heap.size, 2, none⟩ = some (.int .u64 (limb x 2 : Int)) ∧ w'.cell? ⟨w3.heap.size, 3, none⟩ = some (.int .u64 (limb x 3 : Int))) ((first | (refine fer_exb1 (by with_reducible assumption) ?_; with_reducible first | exact Ext.below (by assumption) | exact Ext.alloc1 _ _ | exact Ext.alloc2 _ _ | exact Ext.alloc _ _ | exact Ext.alloc3 _ _) | (with_reducible refine fer_exb1s (by with_reducible assumption) (by omega) (by omega)) | (go_simp; done) | go_keep)) (first | (go_at_call 17; refine (rinv_any P1 x P1_lt (by decide) Lx _).mono ?_; rintro e w4 ⟨rfl, hb4⟩; have B4 : Below w.heap.size w w4 := Below.call (by go_grown) hb4; have zB4 := B4.size; have y4_0 : w1.heap.size < w4.heap.size := (by have this := hb4.size; (try simp at this); omega); have y4_1 : w3.heap.size < w4.heap.size := (by have this := hb4.size; (try simp at this); omega); have hc4 := bcell hb4; have C4 : Below w3.heap.size w3 w4 := Below.call (by go_grown) hb4; have zC4 := C4.size; (try (have y4_0 : w3.heap.size + 1 < w4.heap.size := (by have this := hb4.size; (try simp at this); omega); have l4_0 : w3.heap.size + 1 ≤ w4.heap.size := (by omega); have m4_0 : w3.heap.size + 1 ≤ w4.heap.size + 1 := (by omega); have hc4_0 := fun o => bcell hb4 (w3.heap.size + 1) o (by first | omega | (simp; done) | (simp; omega)); have hf4_0 := fun o => bfrozen hb4 (w3.heap.size + 1) o (by first | omega | (simp; done) | (simp; omega))))) | (go_at_call 16; refine (rmul_any P1 x (powm P1 x (P1 - 2)) P1_lt Lx (Nat.lt_trans (powm_lt _ _ (by decide)) P1_lt) _).mono ?_; rintro e w5 ⟨rfl, hb5⟩; have B5 : Below w.heap.size w w5 := Below.call (by go_grown) hb5; have zB5 := B5.size; have y5_0 : w1.heap.size < w5.heap.size := (by have this := hb5.size; (try simp at this); omega); have y5_1 : w3.heap.size < w5.heap.size := (by have this := hb5.size; (try simp at this); omega); have hc5 := bcell hb5; have C5 : Below w3.heap.size w3 w5 := Below.call (by go_grown) hb5; have zC5 := C5.size; (try (have y5_0 : w3.heap.size + 1 < w5.heap.size := (by have this := hb5.size; (try simp at this); omega); have l5_0 : w3.heap.size + 1 ≤ w5.heap.size := (by omega); have m5_0 : w3.heap.size + 1 ≤ w5.heap.size + 1 := (by omega); have hc5_0 := fun o => bcell hb5 (w3.heap.size + 1) o (by first | omega | (simp; done) | (simp; omega)); have hf5_0 := fun o => bfrozen hb5 (w3.heap.size + 1) o (by first | omega | (simp; done) | (simp; omega)))); (try (have y5_1 : w4.heap.size < w5.heap.size := (by have this := hb5.size; (try simp at this); omega); have l5_1 : w4.heap.size ≤ w5.heap.size := (by omega); have m5_1 : w4.heap.size ≤ w5.heap.size + 1 := (by omega); have hc5_1 := fun o => bcell hb5 (w4.heap.size) o (by first | omega | (simp; done) | (simp; omega)); have hf5_1 := fun o => bfrozen hb5 (w4.heap.size) o (by first | omega | (simp; done) | (simp; omega))))))
    all_goals (go_wp2_with fail; go_meet)
    all_goals (refine ⟨_, rfl, ?_, ?_, ?_, ?_, ?_, ?_, ?_, ?_, ?_⟩)
    all_goals (first | with_reducible assumption | (go_grown; done) | (go_simp; done) | go_keep)
  case rest =>
    obtain ⟨Y, rfl, hBX, c0_0, c0_1, c0_2, c0_3, c1_0, c1_1, c1_2, c1_3⟩ := hcut
    have T5 := hid (T3.out.keep hBX)
    have B5 : Below w.heap.size w wc := Below.call B3 hBX
    have zB5 := B5.size
    have zX : w3.heap.size < wc.heap.size := World.block_lt_of_cell? _ _ c0_0
    have zY : Y < wc.heap.size := World.block_lt_of_cell? _ _ c1_0
    have LX : x < B256 := Nat.lt_trans Lx P1_lt
    clear n1 n2 n3 c_f0 c_f1 c_f2 c_f3 c_f4 c_f5 c_f6 c_f7 c_f8 c_f9 c_f10 c_f11 c_f12 c_f13 h_f h_x z_f T3 hBX B3 zB3 q4
    go_wp2_with fail
    refine (alive_any _ T5.out).mono ?_
    rintro e w6 ⟨rfl, hb6⟩
    have B6 : Below w.heap.size w w6 := Below.call B5 hb6
    have zB6 := B6.size
    have hc6 := bcell hb6
    by_cases hx : x = 0
    · subst hx
      have ey : mulm P1 0 (powm P1 0 (P1 - 2)) = 0 := fermat_zero _
      rw [ey] at c1_0 c1_1 c1_2 c1_3
      have e1 : ∀ W : World, (Op.equalIn 10000 23 (vec 0) (.agg #[.int .u64 0, .int .u64 0, .int .u64 0, .int .u64 0])).run Tryd.prog W = .ok true W := fun W => eqz_vec LX W
      have e2 : ∀ W : World, (Op.equalIn 10000 23 (vec 0) (vec 0)).run Tryd.prog W = .ok true W := fun W => eqv_vec LX LX W
      clear ey Lx LX
      go_wp2
      go_ret
      exact ⟨rfl, by go_grown⟩
    · have ey : mulm P1 x (powm P1 x (P1 - 2)) = 1 := fermat_one fer_P1 (by decide) Lx hx
      rw [ey] at c1_0 c1_1 c1_2 c1_3
      have e1 : ∀ W : World, (Op.equalIn 10000 23 (vec x) (.agg #[.int .u64 0, .int .u64 0, .int .u64 0, .int .u64 0])).run Tryd.prog W = .ok false W := fun W => by rw [eqz_vec LX W, decide_eq_false hx]
      have e2 : ∀ W : World, (Op.equalIn 10000 23 (vec 1) (.agg #[.int .u64 1, .int .u64 0, .int .u64 0, .int .u64 0])).run Tryd.prog W = .ok true W := fun W => eq1_vec (by decide) W
      clear ey Lx LX hx
      go_wp2
      go_ret
      exact ⟨rfl, by go_grown⟩
theorem fer_exa2 {w1 : World} {W W' : World} (h : W.cell? ⟨w1.heap.size, 0, none⟩ = some (.int .i64 2) ∧ W.cell? ⟨w1.heap.size, 1, none⟩ = some (.int .u64 (limb P2 0 : Int)) ∧ W.cell? ⟨w1.heap.size, 2, none⟩ = some (.int .u64 (limb P2 1 : Int)) ∧ W.cell? ⟨w1.heap.size, 3, none⟩ = some (.int .u64 (limb P2 2 : Int)) ∧ W.cell? ⟨w1.heap.size, 4, none⟩ = some (.int .u64 (limb P2 3 : Int)) ∧ W.cell? ⟨w1.heap.size, 5, none⟩ = some (.int .u64 (I2 : Int)) ∧ W.cell? ⟨w1.heap.size, 6, none⟩ = some (.int .u64 (limb O2 0 : Int)) ∧ W.cell? ⟨w1.heap.size, 7, none⟩ = some (.int .u64 (limb O2 1 : Int)) ∧ W.cell? ⟨w1.heap.size, 8, none⟩ = some (.int .u64 (limb O2 2 : Int)) ∧ W.cell? ⟨w1.heap.size, 9, none⟩ = some (.int .u64 (limb O2 3 : Int)) ∧ W.cell? ⟨w1.heap.size, 10, none⟩ = some (.int .u64 (limb S2 0 : Int)) ∧ W.cell? ⟨w1.heap.size, 11, none⟩ = some (.int .u64 (limb S2 1 : Int)) ∧ W.cell? ⟨w1.heap.size, 12, none⟩ = some (.int .u64 (limb S2 2 : Int)) ∧ W.cell? ⟨w1.heap.size, 13, none⟩ = some (.int .u64 (limb S2 3 : Int))) (e : Ext W W') : W'.cell? ⟨w1.heap.size, 0, none⟩ = some (.int .i64 2) ∧ W'.cell? ⟨w1.heap.size, 1, none⟩ = some (.int .u64 (limb P2 0 : Int)) ∧ W'.cell? ⟨w1.heap.size, 2, none⟩ = some (.int .u64 (limb P2 1 : Int)) ∧ W'.cell? ⟨w1.heap.size, 3, none⟩ = some (.int .u64 (limb P2 2 : Int)) ∧ W'.cell? ⟨w1.heap.size, 4, none⟩ = some (.int .u64 (limb P2 3 : Int)) ∧ W'.cell? ⟨w1.heap.size, 5, none⟩ = some (.int .u64 (I2 : Int)) ∧ W'.cell? ⟨w1.heap.size, 6, none⟩ = some (.int .u64 (limb O2 0 : Int)) ∧ W'.cell? ⟨w1.heap.size, 7, none⟩ = some (.int .u64 (limb O2 1 : Int)) ∧ W'.cell? ⟨w1.heap.size, 8, none⟩ = some (.int .u64 (limb O2 2 : Int)) ∧ W'.cell? ⟨w1.heap.size, 9, none⟩ = some (.int .u64 (limb O2 3 : Int)) ∧ W'.cell? ⟨w1.heap.size, 10, none⟩ = some (.int .u64 (limb S2 0 : Int)) ∧ W'.cell? ⟨w1.heap.size, 11, none⟩ = some (.int .u64 (limb S2 1 : Int)) ∧ W'.cell? ⟨w1.heap.size, 12, none⟩ = some (.int .u64 (limb S2 2 : Int)) ∧ W'.cell? ⟨w1.heap.size, 13, none⟩ = some (.int .u64 (limb S2 3 : Int)) := ⟨e _ _ h.1, e _ _ h.2.1, e _ _ h.2.2.1, e _ _ h.2.2.2.1, e _ _ h.2.2.2.2.1, e _ _ h.2.2.2.2.2.1, e _ _ h.2.2.2.2.2.2.1, e _ _ h.2.2.2.2.2.2.2.1, e _ _ h.2.2.2.2.2.2.2.2.1, e _ _ h.2.2.2.2.2.2.2.2.2.1, e _ _ h.2.2.2.2.2.2.2.2.2.2.1, e _ _ h.2.2.2.2.2.2.2.2.2.2.2.1, e _ _ h.2.2.2.2.2.2.2.2.2.2.2.2.1, e _ _ h.2.2.2.2.2.2.2.2.2.2.2.2.2⟩
theorem fer_exb2 {w1 w3 : World} {x : Nat} {W W' : World} (h : W.cell? ⟨w1.heap.size, 0, none⟩ = some (.int .i64 2) ∧ W.cell? ⟨w1.heap.size, 1, none⟩ = some (.int .u64 (limb P2 0 : Int)) ∧ W.cell? ⟨w1.heap.size, 2, none⟩ = some (.int .u64 (limb P2 1 : Int)) ∧ W.cell? ⟨w1.heap.size, 3, none⟩ = some (.int .u64 (limb P2 2 : Int)) ∧ W.cell? ⟨w1.heap.size, 4, none⟩ = some (.int .u64 (limb P2 3 : Int)) ∧ W.cell? ⟨w1.heap.size, 5, none⟩ = some (.int .u64 (I2 : Int)) ∧ W.cell? ⟨w1.heap.size, 6, none⟩ = some (.int .u64 (limb O2 0 : Int)) ∧ W.cell? ⟨w1.heap.size, 7, none⟩ = some (.int .u64 (limb O2 1 : Int)) ∧ W.cell? ⟨w1.heap.size, 8, none⟩ = some (.int .u64 (limb O2 2 : Int)) ∧ W.cell? ⟨w1.heap.size, 9, none⟩ = some (.int .u64 (limb O2 3 : Int)) ∧ W.cell? ⟨w1.heap.size, 10, none⟩ = some (.int .u64 (limb S2 0 : Int)) ∧ W.cell? ⟨w1.heap.size, 11, none⟩ = some (.int .u64 (limb S2 1 : Int)) ∧ W.cell? ⟨w1.heap.size, 12, none⟩ = some (.int .u64 (limb S2 2 : Int)) ∧ W.cell? ⟨w1.heap.size, 13, none⟩ = some (.int .u64 (limb S2 3 : Int)) ∧ W.cell? ⟨w3.heap.size, 0, none⟩ = some (.int .u64 (limb x 0 : Int)) ∧ W.cell? ⟨w3.heap.size, 1, none⟩ = some (.int .u64 (limb x 1 : Int)) ∧ W.cell? ⟨w3.heap.size, 2, none⟩ = some (.int .u64 (limb x 2 : Int)) ∧ W.cell? ⟨w3.heap.size, 3, none⟩ = some (.int .u64 (limb x 3 : Int))) (e : Ext W W') : W'.cell? ⟨w1.heap.size, 0, none⟩ = some (.int .i64 2) ∧ W'.cell? ⟨w1.heap.size, 1, none⟩ = some (.int .u64 (limb P2 0 : Int)) ∧ W'.cell? ⟨w1.heap.size, 2, none⟩ = some (.int .u64 (limb P2 1 : Int)) ∧ W'.cell? ⟨w1.heap.size, 3, none⟩ = some (.int .u64 (limb P2 2 : Int)) ∧ W'.cell? ⟨w1.heap.size, 4, none⟩ = some (.int .u64 (limb P2 3 : Int)) ∧ W'.cell? ⟨w1.heap.size, 5, none⟩ = some (.int .u64 (I2 : Int)) ∧ W'.cell? ⟨w1.heap.size, 6, none⟩ = some (.int .u64 (limb O2 0 : Int)) ∧ W'.cell? ⟨w1.heap.size, 7, none⟩ = some (.int .u64 (limb O2 1 : Int)) ∧ W'.cell? ⟨w1.heap.size, 8, none⟩ = some (.int .u64 (limb O2 2 : Int)) ∧ W'.cell? ⟨w1.heap.size, 9, none⟩ = some (.int .u64 (limb O2 3 : Int)) ∧ W'.cell? ⟨w1.heap.size, 10, none⟩ = some (.int .u64 (limb S2 0 : Int)) ∧ W'.cell? ⟨w1.heap.size, 11, none⟩ = some (.int .u64 (limb S2 1 : Int)) ∧ W'.cell? ⟨w1.heap.size, 12, none⟩ = some (.int .u64 (limb S2 2 : Int)) ∧ W'.cell? ⟨w1.heap.size, 13, none⟩ = some (.int .u64 (limb S2 3 : Int)) ∧ W'.cell? ⟨w3.heap.size, 0, none⟩ = some (.int .u64 (limb x 0 : Int)) ∧ W'.cell? ⟨w3.heap.size, 1, none⟩ = some (.int .u64 (limb x 1 : Int)) ∧ W'.cell? ⟨w3.heap.size, 2, none⟩ = some (.int .u64 (limb x 2 : Int)) ∧ W'.cell? ⟨w3.heap.size, 3, none⟩ = some (.int .u64 (limb x 3 : Int)) := ⟨e _ _ h.1, e _ _ h.2.1, e _ _ h.2.2.1, e _ _ h.2.2.2.1, e _ _ h.2.2.2.2.1, e _ _ h.2.2.2.2.2.1, e _ _ h.2.2.2.2.2.2.1, e _ _ h.2.2.2.2.2.2.2.1, e _ _ h.2.2.2.2.2.2.2.2.1, e _ _ h.2.2.2.2.2.2.2.2.2.1, e _ _ h.2.2.2.2.2.2.2.2.2.2.1, e _ _ h.2.2.2.2.2.2.2.2.2.2.2.1, e _ _ h.2.2.2.2.2.2.2.2.2.2.2.2.1, e _ _ h.2.2.2.2.2.2.2.2.2.2.2.2.2.1, e _ _ h.2.2.2.2.2.2.2.2.2.2.2.2.2.2.1, e _ _ h.2.2.2.2.2.2.2.2.2.2.2.2.2.2.2.1, e _ _ h.2.2.2.2.2.2.2.2.2.2.2.2.2.2.2.2.1, e _ _ h.2.2.2.2.2.2.2.2.2.2.2.2.2.2.2.2.2⟩
theorem fer_exb2s {w1 w3 : World} {x : Nat} {W : World} {c : Nat} {v0 v1 v2 v3 : Value} (h : W.cell? ⟨w1.heap.size, 0, none⟩ = some (.int .i64 2) ∧ W.cell? ⟨w1.heap.size, 1, none⟩ = some (.int .u64 (limb P2 0 : Int)) ∧ W.cell? ⟨w1.heap.size, 2, none⟩ = some (.int .u64 (limb P2 1 : Int)) ∧ W.cell? ⟨w1.heap.size, 3, none⟩ = some (.int .u64 (limb P2 2 : Int)) ∧ W.cell? ⟨w1.heap.size, 4, none⟩ = some (.int .u64 (limb P2 3 : Int)) ∧ W.cell? ⟨w1.heap.size, 5, none⟩ = some (.int .u64 (I2 : Int)) ∧ W.cell? ⟨w1.heap.size, 6, none⟩ = some (.int .u64 (limb O2 0 : Int)) ∧ W.cell? ⟨w1.heap.size, 7, none⟩ = some (.int .u64 (limb O2 1 : Int)) ∧ W.cell? ⟨w1.heap.size, 8, none⟩ = some (.int .u64 (limb O2 2 : Int)) ∧ W.cell? ⟨w1.heap.size, 9, none⟩ = some (.int .u64 (limb O2 3 : Int)) ∧ W.cell? ⟨w1.heap.size, 10, none⟩ = some (.int .u64 (limb S2 0 : Int)) ∧ W.cell? ⟨w1.heap.size, 11, none⟩ = some (.int .u64 (limb S2 1 : Int)) ∧ W.cell? ⟨w1.heap.size, 12, none⟩ = some (.int .u64 (limb S2 2 : Int)) ∧ W.cell? ⟨w1.heap.size, 13, none⟩ = some (.int .u64 (limb S2 3 : Int)) ∧ W.cell? ⟨w3.heap.size, 0, none⟩ = some (.int .u64 (limb x 0 : Int)) ∧ W.cell? ⟨w3.heap.size, 1, none⟩ = some (.int .u64 (limb x 1 : Int)) ∧ W.cell? ⟨w3.heap.size, 2, none⟩ = some (.int .u64 (limb x 2 : Int)) ∧ W.cell? ⟨w3.heap.size, 3, none⟩ = some (.int .u64 (limb x 3 : Int))) (n0 : w1.heap.size ≠ c) (n1 : w3.heap.size ≠ c) : ((((W.setCell ⟨c, 0, none⟩ v0).setCell ⟨c, 1, none⟩ v1).setCell ⟨c, 2, none⟩ v2).setCell ⟨c, 3, none⟩ v3).cell? ⟨w1.heap.size, 0, none⟩ = some (.int .i64 2) ∧ ((((W.setCell ⟨c, 0, none⟩ v0).setCell ⟨c, 1, none⟩ v1).setCell ⟨c, 2, none⟩ v2).setCell ⟨c, 3, none⟩ v3).cell? ⟨w1.heap.size, 1, none⟩ = some (.int .u64 (limb P2 0 : Int)) ∧ ((((W.setCell ⟨c, 0, none⟩ v0).setCell ⟨c, 1, none⟩ v1).setCell ⟨c, 2, none⟩ v2).setCell ⟨c, 3, none⟩ v3).cell? ⟨w1.heap.size, 2, none⟩ = some (.int .u64 (limb P2 1 : Int)) ∧ ((((W.setCell ⟨c, 0, none⟩ v0).setCell ⟨c, 1, none⟩ v1).setCell ⟨c, 2, none⟩ v2).setCell ⟨c, 3, none⟩ v3).cell? ⟨w1.heap.size, 3, none⟩ = some (.int .u64 (limb P2 2 : Int)) ∧ ((((W.setCell ⟨c, 0, none⟩ v0).setCell ⟨c, 1, none⟩ v1).setCell ⟨c, 2, none⟩ v2).setCell ⟨c, 3, none⟩ v3).cell? ⟨w1.heap.size, 4, none⟩ = some (.int .u64 (limb P2 3 : Int)) ∧ ((((W.setCell ⟨c, 0, none⟩ v0).setCell ⟨c, 1, none⟩ v1).setCell ⟨c, 2, none⟩ v2).setCell ⟨c, 3, none⟩ v3).cell? ⟨w1.heap.size, 5, none⟩ = some (.int .u64 (I2 : Int)) ∧ ((((W.setCell ⟨c, 0, none⟩ v0).setCell ⟨c, 1, none⟩ v1).setCell ⟨c, 2, none⟩ v2).setCell ⟨c, 3, none⟩ v3).cell? ⟨w1.heap.size, 6, none⟩ = some (.int .u64 (limb O2 0 : Int)) ∧ ((((W.setCell ⟨c, 0, none⟩ v0).setCell ⟨c, 1, none⟩ v1).setCell ⟨c, 2, none⟩ v2).setCell ⟨c, 3, none⟩ v3).cell? ⟨w1.heap.size, 7, none⟩ = some (.int .u64 (limb O2 1 : Int)) ∧ ((((W.setCell ⟨c, 0, none⟩ v0).setCell ⟨c, 1, none⟩ v1).setCell ⟨c, 2, none⟩ v2).setCell ⟨c, 3, none⟩ v3).cell? ⟨w1.heap.size, 8, none⟩ = some (.int .u64 (limb O2 2 : Int)) ∧ ((((W.setCell ⟨c, 0, none⟩ v0).setCell ⟨c, 1, none⟩ v1).setCell ⟨c, 2, none⟩ v2).setCell ⟨c, 3, none⟩ v3).cell? ⟨w1.heap.size, 9, none⟩ = some (.int .u64 (limb O2 3 : Int)) ∧ ((((W.setCell ⟨c, 0, none⟩ v0).setCell ⟨c, 1, none⟩ v1).setCell ⟨c, 2, none⟩ v2).setCell ⟨c, 3, none⟩ v3).cell? ⟨w1.heap.size, 10, none⟩ = some (.int .u64 (limb S2 0 : Int)) ∧ ((((W.setCell ⟨c, 0, none⟩ v0).setCell ⟨c, 1, none⟩ v1).setCell ⟨c, 2, none⟩ v2).setCell ⟨c, 3, none⟩ v3).cell? ⟨w1.heap.size, 11, none⟩ = some (.int .u64 (limb S2 1 : Int)) ∧ ((((W.setCell ⟨c, 0, none⟩ v0).setCell ⟨c, 1, none⟩ v1).setCell ⟨c, 2, none⟩ v2).setCell ⟨c, 3, none⟩ v3).cell? ⟨w1.heap.size, 12, none⟩ = some (.int .u64 (limb S2 2 : Int)) ∧ ((((W.setCell ⟨c, 0, none⟩ v0).setCell ⟨c, 1, none⟩ v1).setCell ⟨c, 2, none⟩ v2).setCell ⟨c, 3, none⟩ v3).cell? ⟨w1.heap.size, 13, none⟩ = some (.int .u64 (limb S2 3 : Int)) ∧ ((((W.setCell ⟨c, 0, none⟩ v0).setCell ⟨c, 1, none⟩ v1).setCell ⟨c, 2, none⟩ v2).setCell ⟨c, 3, none⟩ v3).cell? ⟨w3.heap.size, 0, none⟩ = some (.int .u64 (limb x 0 : Int)) ∧ ((((W.setCell ⟨c, 0, none⟩ v0).setCell ⟨c, 1, none⟩ v1).setCell ⟨c, 2, none⟩ v2).setCell ⟨c, 3, none⟩ v3).cell? ⟨w3.heap.size, 1, none⟩ = some (.int .u64 (limb x 1 : Int)) ∧ ((((W.setCell ⟨c, 0, none⟩ v0).setCell ⟨c, 1, none⟩ v1).setCell ⟨c, 2, none⟩ v2).setCell ⟨c, 3, none⟩ v3).cell? ⟨w3.heap.size, 2, none⟩ = some (.int .u64 (limb x 2 : Int)) ∧ ((((W.setCell ⟨c, 0, none⟩ v0).setCell ⟨c, 1, none⟩ v1).setCell ⟨c, 2, none⟩ v2).setCell ⟨c, 3, none⟩ v3).cell? ⟨w3.heap.size, 3, none⟩ = some (.int .u64 (limb x 3 : Int)) := ⟨set4_cell n0 h.1, set4_cell n0 h.2.1, set4_cell n0 h.2.2.1, set4_cell n0 h.2.2.2.1, set4_cell n0 h.2.2.2.2.1, set4_cell n0 h.2.2.2.2.2.1, set4_cell n0 h.2.2.2.2.2.2.1, set4_cell n0 h.2.2.2.2.2.2.2.1, set4_cell n0 h.2.2.2.2.2.2.2.2.1, set4_cell n0 h.2.2.2.2.2.2.2.2.2.1, set4_cell n0 h.2.2.2.2.2.2.2.2.2.2.1, set4_cell n0 h.2.2.2.2.2.2.2.2.2.2.2.1, set4_cell n0 h.2.2.2.2.2.2.2.2.2.2.2.2.1, set4_cell n0 h.2.2.2.2.2.2.2.2.2.2.2.2.2.1, set4_cell n1 h.2.2.2.2.2.2.2.2.2.2.2.2.2.2.1, set4_cell n1 h.2.2.2.2.2.2.2.2.2.2.2.2.2.2.2.1, set4_cell n1 h.2.2.2.2.2.2.2.2.2.2.2.2.2.2.2.2.1, set4_cell n1 h.2.2.2.2.2.2.2.2.2.2.2.2.2.2.2.2.2⟩

set_option maxRecDepth 100000 in
set_option maxHeartbeats 8000000 in
theorem fermat_law2 (a : Nat) (ha : a < B256) (w : World) (hT : Tab w) :
    Calls Tryd.prog 5 #[.bool true, vec a] w (Ret (.bool true) w) := by
  have HT := hid hT
  have q4 := run_eq_vec
  clear hT
  go_enter Tryd.func5, Tryd.ntmps5
  go_wp2_with fail
  refine (get_2 _ (HT.out.alloc _)).mono ?_
  rintro e w1 ⟨rfl, hb1⟩
  have T1 := hid ((HT.out.alloc _).keep hb1)
  have B1 : Below w.heap.size w w1 := Below.call (by go_grown) hb1
  have zB1 := B1.size
  have y1_0 : w.heap.size < w1.heap.size := (by have this := hb1.size; (try simp at this); omega)
  have l1_0 : w.heap.size ≤ w1.heap.size := (by omega)
  have m1_0 : w.heap.size ≤ w1.heap.size + 1 := (by omega)
  have hc1_0 := fun o => bcell hb1 (w.heap.size) o (by first | omega | (simp; done) | (simp; omega))
  have hf1_0 := fun o => bfrozen hb1 (w.heap.size) o (by first | omega | (simp; done) | (simp; omega))
  go_upto_region 5 with fail
  go_region_held3 (fun w' => w'.cell? ⟨w1.heap.size, 0, none⟩ = some (.int .i64 2) ∧ w'.cell? ⟨w1.heap.size, 1, none⟩ = some (.int .u64 (limb P2 0 : Int)) ∧ w'.cell? ⟨w1.heap.size, 2, none⟩ = some (.int .u64 (limb P2 1 : Int)) ∧ w'.cell? ⟨w1.heap.size, 3, none⟩ = some (.int .u64 (limb P2 2 : Int)) ∧ w'.cell? ⟨w1.heap.size, 4, none⟩ = some (.int .u64 (limb P2 3 : Int)) ∧ w'.cell? ⟨w1.heap.size, 5, none⟩ = some (.int .u64 (I2 : Int)) ∧ w'.cell? ⟨w1.heap.size, 6, none⟩ = some (.int .u64 (limb O2 0 : Int)) ∧ w'.cell? ⟨w1.heap.size, 7, none⟩ = some (.int .u64 (limb O2 1 : Int)) ∧ w'.cell? ⟨w1.heap.size, 8, none⟩ = some (.int .u64 (limb O2 2 : Int)) ∧ w'.cell? ⟨w1.heap.size, 9, none⟩ = some (.int .u64 (limb O2 3 : Int)) ∧ w'.cell? ⟨w1.heap.size, 10, none⟩ = some (.int .u64 (limb S2 0 : Int)) ∧ w'.cell? ⟨w1.heap.size, 11, none⟩ = some (.int .u64 (limb S2 1 : Int)) ∧ w'.cell? ⟨w1.heap.size, 12, none⟩ = some (.int .u64 (limb S2 2 : Int)) ∧ w'.cell? ⟨w1.heap.size, 13, none⟩ = some (.int .u64 (limb S2 3 : Int))) ((first | (refine fer_exa2 (by with_reducible assumption) ?_; with_reducible first | exact Ext.below (by assumption) | exact Ext.alloc1 _ _ | exact Ext.alloc2 _ _ | exact Ext.alloc _ _ | exact Ext.alloc3 _ _) | (go_simp; done) | go_keep)) (first | (go_at_call 14; refine (rmodulus_2 _).mono ?_; rintro e w2 ⟨rfl, hb2⟩; have B2 : Below w.heap.size w w2 := Below.call (by go_grown) hb2; have zB2 := B2.size; have y2_0 : w1.heap.size < w2.heap.size := (by have this := hb2.size; (try simp at this); omega); have y2_1 : w.heap.size < w2.heap.size := (by have this := hb2.size; (try simp at this); omega); have hc2 := bcell hb2))
  have h_f : Blk w2 w1.heap.size 26 [.int .i64 2, .int .u64 (limb P2 0 : Int), .int .u64 (limb P2 1 : Int), .int .u64 (limb P2 2 : Int), .int .u64 (limb P2 3 : Int), .int .u64 (I2 : Int), .int .u64 (limb O2 0 : Int), .int .u64 (limb O2 1 : Int), .int .u64 (limb O2 2 : Int), .int .u64 (limb O2 3 : Int), .int .u64 (limb S2 0 : Int), .int .u64 (limb S2 1 : Int), .int .u64 (limb S2 2 : Int), .int .u64 (limb S2 3 : Int)] := by first | exact Blk.keep (Blk.new rfl) hb2 | exact Blk.keep (Blk.drew (Blk.new rfl)) hb2
  have h_a : Blk w2 w.heap.size 23 [.int .u64 (limb a 0 : Int), .int .u64 (limb a 1 : Int), .int .u64 (limb a 2 : Int), .int .u64 (limb a 3 : Int)] := by first | exact Blk.keep (Blk.alloc (Blk.keep (Blk.new rfl) hb1) _) hb2 | exact Blk.keep (Blk.drew (Blk.alloc (Blk.keep (Blk.new rfl) hb1) _)) hb2
  have T2 := hid (show Tab w2 by first | exact (T1.out.alloc _).keep hb2 | exact (T1.out.alloc _).drew.keep hb2)
  clear hc2 hc1_0 hf1_0
  have c_f1 := h_f.cell (i := 1) rfl
  have c_f2 := h_f.cell (i := 2) rfl
  have c_f3 := h_f.cell (i := 3) rfl
  have c_f4 := h_f.cell (i := 4) rfl
  have c_a0 := h_a.cell (i := 0) rfl
  have c_a1 := h_a.cell (i := 1) rfl
  have c_a2 := h_a.cell (i := 2) rfl
  have c_a3 := h_a.cell (i := 3) rfl
  go_wp2_with fail
  refine (rmod_any P2 a P2_lt (by decide) ha _).mono ?_
  rintro e w3 ⟨rfl, hb3⟩
  have T3 := hid (T2.out.keep hb3)
  have B3 : Below w.heap.size w w3 := Below.call (by go_grown) hb3
  replace h_f := Blk.keep h_f hb3
  have Lx : mulm P2 1 a < P2 := mulm_lt _ _ (by decide)
  clear c_f1 c_f2 c_f3 c_f4 c_a0 c_a1 c_a2 c_a3 h_a B1 B2 hb1 hb2 hb3 T1 T2 HT zB1 zB2
  generalize mulm P2 1 a = x at *
  have h_x : Blk (w3.alloc (.cells #[.int .u64 (limb x 0 : Int), .int .u64 (limb x 1 : Int), .int .u64 (limb x 2 : Int), .int .u64 (limb x 3 : Int)] 23)) w3.heap.size 23 [.int .u64 (limb x 0 : Int), .int .u64 (limb x 1 : Int), .int .u64 (limb x 2 : Int), .int .u64 (limb x 3 : Int)] := Blk.new rfl
  have zB3 := B3.size
  have z_f := h_f.lt
  have c_f0 := h_f.cell (i := 0) rfl
  have c_f1 := h_f.cell (i := 1) rfl
  have c_f2 := h_f.cell (i := 2) rfl
  have c_f3 := h_f.cell (i := 3) rfl
  have c_f4 := h_f.cell (i := 4) rfl
  have c_f5 := h_f.cell (i := 5) rfl
  have c_f6 := h_f.cell (i := 6) rfl
  have c_f7 := h_f.cell (i := 7) rfl
  have c_f8 := h_f.cell (i := 8) rfl
  have c_f9 := h_f.cell (i := 9) rfl
  have c_f10 := h_f.cell (i := 10) rfl
  have c_f11 := h_f.cell (i := 11) rfl
  have c_f12 := h_f.cell (i := 12) rfl
  have c_f13 := h_f.cell (i := 13) rfl
  have n1 : ¬ w1.heap.size = w3.heap.size + 1 := by omega
  have n2 : ¬ w1.heap.size = w3.heap.size := by omega
  have n3 : w1.heap.size < w3.heap.size + 1 := by omega
  go_upto_region 8 with fail
  go_cut [9] (fun s9 wx => ∃ Y : Nat, s9 = .pointer (some ⟨Y, 0, none⟩) ∧ Below w3.heap.size w3 wx ∧ wx.cell? ⟨w3.heap.size, 0, none⟩ = some (.int .u64 (limb x 0 : Int)) ∧ wx.cell? ⟨w3.heap.size, 1, none⟩ = some (.int .u64 (limb x 1 : Int)) ∧ wx.cell? ⟨w3.heap.size, 2, none⟩ = some (.int .u64 (limb x 2 : Int)) ∧ wx.cell? ⟨w3.heap.size, 3, none⟩ = some (.int .u64 (limb x 3 : Int)) ∧ wx.cell? ⟨Y, 0, none⟩ = some (.int .u64 (limb (mulm P2 x (powm P2 x (P2 - 2))) 0 : Int)) ∧ wx.cell? ⟨Y, 1, none⟩ = some (.int .u64 (limb (mulm P2 x (powm P2 x (P2 - 2))) 1 : Int)) ∧ wx.cell? ⟨Y, 2, none⟩ = some (.int .u64 (limb (mulm P2 x (powm P2 x (P2 - 2))) 2 : Int)) ∧ wx.cell? ⟨Y, 3, none⟩ = some (.int .u64 (limb (mulm P2 x (powm P2 x (P2 - 2))) 3 : Int)))
  case first =>
    go_region_held3 (fun w' => w'.cell? ⟨w1.heap.size, 0, none⟩ = some (.int .i64 2) ∧ w'.cell? ⟨w1.heap.size, 1, none⟩ = some (.int .u64 (limb P2 0 : Int)) ∧ w'.cell? ⟨w1.heap.size, 2, none⟩ = some (.int .u64 (limb P2 1 : Int)) ∧ w'.cell? ⟨w1.heap.size, 3, none⟩ = some (.int .u64 (limb P2 2 : Int)) ∧ w'.cell? ⟨w1.heap.size, 4, none⟩ = some (.int .u64 (limb P2 3 : Int)) ∧ w'.cell? ⟨w1.heap.size, 5, none⟩ = some (.int .u64 (I2 : Int)) ∧ w'.cell? ⟨w1.heap.size, 6, none⟩ = some (.int .u64 (limb O2 0 : Int)) ∧ w'.cell? ⟨w1.heap.size, 7, none⟩ = some (.int .u64 (limb O2 1 : Int)) ∧ w'.cell? ⟨w1.heap.size, 8, none⟩ = some (.int .u64 (limb O2 2 : Int)) ∧ w'.cell? ⟨w1.heap.size, 9, none⟩ = some (.int .u64 (limb O2 3 : Int)) ∧ w'.cell? ⟨w1.heap.size, 10, none⟩ = some (.int .u64 (limb S2 0 : Int)) ∧ w'.cell? ⟨w1.heap.size, 11, none⟩ = some (.int .u64 (limb S2 1 : Int)) ∧ w'.cell? ⟨w1.heap.size, 12, none⟩ = some (.int .u64 (limb S2 2 : Int)) ∧ w'.cell? ⟨w1.heap.size, 13, none⟩ = some (.int .u64 (limb S2 3 : Int)) ∧ w'.cell? ⟨w3.heap.size, 0, none⟩ = some (.int .u64 (limb x 0 : Int)) ∧ w'.cell? ⟨w3.heap.size, 1, none⟩ = some (.int .u64 (limb x 1 : Int)) ∧ w'.cell? ⟨w3.heap.size, 2, none⟩ = some (.int .u64 (limb x 2 : Int)) ∧ w'.cell? ⟨w3.heap.size, 3, none⟩ = some (.int .u64 (limb x 3 : Int))) ((first | (refine fer_exb2 (by with_reducible assumption) ?_; with_reducible first | exact Ext.below (by assumption) | exact Ext.alloc1 _ _ | exact Ext.alloc2 _ _ | exact Ext.alloc _ _ | exact Ext.alloc3 _ _) | (with_reducible refine fer_exb2s (by with_reducible assumption) (by omega) (by omega)) | (go_simp; done) | go_keep)) (first | (go_at_call 17; refine (rinv_any P2 x P2_lt (by decide) Lx _).mono ?_; rintro e w4 ⟨rfl, hb4⟩; have B4 : Below w.heap.size w w4 := Below.call (by go_grown) hb4; have zB4 := B4.size; have y4_0 : w1.heap.size < w4.heap.size := (by have this := hb4.size; (try simp at this); omega); have y4_1 : w3.heap.size < w4.heap.size := (by have this := hb4.size; (try simp at this); omega); have hc4 := bcell hb4; have C4 : Below w3.heap.size w3 w4 := Below.call (by go_grown) hb4; have zC4 := C4.size; (try (have y4_0 : w3.heap.size + 1 < w4.heap.size := (by have this := hb4.size; (try simp at this); omega); have l4_0 : w3.heap.size + 1 ≤ w4.heap.size := (by omega); have m4_0 : w3.heap.size + 1 ≤ w4.heap.size + 1 := (by omega); have hc4_0 := fun o => bcell hb4 (w3.heap.size + 1) o (by first | omega | (simp; done) | (simp; omega)); have hf4_0 := fun o => bfrozen hb4 (w3.heap.size + 1) o (by first | omega | (simp; done) | (simp; omega))))) | (go_at_call 16; refine (rmul_any P2 x (powm P2 x (P2 - 2)) P2_lt Lx (Nat.lt_trans (powm_lt _ _ (by decide)) P2_lt) _).mono ?_; rintro e w5 ⟨rfl, hb5⟩; have B5 : Below w.heap.size w w5 := Below.call (by go_grown) hb5; have zB5 := B5.size; have y5_0 : w1.heap.size < w5.heap.size := (by have this := hb5.size; (try simp at this); omega); have y5_1 : w3.heap.size < w5.heap.size := (by have this := hb5.size; (try simp at this); omega); have hc5 := bcell hb5; have C5 : Below w3.heap.size w3 w5 := Below.call (by go_grown) hb5; have zC5 := C5.size; (try (have y5_0 : w3.heap.size + 1 < w5.heap.size := (by have this := hb5.size; (try simp at this); omega); have l5_0 : w3.heap.size + 1 ≤ w5.heap.size := (by omega); have m5_0 : w3.heap.size + 1 ≤ w5.heap.size + 1 := (by omega); have hc5_0 := fun o => bcell hb5 (w3.heap.size + 1) o (by first | omega | (simp; done) | (simp; omega)); have hf5_0 := fun o => bfrozen hb5 (w3.heap.size + 1) o (by first | omega | (simp; done) | (simp; omega)))); (try (have y5_1 : w4.heap.size < w5.heap.size := (by have this := hb5.size; (try simp at this); omega); have l5_1 : w4.heap.size ≤ w5.heap.size := (by omega); have m5_1 : w4.heap.size ≤ w5.heap.size + 1 := (by omega); have hc5_1 := fun o => bcell hb5 (w4.heap.size) o (by first | omega | (simp; done) | (simp; omega)); have hf5_1 := fun o => bfrozen hb5 (w4.heap.size) o (by first | omega | (simp; done) | (simp; omega))))))
    all_goals (go_wp2_with fail; go_meet)
    all_goals (refine ⟨_, rfl, ?_, ?_, ?_, ?_, ?_, ?_, ?_, ?_, ?_⟩)
    all_goals (first | with_reducible assumption | (go_grown; done) | (go_simp; done) | go_keep)
  case rest =>
    obtain ⟨Y, rfl, hBX, c0_0, c0_1, c0_2, c0_3, c1_0, c1_1, c1_2, c1_3⟩ := hcut
    have T5 := hid (T3.out.keep hBX)
    have B5 : Below w.heap.size w wc := Below.call B3 hBX
    have zB5 := B5.size
    have zX : w3.heap.size < wc.heap.size := World.block_lt_of_cell? _ _ c0_0
    have zY : Y < wc.heap.size := World.block_lt_of_cell? _ _ c1_0
    have LX : x < B256 := Nat.lt_trans Lx P2_lt
    clear n1 n2 n3 c_f0 c_f1 c_f2 c_f3 c_f4 c_f5 c_f6 c_f7 c_f8 c_f9 c_f10 c_f11 c_f12 c_f13 h_f h_x z_f T3 hBX B3 zB3 q4
    go_wp2_with fail
    refine (alive_any _ T5.out).mono ?_
    rintro e w6 ⟨rfl, hb6⟩
    have B6 : Below w.heap.size w w6 := Below.call B5 hb6
    have zB6 := B6.size
    have hc6 := bcell hb6
    by_cases hx : x = 0
    · subst hx
      have ey : mulm P2 0 (powm P2 0 (P2 - 2)) = 0 := fermat_zero _
      rw [ey] at c1_0 c1_1 c1_2 c1_3
      have e1 : ∀ W : World, (Op.equalIn 10000 23 (vec 0) (.agg #[.int .u64 0, .int .u64 0, .int .u64 0, .int .u64 0])).run Tryd.prog W = .ok true W := fun W => eqz_vec LX W
      have e2 : ∀ W : World, (Op.equalIn 10000 23 (vec 0) (vec 0)).run Tryd.prog W = .ok true W := fun W => eqv_vec LX LX W
      clear ey Lx LX
      go_wp2
      go_ret
      exact ⟨rfl, by go_grown⟩
    · have ey : mulm P2 x (powm P2 x (P2 - 2)) = 1 := fermat_one fer_P2 (by decide) Lx hx
      rw [ey] at c1_0 c1_1 c1_2 c1_3
      have e1 : ∀ W : World, (Op.equalIn 10000 23 (vec x) (.agg #[.int .u64 0, .int .u64 0, .int .u64 0, .int .u64 0])).run Tryd.prog W = .ok false W := fun W => by rw [eqz_vec LX W, decide_eq_false hx]
      have e2 : ∀ W : World, (Op.equalIn 10000 23 (vec 1) (.agg #[.int .u64 1, .int .u64 0, .int .u64 0, .int .u64 0])).run Tryd.prog W = .ok true W := fun W => eq1_vec (by decide) W
      clear ey Lx LX hx
      go_wp2
      go_ret
      exact ⟨rfl, by go_grown⟩

theorem fermat_law (id : Bool) (a : Nat) (ha : a < B256) (w : World) (hT : Tab w) :
    Calls Tryd.prog 5 #[.bool id, vec a] w (Ret (.bool true) w) := by
  cases id
  · exact fermat_law1 a ha w hT
  · exact fermat_law2 a ha w hT
end Go.Proofs.YthmhdhamhlomoaaDoor
