/-
  The statements of layer 4: the examples of the chapter hold.
-/
import Derived.Test.YthmhdhamhlomoaaDoorAll
import Derived.Test.YthmhdhamhlomoaaDoorEqs
import Derived.Test.YthmhdhamhlomoaaDoorEq4
import Derived.Test.YthmhdhamhlomoaaDoorRef4e
namespace Go.Proofs.YthmhdhamhlomoaaDoor
open Go.RowKit

set_option maxRecDepth 100000 in
set_option maxHeartbeats 2000000 in
theorem alive_any (w : World) (hT : Tab w) : Calls Tryd.prog 11 #[] w (Ret (.bool true) w) := by
  have eR : red P1 P1 0 = 0 := by rw [red_eq, if_neg (by omega), dif_eq]; decide
  have ER := hid eR
  clear eR
  have HT := hid hT
  have q4 := run_eq_vec
  have q5 := run_eq_elem
  clear hT
  go_enter Tryd.func11, Tryd.ntmps11
  go_wp2_with fail
  refine (get_1 _ HT.out).mono ?_
  rintro e w1 ⟨rfl, hb1⟩
  have T1 := hid (HT.out.keep hb1)
  have B1 : Below w.heap.size w w1 := Below.call (by go_grown) hb1
  have zB1 := B1.size
  have o0 : ((limb O1 0 : Int) == 38) = true := by rw [← limbs_O1.1]; rfl
  have o1 : ((limb O1 1 : Int) == 0) = true := by rw [← limbs_O1.2.1]; rfl
  have o2 : ((limb O1 2 : Int) == 0) = true := by rw [← limbs_O1.2.2.1]; rfl
  have o3 : ((limb O1 3 : Int) == 0) = true := by rw [← limbs_O1.2.2.2]; rfl
  have s0 : ((limb S1 0 : Int) == 1444) = true := by rw [← limbs_S1.1]; rfl
  have s1 : ((limb S1 1 : Int) == 0) = true := by rw [← limbs_S1.2.1]; rfl
  have s2 : ((limb S1 2 : Int) == 0) = true := by rw [← limbs_S1.2.2.1]; rfl
  have s3 : ((limb S1 3 : Int) == 0) = true := by rw [← limbs_S1.2.2.2]; rfl
  go_wp2_with fail
  refine (subtract_any P1 P1 0 P1_lt P1_lt (by decide) _).mono ?_
  rintro e w2 ⟨rfl, hb2⟩
  have T2 := hid ((T1.out.alloc _).keep hb2)
  have B2 : Below w.heap.size w w2 := Below.call (by go_grown) hb2
  have zB2 := B2.size
  rw [ER.out]
  have m0 : ((limb 0 0 : Int) == 0) = true := by rw [limb0]; rfl
  have m1 : ((limb 0 1 : Int) == 0) = true := by rw [limb1]; rfl
  have m2 : ((limb 0 2 : Int) == 0) = true := by rw [limb2]; rfl
  have m3 : ((limb 0 3 : Int) == 0) = true := by rw [limb3]; rfl
  go_wp2_with fail
  refine (all_any _ T2.out).mono ?_
  rintro e w3 ⟨v, rfl, hown, hb3⟩
  obtain ⟨g, cap, rfl, _⟩ := owns_pos hown (by omega)
  have B3 : Below w.heap.size w w3 := Below.call (by go_grown) hb3
  have zB3 := B3.size
  have HO := hid hown
  clear hown
  go_wp2_with fail
  refine (eqInts_any g 0 cap w3.heap.size 0 2 2 [1, 2] [1, 2] rfl rfl (by omega) _ (owns_range (HO.out.alloc _)) (Blk.range (Blk.new rfl))).mono ?_
  rintro e w4 ⟨rfl, mq, rfl⟩
  go_wp2
  go_ret
  exact ⟨rfl, Below.drewN' (by go_grown) _⟩

set_option maxRecDepth 100000 in
set_option maxHeartbeats 4000000 in
theorem subtracts_any (m a c : Nat) (hm : m < B256) (ha : a < B256) (hc : c < B64) (w : World) (hT : Tab w) :
    Calls Tryd.prog 4 #[vec m, vec a, .int .u64 (c : Int)] w (Ret (.bool true) w) := by
  have q4 := run_eq_vec
  have HT := hid ((hT.alloc (.cells #[.int .u64 (limb m 0 : Int), .int .u64 (limb m 1 : Int), .int .u64 (limb m 2 : Int), .int .u64 (limb m 3 : Int)] 23)).alloc (.cells #[.int .u64 (limb a 0 : Int), .int .u64 (limb a 1 : Int), .int .u64 (limb a 2 : Int), .int .u64 (limb a 3 : Int)] 23)).drew
  clear hT
  go_enter Tryd.func4, Tryd.ntmps4
  go_wp2
  go_region_held3 (fun w' => w'.cell? ⟨w.heap.size, 0, none⟩ = some (.int .u64 (limb m 0 : Int)) ∧ w'.cell? ⟨w.heap.size, 1, none⟩ = some (.int .u64 (limb m 1 : Int)) ∧ w'.cell? ⟨w.heap.size, 2, none⟩ = some (.int .u64 (limb m 2 : Int)) ∧ w'.cell? ⟨w.heap.size, 3, none⟩ = some (.int .u64 (limb m 3 : Int)) ∧ w'.cell? ⟨w.heap.size + 1, 0, none⟩ = some (.int .u64 (limb a 0 : Int)) ∧ w'.cell? ⟨w.heap.size + 1, 1, none⟩ = some (.int .u64 (limb a 1 : Int)) ∧ w'.cell? ⟨w.heap.size + 1, 2, none⟩ = some (.int .u64 (limb a 2 : Int)) ∧ w'.cell? ⟨w.heap.size + 1, 3, none⟩ = some (.int .u64 (limb a 3 : Int))) ((first | (go_simp; done) | go_keep)) (first | (go_at_call 11; refine (alive_any _ HT.out).mono ?_; rintro e w1 ⟨rfl, hb1⟩; have B1 : Below w.heap.size w w1 := Below.call (by go_grown) hb1; have zB1 := B1.size; have y1 : w.heap.size + 1 < w1.heap.size := (by have := hb1.size; simp at this; omega); have x1 : w.heap.size < w1.heap.size := (by omega); have hc1 := bcell hb1) | (go_at_call 12; refine (subtract_any m a c hm ha hc _).mono ?_; rintro e w2 ⟨rfl, hb2⟩; have B2 : Below w.heap.size w w2 := Below.call (by go_grown) hb2; have zB2 := B2.size; have y2 : w.heap.size + 1 < w2.heap.size := (by have := hb2.size; omega); have x2 : w.heap.size < w2.heap.size := (by omega); have hc2 := bcell hb2) | (go_at_call 13; refine (rsubtract_any m a c hm ha _).mono ?_; rintro e w3 ⟨rfl, hb3⟩; have B3 : Below w.heap.size w w3 := Below.call (by go_grown) hb3; have zB3 := B3.size; have y3 : w.heap.size + 1 < w3.heap.size := (by have := hb3.size; omega); have x3 : w.heap.size < w3.heap.size := (by omega); have hc3 := bcell hb3))
  go_wp2
  go_ret
  exact ⟨rfl, by go_grown⟩
end Go.Proofs.YthmhdhamhlomoaaDoor
