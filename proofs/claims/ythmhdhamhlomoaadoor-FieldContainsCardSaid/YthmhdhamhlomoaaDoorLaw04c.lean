/-
  FieldContains: the walk.
-/
import Derived.Test.YthmhdhamhlomoaaDoorLaw04
import Derived.Test.YthmhdhamhlomoaaDoorRef3b
namespace Go.Proofs.YthmhdhamhlomoaaDoor
open Go.RowKit

set_option maxRecDepth 100000 in
set_option maxHeartbeats 4000000 in
theorem contains_law (m a : Nat) (hm : m < B256) (ha : a < B256) (w : World) (hT : Tab w) :
    Calls Tryd.prog 6 #[vec m, vec a] w (Ret (.bool true) w) := by
  have HT := hid ((hT.alloc (.cells #[.int .u64 (limb m 0 : Int), .int .u64 (limb m 1 : Int), .int .u64 (limb m 2 : Int), .int .u64 (limb m 3 : Int)] 23)).alloc (.cells #[.int .u64 (limb a 0 : Int), .int .u64 (limb a 1 : Int), .int .u64 (limb a 2 : Int), .int .u64 (limb a 3 : Int)] 23)).drew
  clear hT
  go_enter Tryd.func6, Tryd.ntmps6
  go_wp2
  go_region_held3 (fun w' => w'.cell? ⟨w.heap.size, 0, none⟩ = some (.int .u64 (limb m 0 : Int)) ∧ w'.cell? ⟨w.heap.size, 1, none⟩ = some (.int .u64 (limb m 1 : Int)) ∧ w'.cell? ⟨w.heap.size, 2, none⟩ = some (.int .u64 (limb m 2 : Int)) ∧ w'.cell? ⟨w.heap.size, 3, none⟩ = some (.int .u64 (limb m 3 : Int)) ∧ w'.cell? ⟨w.heap.size + 1, 0, none⟩ = some (.int .u64 (limb a 0 : Int)) ∧ w'.cell? ⟨w.heap.size + 1, 1, none⟩ = some (.int .u64 (limb a 1 : Int)) ∧ w'.cell? ⟨w.heap.size + 1, 2, none⟩ = some (.int .u64 (limb a 2 : Int)) ∧ w'.cell? ⟨w.heap.size + 1, 3, none⟩ = some (.int .u64 (limb a 3 : Int))) ((first | (go_simp; done) | go_keep)) (first | (go_at_call 11; refine (alive_any _ HT.out).mono ?_; rintro e w1 ⟨rfl, hb1⟩; have B1 : Below w.heap.size w w1 := Below.call (by go_grown) hb1; have zB1 := B1.size; have y1_0 : w.heap.size < w1.heap.size := (by have this := hb1.size; (try simp at this); omega); have y1_1 : w.heap.size + 1 < w1.heap.size := (by have this := hb1.size; (try simp at this); omega); have hc1 := bcell hb1) | (go_at_call 18; refine (contains_any m a hm ha _).mono ?_; rintro e w2 ⟨rfl, hb2⟩; have B2 : Below w.heap.size w w2 := Below.call (by go_grown) hb2; have zB2 := B2.size; have y2_0 : w.heap.size < w2.heap.size := (by have this := hb2.size; (try simp at this); omega); have y2_1 : w.heap.size + 1 < w2.heap.size := (by have this := hb2.size; (try simp at this); omega); have hc2 := bcell hb2) | (go_at_call 20; refine (r3less_any a m ha hm _).mono ?_; rintro e w3 ⟨rfl, hb3⟩; have B3 : Below w.heap.size w w3 := Below.call (by go_grown) hb3; have zB3 := B3.size; have y3_0 : w.heap.size < w3.heap.size := (by have this := hb3.size; (try simp at this); omega); have y3_1 : w.heap.size + 1 < w3.heap.size := (by have this := hb3.size; (try simp at this); omega); have hc3 := bcell hb3) | (go_at_call 19; refine (r1mask_any a m _).mono ?_; rintro e w4 ⟨rfl, rfl⟩))
  go_wp2
  go_ret
  exact ⟨rfl, by go_grown⟩
end Go.Proofs.YthmhdhamhlomoaaDoor
