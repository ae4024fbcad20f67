/-
  ParamsCheck: the walk.
-/
import Derived.Test.YticpjaooegpipaaDoorParAlive
namespace Go.Proofs.YticpjaooegpipaaDoor
open Go.RowKit

set_option maxRecDepth 100000 in
set_option maxHeartbeats 4000000 in
theorem check_law (f t s n : Int) (w : World) (hT : Tab w) : Calls Tryd.prog 3 #[.agg #[.int .i64 f, .int .i64 t, .int .i64 s, .int .i64 n]] w (Ret (.bool true) w) := by
  have HT := hid hT
  have HT0 := hid (hT.alloc (.cells #[.int .i64 f, .int .i64 t, .int .i64 s, .int .i64 n] 23)).drew
  clear hT
  go_enter Tryd.func3, Tryd.ntmps3
  go_wp2
  go_region_held3 (fun w' => w'.cell? ⟨w.heap.size, 0, none⟩ = some (.int .i64 f) ∧ w'.cell? ⟨w.heap.size, 1, none⟩ = some (.int .i64 t) ∧ w'.cell? ⟨w.heap.size, 2, none⟩ = some (.int .i64 s) ∧ w'.cell? ⟨w.heap.size, 3, none⟩ = some (.int .i64 n)) ((first | (go_simp; done) | go_keep)) (first | (go_at_call 9; refine (alive_any _ HT0.out).mono ?_; rintro e w1 ⟨rfl, hb1⟩; have B1 : Below w.heap.size w w1 := Below.call (by go_grown) hb1; have zB1 := B1.size; have y1 : w.heap.size < w1.heap.size := (by have this := hb1.size; (try simp at this); omega); have hc1 := bcell hb1) | (go_at_call 10; refine (pcheck_any f t s n _ (HT.out.below B1 (Nat.le_refl _))).mono ?_; rintro e w2 ⟨rfl, hb2⟩; have B2 : Below w.heap.size w w2 := Below.call (by go_grown) hb2; have zB2 := B2.size; have y2 : w.heap.size < w2.heap.size := (by have this := hb2.size; (try simp at this); omega); have hc2 := bcell hb2) | (go_at_call 11; refine (rcheck_any f t s n _).mono ?_; rintro e w3 ⟨rfl, hb3⟩; have B3 : Below w.heap.size w w3 := Below.call (by go_grown) hb3; have zB3 := B3.size; have y3 : w.heap.size < w3.heap.size := (by have this := hb3.size; (try simp at this); omega); have hc3 := bcell hb3) | (go_at_call 12; refine (prandom_any f t s n _ (HT.out.below B3 (Nat.le_refl _))).mono ?_; rintro e w4 ⟨rfl, hb4⟩; have B4 : Below w.heap.size w w4 := Below.call (by go_grown) hb4; have zB4 := B4.size; have y4 : w.heap.size < w4.heap.size := (by have this := hb4.size; (try simp at this); omega); have hc4 := bcell hb4) | (go_at_call 13; refine (rrandom_any f t s n _).mono ?_; rintro e w5 ⟨rfl, hb5⟩; have B5 : Below w.heap.size w w5 := Below.call (by go_grown) hb5; have zB5 := B5.size; have y5 : w.heap.size < w5.heap.size := (by have this := hb5.size; (try simp at this); omega); have hc5 := bcell hb5))
  go_wp2
  go_ret
  exact ⟨rfl, by go_grown⟩
end Go.Proofs.YticpjaooegpipaaDoor
