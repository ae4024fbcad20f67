/-
  The reference of layer 4: One, Mod, Modulus, Radix, Pow, Inverse.
-/
import Derived.Test.YtfaicnileghjiaaDoorRef4c
import Derived.Deep.RegionWith
namespace Go.Proofs.YtfaicnileghjiaaDoor
open Go.RowKit

theorem rone_any (w : World) :
    Calls Tryd.prog 37 #[] w fun e w' => e = .returned (vec 1) ∧ w.alloc (.cells #[.int .u64 1, .int .u64 0, .int .u64 0, .int .u64 0] 24) = w' := by
  go_enter Tryd.func37, Tryd.ntmps37
  go_wp2
  refine bodyPost_ret (by simp only [results, Tryd.results37]; go_simp; try rfl) rfl ?_
  exact ⟨by rw [vec_one], rfl⟩

set_option maxHeartbeats 1000000 in
theorem rmod_any (p a : Nat) (hp : p < B256) (h1 : 1 < p) (ha : a < B256) (w : World) :
    Calls Tryd.prog 12 #[vec p, vec a] w (Ret (vec (mulm p 1 a)) w) := by
  go_enter Tryd.func12, Tryd.ntmps12
  go_wp2
  go_region_with (first | (go_at_call 37; refine (rone_any _).mono ?_; rintro e w' ⟨rfl, rfl⟩) | (go_at_call 21; refine (rmul_any p 1 a hp h1 ha _).mono ?_; rintro e w1 ⟨rfl, hb1⟩; have h_r : Blk w1 (w.heap.size + 1 + 1) 24 [.int .u64 0, .int .u64 0, .int .u64 0, .int .u64 0] := Blk.keep (Blk.drew (Blk.alloc (Blk.new (by simp)) _)) hb1; have c0 := h_r.cell (i := 0) rfl; have c1 := h_r.cell (i := 1) rfl; have c2 := h_r.cell (i := 2) rfl; have c3 := h_r.cell (i := 3) rfl; have f0 := h_r.frozen 0; have f1 := h_r.frozen 1; have f2 := h_r.frozen 2; have f3 := h_r.frozen 3; have B1 : Below w.heap.size w w1 := Below.call (by go_grown) hb1))
  all_goals (go_wp2; (refine bodyPost_ret (by simp only [results, Tryd.results12]; go_simp; try rfl) rfl ?_); exact ⟨rfl, by go_grown⟩)
end Go.Proofs.YtfaicnileghjiaaDoor
