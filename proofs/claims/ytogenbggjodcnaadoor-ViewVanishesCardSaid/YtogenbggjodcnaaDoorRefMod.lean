/-
  The reference's moduli.
-/
import Derived.Test.YtogenbggjodcnaaDoorBase
import Derived.Test.YtogenbggjodcnaaDoorPlainN
namespace Go.Proofs.YtogenbggjodcnaaDoor
open Go.RowKit

theorem rmodulus_1 (w : World) : Calls Tryd.prog 49 #[.int .i64 1] w (Ret (vec P1) w) := by
  go_enter Tryd.func49, Tryd.ntmps49
  go_wp2
  refine bodyPost_ret (by simp only [results, Tryd.results49]; go_simp; try rfl) rfl ?_
  exact ⟨by rw [← vec_P1], by go_grown⟩
theorem rmodulus_2 (w : World) : Calls Tryd.prog 49 #[.int .i64 2] w (Ret (vec P2) w) := by
  go_enter Tryd.func49, Tryd.ntmps49
  go_wp2
  refine bodyPost_ret (by simp only [results, Tryd.results49]; go_simp; try rfl) rfl ?_
  exact ⟨by rw [← vec_P2], by go_grown⟩
theorem rmodulus_0 (i : Int) (h1 : i ≠ 1) (h2 : i ≠ 2) (w : World) : Calls Tryd.prog 49 #[.int .i64 i] w (Ret (vec 0) w) := by
  have d1 : (i == 1) = false := by simp [h1]
  have d2 : (i == 2) = false := by simp [h2]
  clear h1 h2
  go_enter Tryd.func49, Tryd.ntmps49
  go_wp2
  refine bodyPost_ret (by simp only [results, Tryd.results49]; go_simp; try rfl) rfl ?_
  exact ⟨by rw [← vec_zero], by go_grown⟩

end Go.Proofs.YtogenbggjodcnaaDoor
