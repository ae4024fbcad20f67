/-
  get, form.
-/
import Derived.Test.YtogenbggjodcnaaDoorRefV
import Derived.Test.YtogenbggjodcnaaDoorGet
import Derived.Deep.RegionWith
namespace Go.Proofs.YtogenbggjodcnaaDoor
open Go.RowKit

theorem lform_any (p v : Nat) (hp : p < B256) (h1 : 1 < p) (hv : v < B256) (w : World) : Calls Tryd.prog 58 #[vec p, vec v] w (Ret (vec (frm p v)) w) := by
  go_enter Tryd.func58, Tryd.ntmps58
  go_wp2_with fail
  refine (rform_any p v hp h1 hv _).mono ?_
  rintro e w1 ⟨rfl, hb1⟩
  have h_p : Blk w1 (w.heap.size) 28 [.int .u64 (limb p 0 : Int), .int .u64 (limb p 1 : Int), .int .u64 (limb p 2 : Int), .int .u64 (limb p 3 : Int)] := Blk.keep (Blk.alloc (Blk.alloc (Blk.new (by simp)) _) _) hb1
  have h_v : Blk w1 (w.heap.size + 1) 28 [.int .u64 (limb v 0 : Int), .int .u64 (limb v 1 : Int), .int .u64 (limb v 2 : Int), .int .u64 (limb v 3 : Int)] := Blk.keep (Blk.alloc (Blk.new (by simp)) _) hb1
  have h_r : Blk w1 (w.heap.size + 1 + 1) 29 [.int .u64 0, .int .u64 0, .int .u64 0, .int .u64 0] := Blk.keep (Blk.new (by simp)) hb1
  have B1 : Below w.heap.size w w1 := Below.call (by go_grown) hb1
  have zB1 := B1.size
  have z_p := h_p.lt
  have z_v := h_v.lt
  have z_r := h_r.lt
  have c_r0 := h_r.cell (i := 0) rfl
  have c_r1 := h_r.cell (i := 1) rfl
  have c_r2 := h_r.cell (i := 2) rfl
  have c_r3 := h_r.cell (i := 3) rfl
  have f_r0 := h_r.frozen 0
  have f_r1 := h_r.frozen 1
  have f_r2 := h_r.frozen 2
  have f_r3 := h_r.frozen 3
  go_wp2
  refine bodyPost_ret (by simp only [results, Tryd.results58]; go_simp; try rfl) rfl ?_
  exact ⟨rfl, by go_grown⟩
set_option maxRecDepth 100000 in
theorem id_any (s : Bool) (w : World) : Calls Tryd.prog 57 #[.bool s] w fun e w' => e = .returned (.int .i64 (fID s)) ∧ w = w' := by
  cases s <;>
  · go_enter Tryd.func57, Tryd.ntmps57
    go_wp2
    go_ret
    exact ⟨rfl, rfl⟩
theorem get_sec (s : Bool) (w : World) (hT : Tab w) : Calls Tryd.prog 56 #[.int .i64 (fID s)] w (Ret (.tuple #[FV s, .int .i64 0]) w) := by
  cases s
  · exact get_1 w hT
  · exact get_2 w hT
theorem modulus_sec (s : Bool) (w : World) : Calls Tryd.prog 49 #[.int .i64 (fID s)] w (Ret (vec (fP s)) w) := by
  cases s
  · exact rmodulus_1 w
  · exact rmodulus_2 w
end Go.Proofs.YtogenbggjodcnaaDoor
