/-
  The table of the fields, and Get.
-/
import Derived.Test.YtogenbggjodcnaaDoorLimbs
import Derived.Test.YtogenbggjodcnaaDoorPlainN
import Derived.Deep.MidRow
namespace Go.Proofs.YtogenbggjodcnaaDoor
open Go.RowKit

/-- The table's cells. -/
noncomputable def tabCells : List Value := [.int .i64 1, .int .u64 (limb P1 0 : Int), .int .u64 (limb P1 1 : Int), .int .u64 (limb P1 2 : Int), .int .u64 (limb P1 3 : Int), .int .u64 (I1 : Int), .int .u64 (limb O1 0 : Int), .int .u64 (limb O1 1 : Int), .int .u64 (limb O1 2 : Int), .int .u64 (limb O1 3 : Int), .int .u64 (limb S1 0 : Int), .int .u64 (limb S1 1 : Int), .int .u64 (limb S1 2 : Int), .int .u64 (limb S1 3 : Int), .int .i64 2, .int .u64 (limb P2 0 : Int), .int .u64 (limb P2 1 : Int), .int .u64 (limb P2 2 : Int), .int .u64 (limb P2 3 : Int), .int .u64 (I2 : Int), .int .u64 (limb O2 0 : Int), .int .u64 (limb O2 1 : Int), .int .u64 (limb O2 2 : Int), .int .u64 (limb O2 3 : Int), .int .u64 (limb S2 0 : Int), .int .u64 (limb S2 1 : Int), .int .u64 (limb S2 2 : Int), .int .u64 (limb S2 3 : Int)]
/-- The table lies in the variable's block. -/
def Tab (w : World) : Prop := w.rangeAt 0 0 tabCells
theorem Tab.keep {w w' : World} (h : Tab w) (hb : Below w.heap.size w w') : Tab w' := fun j v hv => by
  have e := h j v hv
  rw [hb.cell (p := ⟨0, 0 + j, none⟩) (World.block_lt_of_cell? w _ e)]; exact e
theorem Tab.below {w w' : World} {B : Nat} (h : Tab w) (hb : Below B w w') (hB : w.heap.size ≤ B) : Tab w' := h.keep (hb.mono hB)
theorem Tab.alloc {w : World} (h : Tab w) (o : Obj) : Tab (w.alloc o) := h.keep ((Below.refl _ w).alloc (Nat.le_refl _) o)
theorem Tab.drew {w : World} (h : Tab w) : Tab w.drew := h
theorem Tab.pos {w : World} (h : Tab w) : 0 < w.heap.size := World.block_lt_of_cell? w _ (h 0 _ rfl)

/-- The zero field. -/
abbrev fld0 : Value := .agg #[.int .i64 0, .int .u64 0, .int .u64 0, .int .u64 0, .int .u64 0, .int .u64 0, .int .u64 0, .int .u64 0, .int .u64 0, .int .u64 0, .int .u64 0, .int .u64 0, .int .u64 0, .int .u64 0]

theorem index_fields_0 (w : World) : (Instr.index 133 (.agg tabCells.toArray) (.int .i64 0)).run Tryd.prog w = .ok (fld 1 P1 I1 O1 S1) w := by kernel_rfl
theorem index_fields_1 (w : World) : (Instr.index 133 (.agg tabCells.toArray) (.int .i64 1)).run Tryd.prog w = .ok (fld 2 P2 I2 O2 S2) w := by kernel_rfl

set_option maxRecDepth 100000 in
set_option maxHeartbeats 2000000 in
theorem get_1 (w : World) (hT : Tab w) :
    Calls Tryd.prog 56 #[.int .i64 1] w (Ret (.tuple #[fld 1 P1 I1 O1 S1, .int .i64 0]) w) := by
  have i0 := index_fields_0
  have i1 := index_fields_1
  have hT' := hid (hT.alloc (.cells #[.int .i64 0, .int .u64 0, .int .u64 0, .int .u64 0, .int .u64 0, .int .u64 0, .int .u64 0, .int .u64 0, .int .u64 0, .int .u64 0, .int .u64 0, .int .u64 0, .int .u64 0, .int .u64 0] 31))
  clear hT
  go_enter Tryd.func56, Tryd.ntmps56
  go_wp2_with (refine wpList_load_mid rfl 133 _ rfl 0 0 rfl tabCells _ hT'.out Tryd.underlying133 rfl (by kernel_rfl) ?_)
  generalize hc : tabCells.toArray = tc at *
  clear hc
  refine wp_loop_rounds 3 ?_
  rw [rounds_succ]; go_wp2
  refine bodyPost_ret (by simp only [results, Tryd.results56]; go_simp; try rfl) rfl ?_
  exact ⟨rfl, by go_grown⟩

set_option maxRecDepth 100000 in
set_option maxHeartbeats 2000000 in
theorem get_2 (w : World) (hT : Tab w) :
    Calls Tryd.prog 56 #[.int .i64 2] w (Ret (.tuple #[fld 2 P2 I2 O2 S2, .int .i64 0]) w) := by
  have i0 := index_fields_0
  have i1 := index_fields_1
  have hT' := hid (hT.alloc (.cells #[.int .i64 0, .int .u64 0, .int .u64 0, .int .u64 0, .int .u64 0, .int .u64 0, .int .u64 0, .int .u64 0, .int .u64 0, .int .u64 0, .int .u64 0, .int .u64 0, .int .u64 0, .int .u64 0] 31))
  clear hT
  go_enter Tryd.func56, Tryd.ntmps56
  go_wp2_with (refine wpList_load_mid rfl 133 _ rfl 0 0 rfl tabCells _ hT'.out Tryd.underlying133 rfl (by kernel_rfl) ?_)
  generalize hc : tabCells.toArray = tc at *
  clear hc
  refine wp_loop_rounds 3 ?_
  rw [rounds_succ]; go_wp2
  rw [rounds_succ]; go_wp2
  refine bodyPost_ret (by simp only [results, Tryd.results56]; go_simp; try rfl) rfl ?_
  exact ⟨rfl, by go_grown⟩

set_option maxRecDepth 100000 in
set_option maxHeartbeats 2000000 in
theorem get_0 (i : Int) (h1 : i ≠ 1) (h2 : i ≠ 2) (w : World) (hT : Tab w) :
    Calls Tryd.prog 56 #[.int .i64 i] w (Ret (.tuple #[fld0, .int .i64 3]) w) := by
  have i0 := index_fields_0
  have i1 := index_fields_1
  have hT' := hid (hT.alloc (.cells #[.int .i64 0, .int .u64 0, .int .u64 0, .int .u64 0, .int .u64 0, .int .u64 0, .int .u64 0, .int .u64 0, .int .u64 0, .int .u64 0, .int .u64 0, .int .u64 0, .int .u64 0, .int .u64 0] 31))
  clear hT
  have d1 : ((1 : Int) == i) = false := by simp; omega
  have d2 : ((2 : Int) == i) = false := by simp; omega
  clear h1 h2
  go_enter Tryd.func56, Tryd.ntmps56
  go_wp2_with (refine wpList_load_mid rfl 133 _ rfl 0 0 rfl tabCells _ hT'.out Tryd.underlying133 rfl (by kernel_rfl) ?_)
  generalize hc : tabCells.toArray = tc at *
  clear hc
  refine wp_loop_rounds 3 ?_
  rw [rounds_succ]; go_wp2
  rw [rounds_succ]; go_wp2
  rw [rounds_succ]; go_wp2
  refine bodyPost_ret (by simp only [results, Tryd.results56]; go_simp; try rfl) rfl ?_
  exact ⟨rfl, by go_grown⟩
end Go.Proofs.YtogenbggjodcnaaDoor
