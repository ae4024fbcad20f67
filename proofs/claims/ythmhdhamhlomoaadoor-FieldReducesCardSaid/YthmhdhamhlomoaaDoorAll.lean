/-
  All: the numbers of the fields.
-/
import Derived.Test.YthmhdhamhlomoaaDoorGet
import Derived.Maps.AppendAt
namespace Go.Proofs.YthmhdhamhlomoaaDoor
open Go.RowKit

theorem info_int : (Tryd.prog.info? 3).map (fun i => (i.zero, i.size, i.bytes)) = some (some (.int .i64 0), 1, 8) := by kernel_rfl
set_option maxRecDepth 100000 in
set_option maxHeartbeats 2000000 in
theorem all_any (w : World) (hT : Tab w) :
    Calls Tryd.prog 23 #[] w (RetOwn 3 1 2 [.int .i64 1, .int .i64 2] w) := by
  obtain ⟨i0, hi, hz0, hz1, hz2⟩ := info_parts info_int
  have x0 := index_fields_0
  have x1 := index_fields_1
  have hT' := hid hT
  clear hT
  go_enter Tryd.func23, Tryd.ntmps23
  go_wp2_with (refine wpList_load_mid rfl 51 _ rfl 0 0 rfl tabCells _ hT'.out Tryd.underlying51 rfl (by kernel_rfl) ?_)
  generalize hc : tabCells.toArray = tc at *
  clear hc
  refine wp_loop_rounds 3 ?_
  rw [rounds_succ]
  go_wp2_with (at_builtin; go_loud (refine wpList_append_own _ rfl _ _ 48 rfl w.heap.size 3 i0 (.int .i64 0) 1 8 Tryd.underlying48 hi hz0 hz1 hz2 rfl (by decide) _ 0 _ rfl (World.ownsRow_nil _ _ _ _) ⟨w.heap.size + 1, 0, none⟩ 1 1 [.int .i64 1] rfl rfl (Blk.news (Blk.new (by simp))) (by simp [Value.oneCell']) (by unfold maxLen; omega) (by omega) (by simp; try omega) ?_); intro v1 w1 hown1 hgrow1 _)
  have B1 : Below w.heap.size w w1 := Below.grown (by go_grown) hgrow1 (by simp; try omega) (fun k e => by cases e)
  have zB1 := B1.size
  simp only [Nat.zero_add, List.nil_append] at hown1
  rw [rounds_succ]
  go_wp2_with (at_builtin; go_loud (refine wpList_append_own _ rfl _ _ 48 rfl w.heap.size 3 i0 (.int .i64 0) 1 8 Tryd.underlying48 hi hz0 hz1 hz2 rfl (by decide) _ 1 _ rfl ((hown1.alloc _).alloc _) ⟨w1.heap.size + 1, 0, none⟩ 1 1 [.int .i64 2] rfl rfl (Blk.news (Blk.new (by simp))) (by simp [Value.oneCell']) (by unfold maxLen; omega) (by omega) (by simp; try omega) ?_); intro v2 w2 hown2 hgrow2 _)
  have B2 : Below w.heap.size w w2 := Below.grown (by go_grown) hgrow2 (by simp; try omega) (fun k e => (hown1.lt k e).1)
  rw [rounds_succ]
  go_wp2
  go_ret
  exact ⟨_, rfl, hown2, B2⟩
end Go.Proofs.YthmhdhamhlomoaaDoor
