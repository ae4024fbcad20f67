/-
  A field's Contains and Subtract.
-/
import Derived.Test.YtfaicnileghjiaaDoorLimb
namespace Go.Proofs.YtfaicnileghjiaaDoor
open Go.RowKit

set_option maxRecDepth 100000 in
set_option maxHeartbeats 1000000 in
theorem subtract_any {id i o0 o1 o2 o3 s0 s1 s2 s3 : Int} (m : Nat) (a c : Nat) (hm : m < B256) (ha : a < B256) (hc : c < B64) (w : World) :
    Calls Tryd.prog 58 #[.agg #[.int .i64 id, .int .u64 (limb m 0 : Int), .int .u64 (limb m 1 : Int), .int .u64 (limb m 2 : Int), .int .u64 (limb m 3 : Int), .int .u64 i, .int .u64 o0, .int .u64 o1, .int .u64 o2, .int .u64 o3, .int .u64 s0, .int .u64 s1, .int .u64 s2, .int .u64 s3], vec a, .int .u64 (c : Int)] w (Ret (vec (red m a c)) w) := by
  go_enter Tryd.func58, Tryd.ntmps58
  go_wp2_with fail
  refine (lsub_any a m ha hm _).mono ?_
  rintro e w1 ⟨rfl, hb1⟩
  have h_f : Blk w1 (w.heap.size) 28 [.int .i64 id, .int .u64 (limb m 0 : Int), .int .u64 (limb m 1 : Int), .int .u64 (limb m 2 : Int), .int .u64 (limb m 3 : Int), .int .u64 i, .int .u64 o0, .int .u64 o1, .int .u64 o2, .int .u64 o3, .int .u64 s0, .int .u64 s1, .int .u64 s2, .int .u64 s3] := Blk.keep (Blk.alloc (Blk.alloc (Blk.new (by simp)) _) _) hb1
  have h_a : Blk w1 (w.heap.size + 1) 24 [.int .u64 (limb a 0 : Int), .int .u64 (limb a 1 : Int), .int .u64 (limb a 2 : Int), .int .u64 (limb a 3 : Int)] := Blk.keep (Blk.alloc (Blk.new (by simp)) _) hb1
  have h_r : Blk w1 (w.heap.size + 1 + 1) 24 [.int .u64 0, .int .u64 0, .int .u64 0, .int .u64 0] := Blk.keep (Blk.new (by simp)) hb1
  have B1 : Below w.heap.size w w1 := Below.call (by go_grown) hb1
  have zB1 := B1.size
  have hbl : brw a m < B64 := Nat.lt_of_le_of_lt (brw_le a m) (by decide)
  have han := andNot_msk (brw a m) c
  have hch : msk (pick c 0 (brw a m)) < B64 := msk_lt _
  have RP := hid (red_pick m a c)
  have z_f := h_f.lt
  have z_a := h_a.lt
  have c_a0 := h_a.cell (i := 0) rfl
  have c_a1 := h_a.cell (i := 1) rfl
  have c_a2 := h_a.cell (i := 2) rfl
  have c_a3 := h_a.cell (i := 3) rfl
  have z_r := h_r.lt
  go_wp2_with fail
  refine wp_tail 7 (by kernel_rfl) (by kernel_rfl) ?_
  simp only [List.take_succ_cons, List.take_zero, List.drop_succ_cons, List.drop_zero]
  repeat still_step
  still_call ((fromBit_any _ hbl _).mono (fun e w' h => ⟨h.1, h.2.symm⟩))
  repeat still_step
  still_call ((fromBit_any c hc _).mono (fun e w' h => ⟨h.1, h.2.symm⟩))
  repeat still_step
  refine wpStill_nil ?_
  go_wp2_with fail
  refine (lchoose_any _ a (dif a m) hch _).mono ?_
  rintro e w2 ⟨rfl, hb2⟩
  clear z_f z_a c_a0 c_a1 c_a2 c_a3 z_r
  replace h_f := Blk.keep (Blk.drew (Blk.alloc (h_f) _)) hb2
  replace h_a := Blk.keep (Blk.drew (Blk.alloc (h_a) _)) hb2
  replace h_r := Blk.keep (Blk.drew (Blk.alloc (h_r) _)) hb2
  have h_d : Blk w2 (w1.heap.size) 24 [.int .u64 (limb (dif a m) 0 : Int), .int .u64 (limb (dif a m) 1 : Int), .int .u64 (limb (dif a m) 2 : Int), .int .u64 (limb (dif a m) 3 : Int)] := Blk.keep (Blk.drew (Blk.new (by simp))) hb2
  have B2 : Below w.heap.size w w2 := Below.call (by go_grown) hb2
  have zB2 := B2.size
  rw [RP.out]
  have z_f := h_f.lt
  have z_a := h_a.lt
  have z_r := h_r.lt
  have c_r0 := h_r.cell (i := 0) rfl
  have c_r1 := h_r.cell (i := 1) rfl
  have c_r2 := h_r.cell (i := 2) rfl
  have c_r3 := h_r.cell (i := 3) rfl
  have f_r0 := h_r.frozen 0
  have f_r1 := h_r.frozen 1
  have f_r2 := h_r.frozen 2
  have f_r3 := h_r.frozen 3
  have z_d := h_d.lt
  go_wp2
  refine bodyPost_ret (by simp only [results, Tryd.results58]; go_simp; try rfl) rfl ?_
  exact ⟨rfl, by go_grown⟩
end Go.Proofs.YtfaicnileghjiaaDoor
