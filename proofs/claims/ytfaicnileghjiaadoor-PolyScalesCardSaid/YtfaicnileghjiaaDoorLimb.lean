/-
  Numbers of 256 bits: difference, choice, comparison.
-/
import Derived.Test.YtfaicnileghjiaaDoorMask
import Derived.LoopN
import Derived.Deep.RegionHeld3
import Derived.StillTailTactics
import Derived.Outline
namespace Go.Proofs.YtfaicnileghjiaaDoor
open Go.RowKit

set_option maxRecDepth 100000 in
set_option maxHeartbeats 1000000 in
theorem apply_sub (a b : Nat) (ha : a < B256) (hb : b < B256) (w : World) :
    Calls Tryd.prog 68 #[.agg #[.func (.func 73) #[] #[]], vec a, vec b] w (Ret (.tuple #[vec (dif a b), .int .u64 (brw a b : Int)]) w) := by
  have hs := run_sub64
  go_enter Tryd.func68, Tryd.ntmps68
  go_wp2
  go_loopw [7, 8, 9] (fun c _ i wr => ∃ (k : Nat) (o : List Value), k ≤ 4 ∧ i = .int .i64 k ∧ c = .int .u64 (bor (limb a) (limb b) k : Int) ∧ Below w.heap.size w wr ∧
      Blk wr w.heap.size 102 [.func (.func 73) #[] #[]] ∧ Blk wr (w.heap.size + 1) 24 (limbs a) ∧ Blk wr (w.heap.size + 1 + 1) 24 (limbs b) ∧
      Blk wr (w.heap.size + 1 + 1 + 1) 24 o ∧ o.length = 4 ∧ ∀ j, j < k → o[j]? = some (.int .u64 (nsd (limb a j) (limb b j) (bor (limb a) (limb b) j) : Int)))
    (fun _ _ i _ => 4 - (intOf i).toNat)
  case atStart => exact ⟨0, [.int .u64 0, .int .u64 0, .int .u64 0, .int .u64 0], by omega, rfl, rfl, by go_grown, Blk.alloc (Blk.alloc (Blk.alloc (Blk.new (by simp)) _) _) _, Blk.alloc (Blk.alloc (Blk.new (by simp)) _) _, Blk.alloc (Blk.new (by simp)) _, Blk.new (by simp), rfl, fun j hj => by omega⟩
  case round =>
    obtain ⟨k, o, hk, rfl, rfl, hB, h0, h1, h2, h3, ho, hj⟩ := hrel
    by_cases hlt : k < 4
    · have cc := h0.cell (i := 0) rfl
      have ca := h1.cell (limbs_get a hlt)
      have cb := h2.cell (limbs_get b hlt)
      obtain ⟨ok, hok⟩ : ∃ v, o[k]? = some v := ⟨o[k], by simp⟩
      have co := h3.cell hok
      have fo := h3.frozen k
      have hbk := bor_le (limb a) (limb b) k
      have HJ := hid hj; clear hj
      have HO := hid hok; clear hok
      have HL := hid ho; clear ho
      clear ha hb
      go_wp2
      go_region_held3 (fun w' => w'.cell? ⟨w.heap.size, 0, none⟩ = some (.func (.func 73) #[] #[]) ∧ w'.cell? ⟨w.heap.size + 1, k, none⟩ = some (.int .u64 (limb a k : Int)) ∧ w'.cell? ⟨w.heap.size + 1 + 1, k, none⟩ = some (.int .u64 (limb b k : Int))) ((first | (go_simp; done) | go_keep)) (fail)
      go_wp2
      go_roundw
      case rel => exact ⟨k + 1, o.set k (.int .u64 (nsd (limb a k) (limb b k) (bor (limb a) (limb b) k) : Int)), by omega, by go_num, rfl, by go_grown, h0.other _ _ (by dsimp only; omega), h1.other _ _ (by dsimp only; omega), h2.other _ _ (by dsimp only; omega), h3.set k _, by simp [HL.out], row_set HJ.out HL.out hlt rfl⟩
      case measure => simp [intOf]; omega
    · obtain rfl : k = 4 := by omega
      obtain rfl := row_four hj ho
      have hv := hid (vec_dif ha hb)
      have hc := hid (dif_words ha hb).2
      have c0 := h3.cell (i := 0) rfl
      have f0 := h3.frozen 0
      have c1 := h3.cell (i := 1) rfl
      have f1 := h3.frozen 1
      have c2 := h3.cell (i := 2) rfl
      have f2 := h3.frozen 2
      have c3 := h3.cell (i := 3) rfl
      have f3 := h3.frozen 3
      clear hj ho ha hb
      go_wp2
      refine bodyPost_ret (by simp only [results, Tryd.results68]; go_simp; try rfl) rfl ?_
      exact ⟨by rw [hv.out, hc.out], by go_grown⟩

set_option maxRecDepth 100000 in
set_option maxHeartbeats 1000000 in
theorem lsub_any (a b : Nat) (ha : a < B256) (hb : b < B256) (w : World) :
    Calls Tryd.prog 65 #[vec a, vec b] w (Ret (.tuple #[vec (dif a b), .int .u64 (brw a b : Int)]) w) := by
  go_enter Tryd.func65, Tryd.ntmps65
  go_wp2_with fail
  refine (apply_sub a b ha hb _).mono ?_
  rintro e w1 ⟨rfl, hb1⟩
  have h_a : Blk w1 (w.heap.size) 24 [.int .u64 (limb a 0 : Int), .int .u64 (limb a 1 : Int), .int .u64 (limb a 2 : Int), .int .u64 (limb a 3 : Int)] := Blk.keep (Blk.alloc (Blk.alloc (Blk.new (by simp)) _) _) hb1
  have h_b : Blk w1 (w.heap.size + 1) 24 [.int .u64 (limb b 0 : Int), .int .u64 (limb b 1 : Int), .int .u64 (limb b 2 : Int), .int .u64 (limb b 3 : Int)] := Blk.keep (Blk.alloc (Blk.new (by simp)) _) hb1
  have h_r : Blk w1 (w.heap.size + 1 + 1) 24 [.int .u64 0, .int .u64 0, .int .u64 0, .int .u64 0] := Blk.keep (Blk.new (by simp)) hb1
  have B1 : Below w.heap.size w w1 := Below.call (by go_grown) hb1
  have zB1 := B1.size
  have z_a := h_a.lt
  have z_b := h_b.lt
  have z_r := h_r.lt
  have c_r0 := h_r.cell (i := 0) rfl
  have c_r1 := h_r.cell (i := 1) rfl
  have c_r2 := h_r.cell (i := 2) rfl
  have c_r3 := h_r.cell (i := 3) rfl
  have f_r0 := h_r.frozen 0
  have f_r1 := h_r.frozen 1
  have f_r2 := h_r.frozen 2
  have f_r3 := h_r.frozen 3
  go_wp2
  refine bodyPost_ret (by simp only [results, Tryd.results65]; go_simp; try rfl) rfl ?_
  exact ⟨rfl, by go_grown⟩

set_option maxRecDepth 100000 in
set_option maxHeartbeats 1000000 in
theorem lchoose_any (c a b : Nat) (hc : c < B64) (w : World) :
    Calls Tryd.prog 66 #[.int .u64 (c : Int), vec a, vec b] w (Ret (vec (pick c a b)) w) := by
  go_enter Tryd.func66, Tryd.ntmps66
  go_wp2_with (go_at_call 67; refine (fromBit_any c hc _).mono ?_; rintro e w' ⟨rfl, rfl⟩)
  go_loopw [7, 10] (fun _ i wr => ∃ (k : Nat) (o : List Value), k ≤ 4 ∧ i = .int .i64 k ∧ Below w.heap.size w wr ∧
      Blk wr w.heap.size 24 o ∧ Blk wr (w.heap.size + 1) 24 (limbs b) ∧ Blk wr (w.heap.size + 1 + 1) 24 [.int .u64 0, .int .u64 0, .int .u64 0, .int .u64 0] ∧
      o.length = 4 ∧ (∀ j, j < k → o[j]? = some (.int .u64 (pick c (limb a j) (limb b j) : Int))) ∧ ∀ j, k ≤ j → o[j]? = (limbs a)[j]?)
    (fun _ i _ => 4 - (intOf i).toNat)
  case atStart => exact ⟨0, limbs a, by omega, rfl, by go_grown, Blk.alloc (Blk.alloc (Blk.new (by simp)) _) _, Blk.alloc (Blk.new (by simp)) _, Blk.new (by simp), rfl, fun j hj => by omega, fun j _ => rfl⟩
  case round =>
    obtain ⟨k, o, hk, rfl, hB, h0, h1, h2, ho, hj, hj2⟩ := hrel
    by_cases hlt : k < 4
    · have ca := h0.cell ((hj2 k (Nat.le_refl _)).trans (limbs_get a hlt))
      have cb := h1.cell (limbs_get b hlt)
      have fo := h0.frozen k
      have la := limb_lt a k
      have lb := limb_lt b k
      have HJ := hid hj; clear hj
      have HJ2 := hid hj2; clear hj2
      have HL := hid ho; clear ho
      clear hc
      go_wp2
      refine wp_tail 10 (by kernel_rfl) (by kernel_rfl) ?_
      simp only [List.take_succ_cons, List.take_zero, List.drop_succ_cons, List.drop_zero]
      repeat still_step
      still_call ((mchoose_any c _ _ la lb _).mono (fun e w' h => ⟨h.1, h.2.symm⟩))
      repeat still_step
      refine wpStill_nil ?_
      go_wp2
      go_roundw
      case rel => exact ⟨k + 1, o.set k (.int .u64 (pick c (limb a k) (limb b k) : Int)), by omega, by go_num, by go_grown, h0.set k _, h1.other _ _ (by dsimp only; omega), h2.other _ _ (by dsimp only; omega), by simp [HL.out], row_set HJ.out HL.out hlt rfl, fun j hj => by rw [List.getElem?_set_ne (by omega)]; exact HJ2.out j (by omega)⟩
      case measure => simp [intOf]; omega
    · obtain rfl : k = 4 := by omega
      obtain rfl := row_four hj ho
      have hv := hid (show (.agg #[.int .u64 (pick c (limb a 0) (limb b 0) : Int), .int .u64 (pick c (limb a 1) (limb b 1) : Int), .int .u64 (pick c (limb a 2) (limb b 2) : Int), .int .u64 (pick c (limb a 3) (limb b 3) : Int)] : Value) = vec (pick c a b) by rw [vec, limb_pick, limb_pick, limb_pick, limb_pick])
      have c0 := h0.cell (i := 0) rfl
      have c1 := h0.cell (i := 1) rfl
      have c2 := h0.cell (i := 2) rfl
      have c3 := h0.cell (i := 3) rfl
      have r0 := h2.cell (i := 0) rfl
      have f0 := h2.frozen 0
      have r1 := h2.cell (i := 1) rfl
      have f1 := h2.frozen 1
      have r2 := h2.cell (i := 2) rfl
      have f2 := h2.frozen 2
      have r3 := h2.cell (i := 3) rfl
      have f3 := h2.frozen 3
      clear hj hj2 ho
      go_wp2
      refine bodyPost_ret (by simp only [results, Tryd.results66]; go_simp; try rfl) rfl ?_
      exact ⟨by rw [hv.out], by go_grown⟩

end Go.Proofs.YtfaicnileghjiaaDoor
