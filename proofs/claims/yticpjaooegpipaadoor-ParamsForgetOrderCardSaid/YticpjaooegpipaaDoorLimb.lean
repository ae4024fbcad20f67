/-
  Numbers of 256 bits: difference, choice, comparison.
-/
import Derived.Test.YticpjaooegpipaaDoorMask
import Derived.LoopN
import Derived.Deep.RegionHeld3
import Derived.StillTailTactics
import Derived.Outline
namespace Go.Proofs.YticpjaooegpipaaDoor
open Go.RowKit

set_option maxHeartbeats 1000000 in
theorem apply_sub (a b : Nat) (ha : a < B256) (hb : b < B256) (w : World) :
    Calls Tryd.prog 41 #[.agg #[.func (.func 40) #[] #[]], vec a, vec b] w (Ret (.tuple #[vec (dif a b), .int .u64 (brw a b : Int)]) w) := by
  have hs := run_sub64
  go_enter Tryd.func41, Tryd.ntmps41
  go_wp2
  go_loopw [7, 8, 9] (fun c _ i wr => ∃ (k : Nat) (o : List Value), k ≤ 4 ∧ i = .int .i64 k ∧ c = .int .u64 (bor (limb a) (limb b) k : Int) ∧ Below w.heap.size w wr ∧
      Blk wr w.heap.size 77 [.func (.func 40) #[] #[]] ∧ Blk wr (w.heap.size + 1) 45 (limbs a) ∧ Blk wr (w.heap.size + 1 + 1) 45 (limbs b) ∧
      Blk wr (w.heap.size + 1 + 1 + 1) 45 o ∧ o.length = 4 ∧ ∀ j, j < k → o[j]? = some (.int .u64 (nsd (limb a j) (limb b j) (bor (limb a) (limb b) j) : Int)))
    (fun _ _ i _ => 4 - (intOf i).toNat)
  case atStart => exact ⟨0, [.int .u64 0, .int .u64 0, .int .u64 0, .int .u64 0], by omega, rfl, rfl, by go_grown, Blk.alloc (Blk.alloc (Blk.alloc (Blk.new (by simp)) _) _) _, Blk.alloc (Blk.alloc (Blk.new (by simp)) _) _, Blk.alloc (Blk.new (by simp)) _, Blk.new (by simp), rfl, fun j hj => by omega⟩
  case round =>
    obtain ⟨k, o, hk, rfl, rfl, hB, h0, h1, h2, h3, ho, hj⟩ := hrel
    by_cases hlt : k < 4
    · have cc := h0.cell (i := 0) rfl
      have ca := h1.cell (limbs_get a hlt)
      have cb := h2.cell (limbs_get b hlt)
      obtain ⟨ok, hok⟩ : ∃ v, o[k]? = some v := ⟨o[k], by simp⟩
      have co := h3.cell hok
      have fo := h3.frozen k
      have hbk := bor_le (limb a) (limb b) k
      have HJ := hid hj; clear hj
      have HO := hid hok; clear hok
      have HL := hid ho; clear ho
      clear ha hb
      go_wp2
      go_region_held3 (fun w' => w'.cell? ⟨w.heap.size, 0, none⟩ = some (.func (.func 40) #[] #[]) ∧ w'.cell? ⟨w.heap.size + 1, k, none⟩ = some (.int .u64 (limb a k : Int)) ∧ w'.cell? ⟨w.heap.size + 1 + 1, k, none⟩ = some (.int .u64 (limb b k : Int))) ((first | (go_simp; done) | go_keep)) (fail)
      go_wp2
      go_roundw
      case rel => exact ⟨k + 1, o.set k (.int .u64 (nsd (limb a k) (limb b k) (bor (limb a) (limb b) k) : Int)), by omega, by go_num, rfl, by go_grown, h0.other _ _ (by dsimp only; omega), h1.other _ _ (by dsimp only; omega), h2.other _ _ (by dsimp only; omega), h3.set k _, by simp [HL.out], row_set HJ.out HL.out hlt rfl⟩
      case measure => simp [intOf]; omega
    · obtain rfl : k = 4 := by omega
      obtain rfl := row_four hj ho
      have hv := hid (vec_dif ha hb)
      have hc := hid (dif_words ha hb).2
      have c0 := h3.cell (i := 0) rfl
      have f0 := h3.frozen 0
      have c1 := h3.cell (i := 1) rfl
      have f1 := h3.frozen 1
      have c2 := h3.cell (i := 2) rfl
      have f2 := h3.frozen 2
      have c3 := h3.cell (i := 3) rfl
      have f3 := h3.frozen 3
      clear hj ho ha hb
      go_wp2
      refine bodyPost_ret (by simp only [results, Tryd.results41]; go_simp; try rfl) rfl ?_
      exact ⟨by rw [hv.out, hc.out], by go_grown⟩

set_option maxHeartbeats 1000000 in
theorem lsub_any (a b : Nat) (ha : a < B256) (hb : b < B256) (w : World) :
    Calls Tryd.prog 38 #[vec a, vec b] w (Ret (.tuple #[vec (dif a b), .int .u64 (brw a b : Int)]) w) := by
  go_enter Tryd.func38, Tryd.ntmps38
  go_wp2_with fail
  refine (apply_sub a b ha hb _).mono ?_
  rintro e w1 ⟨rfl, hb1⟩
  have h_a : Blk w1 (w.heap.size) 45 [.int .u64 (limb a 0 : Int), .int .u64 (limb a 1 : Int), .int .u64 (limb a 2 : Int), .int .u64 (limb a 3 : Int)] := Blk.keep (Blk.alloc (Blk.alloc (Blk.new (by simp)) _) _) hb1
  have h_b : Blk w1 (w.heap.size + 1) 45 [.int .u64 (limb b 0 : Int), .int .u64 (limb b 1 : Int), .int .u64 (limb b 2 : Int), .int .u64 (limb b 3 : Int)] := Blk.keep (Blk.alloc (Blk.new (by simp)) _) hb1
  have h_r : Blk w1 (w.heap.size + 1 + 1) 45 [.int .u64 0, .int .u64 0, .int .u64 0, .int .u64 0] := Blk.keep (Blk.new (by simp)) hb1
  have B1 : Below w.heap.size w w1 := Below.call (by go_grown) hb1
  have zB1 := B1.size
  have z_a := h_a.lt
  have z_b := h_b.lt
  have z_r := h_r.lt
  have c_r0 := h_r.cell (i := 0) rfl
  have c_r1 := h_r.cell (i := 1) rfl
  have c_r2 := h_r.cell (i := 2) rfl
  have c_r3 := h_r.cell (i := 3) rfl
  have f_r0 := h_r.frozen 0
  have f_r1 := h_r.frozen 1
  have f_r2 := h_r.frozen 2
  have f_r3 := h_r.frozen 3
  go_wp2
  refine bodyPost_ret (by simp only [results, Tryd.results38]; go_simp; try rfl) rfl ?_
  exact ⟨rfl, by go_grown⟩

set_option maxHeartbeats 1000000 in
theorem lless_any (a b : Nat) (ha : a < B256) (hb : b < B256) (w : World) :
    Calls Tryd.prog 36 #[vec a, vec b] w (Ret (.int .u64 (msk (brw a b) : Int)) w) := by
  go_enter Tryd.func36, Tryd.ntmps36
  go_wp2_with fail
  refine (lsub_any a b ha hb _).mono ?_
  rintro e w1 ⟨rfl, hb1⟩
  have h_a : Blk w1 (w.heap.size) 45 [.int .u64 (limb a 0 : Int), .int .u64 (limb a 1 : Int), .int .u64 (limb a 2 : Int), .int .u64 (limb a 3 : Int)] := Blk.keep (Blk.alloc (Blk.new (by simp)) _) hb1
  have h_b : Blk w1 (w.heap.size + 1) 45 [.int .u64 (limb b 0 : Int), .int .u64 (limb b 1 : Int), .int .u64 (limb b 2 : Int), .int .u64 (limb b 3 : Int)] := Blk.keep (Blk.new (by simp)) hb1
  have B1 : Below w.heap.size w w1 := Below.call (by go_grown) hb1
  have zB1 := B1.size
  have hbr := brw_le a b
  have hbl : brw a b < B64 := Nat.lt_of_le_of_lt hbr (by decide)
  clear hbr
  go_wp2_with (go_at_call 39; refine (fromBit_any _ hbl _).mono ?_; rintro e w2 ⟨rfl, rfl⟩)
  go_ret
  exact ⟨rfl, by go_grown⟩
end Go.Proofs.YticpjaooegpipaaDoor
