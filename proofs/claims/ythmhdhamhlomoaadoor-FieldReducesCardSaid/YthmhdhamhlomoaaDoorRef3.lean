/-
  The reference of layer 3: numbers as sixteen digits.
-/
import Derived.Test.YthmhdhamhlomoaaDoorBase
import Derived.Test.YthmhdhamhlomoaaDoorNum16
import Derived.LoopN
import Derived.Deep.RegionHeld3
import Derived.Test.YthmhdhamhlomoaaDoorMask
import Derived.BigQuiet
import Derived.Deep.QuietTactic
import Derived.Outline
namespace Go.Proofs.YthmhdhamhlomoaaDoor
open Go.RowKit
theorem info_int : (Tryd.prog.info? 3).map (fun i => (i.zero, i.size, i.bytes)) = some (some (.int .i64 0), 1, 8) := by kernel_rfl

set_option maxHeartbeats 2000000 in
theorem digits_any (a : Nat) (w : World) : Calls Tryd.prog 35 #[vec a] w (RetOwn 3 1 16 (digs (dig a) 16) w) := by
  obtain ⟨i0, hi, hz0, hz1, hz2⟩ := info_parts info_int
  go_enter Tryd.func35, Tryd.ntmps35
  go_wp2
  go_loopw [3, 4, 5, 6] (fun v i _ _ wr => ∃ k : Nat, k ≤ 4 ∧ i = .int .i64 (k : Int) ∧ Below w.heap.size w wr ∧ Blk wr w.heap.size 23 (limbs a) ∧ wr.ownsRow (w.heap.size + 1) 3 1 v (4 * k) (digs (dig a) (4 * k)))
    (fun _ i _ _ _ => 4 - (intOf i).toNat)
  case atStart => exact ⟨0, by omega, rfl, by go_grown, Blk.new (by simp), World.ownsRow_nil _ _ _ _⟩
  case round =>
    obtain ⟨k, hk, rfl, hB, h0, hown⟩ := hrel
    have zB := hB.size
    have zA := h0.lt
    by_cases hlt : k < 4
    · have ca := h0.cell (limbs_get a hlt)
      have hL := limb_lt a k
      have OW := hid hown
      clear hown
      have d8 : decide ((k : Int) < 4) = true := by simp; omega
      go_wp2
      obtain ⟨wo, hwo⟩ : ∃ wo : World, wo = wr := ⟨_, rfl⟩
      clear hwo
      go_loopw [3, 5, 6] (fun v x j wr => ∃ m : Nat, m ≤ 4 ∧ j = .int .i64 (m : Int) ∧ x = .int .u64 (sh16 (limb a k) m : Int) ∧ Below w.heap.size w wr ∧ Blk wr w.heap.size 23 (limbs a) ∧ wr.ownsRow (w.heap.size + 1) 3 1 v (4 * k + m) (digs (dig a) (4 * k + m)))
        (fun _ _ j _ => 4 - (intOf j).toNat)
      case atStart => exact ⟨0, by omega, rfl, by rw [sh16_zero], hB, h0, OW.out⟩
      case round =>
        clear OW ca h0 hB zB zA
        obtain ⟨m, hm, rfl, rfl, hB, h0, hown⟩ := hrel
        have zB := hB.size
        have zA := h0.lt
        have hS := sh16_lt m hL
        have hS2 : (sh16 (limb a k) m : Int) ≤ 18446744073709551615 := by unfold B64 at hS; omega
        have OW := hid hown
        clear hS hown
        by_cases hm4 : m < 4
        · have DL := hid (dig_limb a k m hm4)
          have SS := hid (sh16_succ (limb a k) m)
          have DS := hid (digs_succ (dig a) (4 * k + m))
          go_wp2_with (at_builtin; refine wpList_append_own _ rfl _ _ 48 rfl (w.heap.size + 1) 3 i0 (.int .i64 0) 1 8 Tryd.underlying48 hi hz0 hz1 hz2 rfl (by decide) _ (4 * k + m) _ rfl (OW.out.alloc _) ⟨wr.heap.size, 0, none⟩ 1 1 _ rfl rfl (Blk.news (Blk.new rfl)) (by simp [Value.oneCell']) (by unfold maxLen; omega) (by omega) (by simp; try omega) ?_; intro v1 w1 hown1 hgrow1 _; have HG := hid hgrow1; have HO := hid hown1; clear hgrow1 hown1)
          go_roundw
          case rel =>
            have B1 : Below w.heap.size w w1 := Below.grown (by go_grown) HG.out (by simp; omega) (fun q e => by have := (OW.out.lt q e).1; omega)
            refine ⟨m + 1, by omega, by go_num, ?_, B1, Blk.grown (h0.alloc _) HG.out (fun e => by have := (OW.out.lt _ e.symm).1; omega), ?_⟩
            · rw [← SS.out]; go_num
            · have e1 := DS.out
              have h1 := HO.out
              rw [show 4 * k + (m + 1) = 4 * k + m + 1 by omega, e1, ← DL.out]
              simpa using h1
          case measure => simp [intOf]; omega
        · obtain rfl : m = 4 := by omega
          go_wp2
          go_roundw
          case rel => exact ⟨k + 1, by omega, by go_num, hB, h0, by rw [show 4 * (k + 1) = 4 * k + 4 by omega]; exact OW.out⟩
          case measure => simp [intOf]; omega
    · obtain rfl : k = 4 := by omega
      go_wp2
      go_ret
      exact ⟨_, rfl, owns_mono hown (by omega), hB⟩

set_option maxRecDepth 100000 in
set_option maxHeartbeats 2000000 in
theorem rvec_any (g n cap from16 : Nat) (f : Nat → Nat) (hf : ∀ i, f i < 65536) (hn : from16 + 16 ≤ n) (hb : from16 ≤ 1000) (w : World) (hd : ∀ i, i < 16 → w.cell? ⟨g, from16 + i, none⟩ = some (.int .i64 (f i : Int))) :
    Calls Tryd.prog 36 #[.slice (some ⟨g, 0, none⟩) n cap, .int .i64 (from16 : Int)] w (Ret (vec (num f 16)) w) := by
  have HD := hid hd
  clear hd
  go_enter Tryd.func36, Tryd.ntmps36
  go_wp2
  go_loopw [6, 7, 8] (fun i _ _ wr => ∃ (k : Nat) (o : List Value), k ≤ 16 ∧ i = .int .i64 (k : Int) ∧ Below w.heap.size w wr ∧ Blk wr w.heap.size 23 [.int .u64 0, .int .u64 0, .int .u64 0, .int .u64 0] ∧ Blk wr (w.heap.size + 1) 23 o ∧ o.length = 4 ∧ ∀ j, j < 4 → o[j]? = some (.int .u64 (acc f k j : Int)))
    (fun i _ _ _ => 16 - (intOf i).toNat)
  case atStart => exact ⟨0, _, by omega, rfl, by go_grown, Blk.alloc (Blk.new (by simp)) _, Blk.new (b := w.heap.size + 1) (xs := [.int .u64 0, .int .u64 0, .int .u64 0, .int .u64 0]) (by simp), rfl, fun j hj => by match j, hj with | 0, _ => rfl | 1, _ => rfl | 2, _ => rfl | 3, _ => rfl⟩
  case round =>
    obtain ⟨k, o, hk, rfl, hB, h0, h1, ho, hj⟩ := hrel
    have zB := hB.size
    have zA := h1.lt
    by_cases hlt : k < 16
    · have HO := hid ho
      have HJ := hid hj
      clear ho hj
      have d8 : decide ((k : Int) < 16) = true := by simp; omega
      go_wp2
      obtain ⟨wo, hwo⟩ : ∃ wo : World, wo = wr := ⟨_, rfl⟩
      clear hwo
      go_loop [7, 8] (fun u j => ∃ m : Nat, m ≤ k % 4 ∧ j = .int .i64 (m : Int) ∧ u = .int .u64 (pw m : Int)) (fun _ j => 4 - (intOf j).toNat)
      case atStart => exact ⟨0, by omega, rfl, by rw [pw_zero]; rfl⟩
      case round =>
        obtain ⟨m, hm, rfl, rfl⟩ := hrel
        by_cases hm4 : m < k % 4
        · have PS := pw_succ m (by omega)
          go_wp2
          go_round
          case rel => exact ⟨m + 1, by omega, by go_num, rfl⟩
          case measure => simp [intOf]; omega
        · obtain rfl : m = k % 4 := by omega
          have hq : k / 4 < 4 := by omega
          have co := h1.cell (HJ.out (k / 4) hq)
          have fo := h1.frozen (k / 4)
          have cd : wr.cell? ⟨g, from16 + k, none⟩ = some (.int .i64 (f k : Int)) := by
            have h := HD.out k hlt
            rw [hB.cell (p := ⟨g, from16 + k, none⟩) (World.block_lt_of_cell? w _ h)]; exact h
          have hfk := hf k
          have AW := acc_word hf k
          have hconv : IntKind.u64.wrap (f k : Int) = (f k : Int) := IntWalk.u64_in _ (by omega)
          have i1 : IntKind.i64.wrap ((k : Int) / 4) = (k : Int) / 4 := IntWalk.i64_in _ (by omega)
          have i2 : ((k : Int) / 4).toNat = k / 4 := by omega
          have i3 : 0 ≤ (k : Int) / 4 := by omega
          have i4 : (k : Int) / 4 < 4 := by omega
          have i5 : IntKind.i64.wrap ((from16 : Int) + (k : Int)) = (from16 : Int) + (k : Int) := IntWalk.i64_in _ (by omega)
          have i6 : ((from16 : Int) + (k : Int)).toNat = from16 + k := by omega
          have i7 : 0 ≤ (from16 : Int) + (k : Int) := by omega
          have i8 : (from16 : Int) + (k : Int) < n := by omega
          clear hf
          go_wp2
          refine wp_tail 15 (by kernel_rfl) (by kernel_rfl) ?_
          simp only [List.take_succ_cons, List.take_zero, List.drop_succ_cons, List.drop_zero]
          repeat still_step
          refine wpStill_nil ?_
          go_wp2
          go_roundw
          case rel => exact ⟨k + 1, o.set (k / 4) (.int .u64 (acc f (k + 1) (k / 4) : Int)), by omega, by go_num, by go_grown, h0.other _ _ (by dsimp only; omega), h1.set (k / 4) _, by simp [HO.out], fun j hj => by
            by_cases e : k / 4 = j
            · subst e; rw [List.getElem?_set_self (by rw [HO.out]; omega)]
            · rw [List.getElem?_set_ne e, HJ.out j hj, acc_other f k j e]⟩
          case measure => simp [intOf]; omega
    · obtain rfl : k = 16 := by omega
      obtain rfl := row_four hj ho
      have hv := hid (show (.agg #[.int .u64 (acc f 16 0 : Int), .int .u64 (acc f 16 1 : Int), .int .u64 (acc f 16 2 : Int), .int .u64 (acc f 16 3 : Int)] : Value) = vec (num f 16) by rw [vec_words (acc_lt64 hf 0) (acc_lt64 hf 1) (acc_lt64 hf 2) (acc_lt64 hf 3), val4_acc])
      have c0 := h1.cell (i := 0) rfl
      have c1 := h1.cell (i := 1) rfl
      have c2 := h1.cell (i := 2) rfl
      have c3 := h1.cell (i := 3) rfl
      have r0 := h0.cell (i := 0) rfl
      have f0 := h0.frozen 0
      have r1 := h0.cell (i := 1) rfl
      have f1 := h0.frozen 1
      have r2 := h0.cell (i := 2) rfl
      have f2 := h0.frozen 2
      have r3 := h0.cell (i := 3) rfl
      have f3 := h0.frozen 3
      clear hf hj ho
      go_wp2
      refine bodyPost_ret (by simp only [results, Tryd.results36]; go_simp; try rfl) rfl ?_
      exact ⟨by rw [hv.out], by go_grown⟩
end Go.Proofs.YthmhdhamhlomoaaDoor
