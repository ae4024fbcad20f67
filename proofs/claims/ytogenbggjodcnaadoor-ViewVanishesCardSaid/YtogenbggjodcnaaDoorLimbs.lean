/-
  The words, the fields and the sums of elements.
-/
import Derived.Test.YtogenbggjodcnaaDoorBase
import Derived.Test.YtogenbggjodcnaaDoorPlainN
import Derived.StillTailTactics
import Derived.LoopN
import Derived.Deep.RegionHeld3
import Derived.Outline
import Derived.Lib.Mul64
import Derived.Laws.Bits64b
/-
  Masks of bits, and the choice of a word by a mask.
-/
namespace Go.Proofs.YtogenbggjodcnaaDoor
open Go.RowKit

/-- A region that draws its order: all but the last operations read or call quietly; the last ones come in one order. -/
theorem wp_tail {P : Program} {id : Nat} {Q : Exit → Act → World → Prop} {a : Act} {w : World} {l : List Oper} (n : Nat) (hm : P.follows .mixedOrders = true) (hB : Region.lexTailB .any l.toArray n = true)
    (h : wpStill P l.toArray w.drew (fun a' => wpList P l.toArray Q (l.drop n) a' w.drew) (l.take n) a) : (Code.region id l.toArray true).wp P Q a w := wp_region_still_tail n hm hB h

theorem fromBit_any (b : Nat) (hb : b < B64) (w : World) :
    Calls Tryd.prog 62 #[.int .u64 (b : Int)] w fun e w' => e = .returned (.int .u64 (msk b : Int)) ∧ w = w' := by
  have h := hid (fromBit_word b hb)
  clear hb
  go_enter Tryd.func62, Tryd.ntmps62
  go_wp2
  go_ret
  exact ⟨by rw [← h.out]; rfl, rfl⟩
theorem mchoose_any (c a b : Nat) (ha : a < B64) (hb : b < B64) (w : World) :
    Calls Tryd.prog 139 #[.int .u64 (msk c : Int), .int .u64 (a : Int), .int .u64 (b : Int)] w fun e w' => e = .returned (.int .u64 (pick c a b : Int)) ∧ w = w' := by
  have h := hid (choose_word c a b ha hb)
  clear ha hb
  go_enter Tryd.func139, Tryd.ntmps139
  go_wp2
  go_ret
  exact ⟨by rw [← h.out]; rfl, rfl⟩
end Go.Proofs.YtogenbggjodcnaaDoor
/-
  Numbers of 256 bits: difference, choice, comparison.
-/
namespace Go.Proofs.YtogenbggjodcnaaDoor
open Go.RowKit

set_option maxRecDepth 100000 in
set_option maxHeartbeats 1000000 in
theorem apply_sub (a b : Nat) (ha : a < B256) (hb : b < B256) (w : World) :
    Calls Tryd.prog 138 #[.agg #[.func (.func 137) #[] #[]], vec a, vec b] w (Ret (.tuple #[vec (dif a b), .int .u64 (brw a b : Int)]) w) := by
  have hs := run_sub64
  go_enter Tryd.func138, Tryd.ntmps138
  go_wp2
  go_loopw [7, 8, 9] (fun c _ i wr => ∃ (k : Nat) (o : List Value), k ≤ 4 ∧ i = .int .i64 k ∧ c = .int .u64 (bor (limb a) (limb b) k : Int) ∧ Below w.heap.size w wr ∧
      Blk wr w.heap.size 183 [.func (.func 137) #[] #[]] ∧ Blk wr (w.heap.size + 1) 28 (limbs a) ∧ Blk wr (w.heap.size + 1 + 1) 28 (limbs b) ∧
      Blk wr (w.heap.size + 1 + 1 + 1) 28 o ∧ o.length = 4 ∧ ∀ j, j < k → o[j]? = some (.int .u64 (nsd (limb a j) (limb b j) (bor (limb a) (limb b) j) : Int)))
    (fun _ _ i _ => 4 - (intOf i).toNat)
  case atStart => exact ⟨0, [.int .u64 0, .int .u64 0, .int .u64 0, .int .u64 0], by omega, rfl, rfl, by go_grown, Blk.alloc (Blk.alloc (Blk.alloc (Blk.new (by simp)) _) _) _, Blk.alloc (Blk.alloc (Blk.new (by simp)) _) _, Blk.alloc (Blk.new (by simp)) _, Blk.new (by simp), rfl, fun j hj => by omega⟩
  case round =>
    obtain ⟨k, o, hk, rfl, rfl, hB, h0, h1, h2, h3, ho, hj⟩ := hrel
    by_cases hlt : k < 4
    · have cc := h0.cell (i := 0) rfl
      have ca := h1.cell (limbs_get a hlt)
      have cb := h2.cell (limbs_get b hlt)
      obtain ⟨ok, hok⟩ : ∃ v, o[k]? = some v := ⟨o[k], by simp⟩
      have co := h3.cell hok
      have fo := h3.frozen k
      have hbk := bor_le (limb a) (limb b) k
      have HJ := hid hj; clear hj
      have HO := hid hok; clear hok
      have HL := hid ho; clear ho
      clear ha hb
      go_wp2
      go_region_held3 (fun w' => w'.cell? ⟨w.heap.size, 0, none⟩ = some (.func (.func 137) #[] #[]) ∧ w'.cell? ⟨w.heap.size + 1, k, none⟩ = some (.int .u64 (limb a k : Int)) ∧ w'.cell? ⟨w.heap.size + 1 + 1, k, none⟩ = some (.int .u64 (limb b k : Int))) ((first | (go_simp; done) | go_keep)) (fail)
      go_wp2
      go_roundw
      case rel => exact ⟨k + 1, o.set k (.int .u64 (nsd (limb a k) (limb b k) (bor (limb a) (limb b) k) : Int)), by omega, by go_num, rfl, by go_grown, h0.other _ _ (by dsimp only; omega), h1.other _ _ (by dsimp only; omega), h2.other _ _ (by dsimp only; omega), h3.set k _, by simp [HL.out], row_set HJ.out HL.out hlt rfl⟩
      case measure => simp [intOf]; omega
    · obtain rfl : k = 4 := by omega
      obtain rfl := row_four hj ho
      have hv := hid (vec_dif ha hb)
      have hc := hid (dif_words ha hb).2
      have c0 := h3.cell (i := 0) rfl
      have f0 := h3.frozen 0
      have c1 := h3.cell (i := 1) rfl
      have f1 := h3.frozen 1
      have c2 := h3.cell (i := 2) rfl
      have f2 := h3.frozen 2
      have c3 := h3.cell (i := 3) rfl
      have f3 := h3.frozen 3
      clear hj ho ha hb
      go_wp2
      refine bodyPost_ret (by simp only [results, Tryd.results138]; go_simp; try rfl) rfl ?_
      exact ⟨by rw [hv.out, hc.out], by go_grown⟩

set_option maxRecDepth 100000 in
set_option maxHeartbeats 1000000 in
theorem lsub_any (a b : Nat) (ha : a < B256) (hb : b < B256) (w : World) :
    Calls Tryd.prog 114 #[vec a, vec b] w (Ret (.tuple #[vec (dif a b), .int .u64 (brw a b : Int)]) w) := by
  go_enter Tryd.func114, Tryd.ntmps114
  go_wp2_with fail
  refine (apply_sub a b ha hb _).mono ?_
  rintro e w1 ⟨rfl, hb1⟩
  have h_a : Blk w1 (w.heap.size) 28 [.int .u64 (limb a 0 : Int), .int .u64 (limb a 1 : Int), .int .u64 (limb a 2 : Int), .int .u64 (limb a 3 : Int)] := Blk.keep (Blk.alloc (Blk.alloc (Blk.new (by simp)) _) _) hb1
  have h_b : Blk w1 (w.heap.size + 1) 28 [.int .u64 (limb b 0 : Int), .int .u64 (limb b 1 : Int), .int .u64 (limb b 2 : Int), .int .u64 (limb b 3 : Int)] := Blk.keep (Blk.alloc (Blk.new (by simp)) _) hb1
  have h_r : Blk w1 (w.heap.size + 1 + 1) 28 [.int .u64 0, .int .u64 0, .int .u64 0, .int .u64 0] := Blk.keep (Blk.new (by simp)) hb1
  have B1 : Below w.heap.size w w1 := Below.call (by go_grown) hb1
  have zB1 := B1.size
  have z_a := h_a.lt
  have z_b := h_b.lt
  have z_r := h_r.lt
  have c_r0 := h_r.cell (i := 0) rfl
  have c_r1 := h_r.cell (i := 1) rfl
  have c_r2 := h_r.cell (i := 2) rfl
  have c_r3 := h_r.cell (i := 3) rfl
  have f_r0 := h_r.frozen 0
  have f_r1 := h_r.frozen 1
  have f_r2 := h_r.frozen 2
  have f_r3 := h_r.frozen 3
  go_wp2
  refine bodyPost_ret (by simp only [results, Tryd.results114]; go_simp; try rfl) rfl ?_
  exact ⟨rfl, by go_grown⟩

set_option maxRecDepth 100000 in
set_option maxHeartbeats 1000000 in
theorem lchoose_any (c a b : Nat) (hc : c < B64) (w : World) :
    Calls Tryd.prog 116 #[.int .u64 (c : Int), vec a, vec b] w (Ret (vec (pick c a b)) w) := by
  go_enter Tryd.func116, Tryd.ntmps116
  go_wp2_with (go_at_call 62; refine (fromBit_any c hc _).mono ?_; rintro e w' ⟨rfl, rfl⟩)
  go_loopw [7, 10] (fun _ i wr => ∃ (k : Nat) (o : List Value), k ≤ 4 ∧ i = .int .i64 k ∧ Below w.heap.size w wr ∧
      Blk wr w.heap.size 28 o ∧ Blk wr (w.heap.size + 1) 28 (limbs b) ∧ Blk wr (w.heap.size + 1 + 1) 28 [.int .u64 0, .int .u64 0, .int .u64 0, .int .u64 0] ∧
      o.length = 4 ∧ (∀ j, j < k → o[j]? = some (.int .u64 (pick c (limb a j) (limb b j) : Int))) ∧ ∀ j, k ≤ j → o[j]? = (limbs a)[j]?)
    (fun _ i _ => 4 - (intOf i).toNat)
  case atStart => exact ⟨0, limbs a, by omega, rfl, by go_grown, Blk.alloc (Blk.alloc (Blk.new (by simp)) _) _, Blk.alloc (Blk.new (by simp)) _, Blk.new (by simp), rfl, fun j hj => by omega, fun j _ => rfl⟩
  case round =>
    obtain ⟨k, o, hk, rfl, hB, h0, h1, h2, ho, hj, hj2⟩ := hrel
    by_cases hlt : k < 4
    · have ca := h0.cell ((hj2 k (Nat.le_refl _)).trans (limbs_get a hlt))
      have cb := h1.cell (limbs_get b hlt)
      have fo := h0.frozen k
      have la := limb_lt a k
      have lb := limb_lt b k
      have HJ := hid hj; clear hj
      have HJ2 := hid hj2; clear hj2
      have HL := hid ho; clear ho
      clear hc
      go_wp2
      refine wp_tail 10 (by kernel_rfl) (by kernel_rfl) ?_
      simp only [List.take_succ_cons, List.take_zero, List.drop_succ_cons, List.drop_zero]
      repeat still_step
      still_call ((mchoose_any c _ _ la lb _).mono (fun e w' h => ⟨h.1, h.2.symm⟩))
      repeat still_step
      refine wpStill_nil ?_
      go_wp2
      go_roundw
      case rel => exact ⟨k + 1, o.set k (.int .u64 (pick c (limb a k) (limb b k) : Int)), by omega, by go_num, by go_grown, h0.set k _, h1.other _ _ (by dsimp only; omega), h2.other _ _ (by dsimp only; omega), by simp [HL.out], row_set HJ.out HL.out hlt rfl, fun j hj => by rw [List.getElem?_set_ne (by omega)]; exact HJ2.out j (by omega)⟩
      case measure => simp [intOf]; omega
    · obtain rfl : k = 4 := by omega
      obtain rfl := row_four hj ho
      have hv := hid (show (.agg #[.int .u64 (pick c (limb a 0) (limb b 0) : Int), .int .u64 (pick c (limb a 1) (limb b 1) : Int), .int .u64 (pick c (limb a 2) (limb b 2) : Int), .int .u64 (pick c (limb a 3) (limb b 3) : Int)] : Value) = vec (pick c a b) by rw [vec, limb_pick, limb_pick, limb_pick, limb_pick])
      have c0 := h0.cell (i := 0) rfl
      have c1 := h0.cell (i := 1) rfl
      have c2 := h0.cell (i := 2) rfl
      have c3 := h0.cell (i := 3) rfl
      have r0 := h2.cell (i := 0) rfl
      have f0 := h2.frozen 0
      have r1 := h2.cell (i := 1) rfl
      have f1 := h2.frozen 1
      have r2 := h2.cell (i := 2) rfl
      have f2 := h2.frozen 2
      have r3 := h2.cell (i := 3) rfl
      have f3 := h2.frozen 3
      clear hj hj2 ho
      go_wp2
      refine bodyPost_ret (by simp only [results, Tryd.results116]; go_simp; try rfl) rfl ?_
      exact ⟨by rw [hv.out], by go_grown⟩

set_option maxRecDepth 100000 in
set_option maxHeartbeats 1000000 in
theorem lless_any (a b : Nat) (ha : a < B256) (hb : b < B256) (w : World) :
    Calls Tryd.prog 90 #[vec a, vec b] w (Ret (.int .u64 (msk (brw a b) : Int)) w) := by
  go_enter Tryd.func90, Tryd.ntmps90
  go_wp2_with fail
  refine (lsub_any a b ha hb _).mono ?_
  rintro e w1 ⟨rfl, hb1⟩
  have h_a : Blk w1 (w.heap.size) 28 [.int .u64 (limb a 0 : Int), .int .u64 (limb a 1 : Int), .int .u64 (limb a 2 : Int), .int .u64 (limb a 3 : Int)] := Blk.keep (Blk.alloc (Blk.new (by simp)) _) hb1
  have h_b : Blk w1 (w.heap.size + 1) 28 [.int .u64 (limb b 0 : Int), .int .u64 (limb b 1 : Int), .int .u64 (limb b 2 : Int), .int .u64 (limb b 3 : Int)] := Blk.keep (Blk.new (by simp)) hb1
  have B1 : Below w.heap.size w w1 := Below.call (by go_grown) hb1
  have zB1 := B1.size
  have hbr := brw_le a b
  have hbl : brw a b < B64 := Nat.lt_of_le_of_lt hbr (by decide)
  clear hbr
  go_wp2_with (go_at_call 62; refine (fromBit_any _ hbl _).mono ?_; rintro e w2 ⟨rfl, rfl⟩)
  go_ret
  exact ⟨rfl, by go_grown⟩
end Go.Proofs.YtogenbggjodcnaaDoor
/-
  A field's Contains and Subtract.
-/
namespace Go.Proofs.YtogenbggjodcnaaDoor
open Go.RowKit

set_option maxRecDepth 100000 in
set_option maxHeartbeats 1000000 in
theorem contains_any {id i o0 o1 o2 o3 s0 s1 s2 s3 : Int} (m : Nat) (a : Nat) (hm : m < B256) (ha : a < B256) (w : World) :
    Calls Tryd.prog 55 #[.agg #[.int .i64 id, .int .u64 (limb m 0 : Int), .int .u64 (limb m 1 : Int), .int .u64 (limb m 2 : Int), .int .u64 (limb m 3 : Int), .int .u64 i, .int .u64 o0, .int .u64 o1, .int .u64 o2, .int .u64 o3, .int .u64 s0, .int .u64 s1, .int .u64 s2, .int .u64 s3], vec a] w (Ret (.int .u64 (msk (brw a m) : Int)) w) := by
  go_enter Tryd.func55, Tryd.ntmps55
  go_wp2_with fail
  refine (lless_any a m ha hm _).mono ?_
  rintro e w1 ⟨rfl, hb1⟩
  have B1 : Below w.heap.size w w1 := Below.call (by go_grown) hb1
  have zB1 := B1.size
  go_wp2
  go_ret
  exact ⟨rfl, by go_grown⟩

set_option maxRecDepth 100000 in
set_option maxHeartbeats 1000000 in
theorem subtract_any {id i o0 o1 o2 o3 s0 s1 s2 s3 : Int} (m : Nat) (a c : Nat) (hm : m < B256) (ha : a < B256) (hc : c < B64) (w : World) :
    Calls Tryd.prog 125 #[.agg #[.int .i64 id, .int .u64 (limb m 0 : Int), .int .u64 (limb m 1 : Int), .int .u64 (limb m 2 : Int), .int .u64 (limb m 3 : Int), .int .u64 i, .int .u64 o0, .int .u64 o1, .int .u64 o2, .int .u64 o3, .int .u64 s0, .int .u64 s1, .int .u64 s2, .int .u64 s3], vec a, .int .u64 (c : Int)] w (Ret (vec (red m a c)) w) := by
  go_enter Tryd.func125, Tryd.ntmps125
  go_wp2_with fail
  refine (lsub_any a m ha hm _).mono ?_
  rintro e w1 ⟨rfl, hb1⟩
  have h_f : Blk w1 (w.heap.size) 31 [.int .i64 id, .int .u64 (limb m 0 : Int), .int .u64 (limb m 1 : Int), .int .u64 (limb m 2 : Int), .int .u64 (limb m 3 : Int), .int .u64 i, .int .u64 o0, .int .u64 o1, .int .u64 o2, .int .u64 o3, .int .u64 s0, .int .u64 s1, .int .u64 s2, .int .u64 s3] := Blk.keep (Blk.alloc (Blk.alloc (Blk.new (by simp)) _) _) hb1
  have h_a : Blk w1 (w.heap.size + 1) 28 [.int .u64 (limb a 0 : Int), .int .u64 (limb a 1 : Int), .int .u64 (limb a 2 : Int), .int .u64 (limb a 3 : Int)] := Blk.keep (Blk.alloc (Blk.new (by simp)) _) hb1
  have h_r : Blk w1 (w.heap.size + 1 + 1) 28 [.int .u64 0, .int .u64 0, .int .u64 0, .int .u64 0] := Blk.keep (Blk.new (by simp)) hb1
  have B1 : Below w.heap.size w w1 := Below.call (by go_grown) hb1
  have zB1 := B1.size
  have hbl : brw a m < B64 := Nat.lt_of_le_of_lt (brw_le a m) (by decide)
  have han := andNot_msk (brw a m) c
  have hch : msk (pick c 0 (brw a m)) < B64 := msk_lt _
  have RP := hid (red_pick m a c)
  have z_f := h_f.lt
  have z_a := h_a.lt
  have c_a0 := h_a.cell (i := 0) rfl
  have c_a1 := h_a.cell (i := 1) rfl
  have c_a2 := h_a.cell (i := 2) rfl
  have c_a3 := h_a.cell (i := 3) rfl
  have z_r := h_r.lt
  go_wp2_with fail
  refine wp_tail 7 (by kernel_rfl) (by kernel_rfl) ?_
  simp only [List.take_succ_cons, List.take_zero, List.drop_succ_cons, List.drop_zero]
  repeat still_step
  still_call ((fromBit_any _ hbl _).mono (fun e w' h => ⟨h.1, h.2.symm⟩))
  repeat still_step
  still_call ((fromBit_any c hc _).mono (fun e w' h => ⟨h.1, h.2.symm⟩))
  repeat still_step
  refine wpStill_nil ?_
  go_wp2_with fail
  refine (lchoose_any _ a (dif a m) hch _).mono ?_
  rintro e w2 ⟨rfl, hb2⟩
  clear z_f z_a c_a0 c_a1 c_a2 c_a3 z_r
  replace h_f := Blk.keep (Blk.drew (Blk.alloc (h_f) _)) hb2
  replace h_a := Blk.keep (Blk.drew (Blk.alloc (h_a) _)) hb2
  replace h_r := Blk.keep (Blk.drew (Blk.alloc (h_r) _)) hb2
  have h_d : Blk w2 (w1.heap.size) 28 [.int .u64 (limb (dif a m) 0 : Int), .int .u64 (limb (dif a m) 1 : Int), .int .u64 (limb (dif a m) 2 : Int), .int .u64 (limb (dif a m) 3 : Int)] := Blk.keep (Blk.drew (Blk.new (by simp))) hb2
  have B2 : Below w.heap.size w w2 := Below.call (by go_grown) hb2
  have zB2 := B2.size
  rw [RP.out]
  have z_f := h_f.lt
  have z_a := h_a.lt
  have z_r := h_r.lt
  have c_r0 := h_r.cell (i := 0) rfl
  have c_r1 := h_r.cell (i := 1) rfl
  have c_r2 := h_r.cell (i := 2) rfl
  have c_r3 := h_r.cell (i := 3) rfl
  have f_r0 := h_r.frozen 0
  have f_r1 := h_r.frozen 1
  have f_r2 := h_r.frozen 2
  have f_r3 := h_r.frozen 3
  have z_d := h_d.lt
  go_wp2
  refine bodyPost_ret (by simp only [results, Tryd.results125]; go_simp; try rfl) rfl ?_
  exact ⟨rfl, by go_grown⟩
end Go.Proofs.YtogenbggjodcnaaDoor
/-
  The sum of two numbers.
-/
namespace Go.Proofs.YtogenbggjodcnaaDoor
open Go.RowKit

set_option maxRecDepth 100000 in
theorem run_add64 (x y c : Nat) (hc : c ≤ 1) (w : World) :
    Sem.run Tryd.prog (callFunc 124 #[.int .u64 (x : Int), .int .u64 (y : Int), .int .u64 (c : Int)]) w = .ok (.value (.tuple #[.int .u64 (nas x y c : Int), .int .u64 (nac x y c : Int)])) w := by
  have h : c = 0 ∨ c = 1 := by omega
  rw [nas_eq, nac_eq]
  rcases h with rfl | rfl <;> rfl
set_option maxRecDepth 100000 in
theorem run_add64_0 (x y : Nat) (w : World) :
    Sem.run Tryd.prog (callFunc 124 #[.int .u64 (x : Int), .int .u64 (y : Int), .int .u64 0]) w = .ok (.value (.tuple #[.int .u64 (nas x y 0 : Int), .int .u64 (nac x y 0 : Int)])) w := run_add64 x y 0 (by omega) w
set_option maxRecDepth 100000 in
set_option maxHeartbeats 1000000 in
theorem apply_add (a b : Nat) (ha : a < B256) (hb : b < B256) (w : World) :
    Calls Tryd.prog 138 #[.agg #[.func (.func 124) #[] #[]], vec a, vec b] w (Ret (.tuple #[vec (sum a b), .int .u64 (cry a b : Int)]) w) := by
  have hs := run_add64
  go_enter Tryd.func138, Tryd.ntmps138
  go_wp2
  go_loopw [7, 8, 9] (fun c _ i wr => ∃ (k : Nat) (o : List Value), k ≤ 4 ∧ i = .int .i64 k ∧ c = .int .u64 (car (limb a) (limb b) k : Int) ∧ Below w.heap.size w wr ∧
      Blk wr w.heap.size 183 [.func (.func 124) #[] #[]] ∧ Blk wr (w.heap.size + 1) 28 (limbs a) ∧ Blk wr (w.heap.size + 1 + 1) 28 (limbs b) ∧
      Blk wr (w.heap.size + 1 + 1 + 1) 28 o ∧ o.length = 4 ∧ ∀ j, j < k → o[j]? = some (.int .u64 (nas (limb a j) (limb b j) (car (limb a) (limb b) j) : Int)))
    (fun _ _ i _ => 4 - (intOf i).toNat)
  case atStart => exact ⟨0, [.int .u64 0, .int .u64 0, .int .u64 0, .int .u64 0], by omega, rfl, rfl, by go_grown, Blk.alloc (Blk.alloc (Blk.alloc (Blk.new (by simp)) _) _) _, Blk.alloc (Blk.alloc (Blk.new (by simp)) _) _, Blk.alloc (Blk.new (by simp)) _, Blk.new (by simp), rfl, fun j hj => by omega⟩
  case round =>
    obtain ⟨k, o, hk, rfl, rfl, hB, h0, h1, h2, h3, ho, hj⟩ := hrel
    by_cases hlt : k < 4
    · have cc := h0.cell (i := 0) rfl
      have ca := h1.cell (limbs_get a hlt)
      have cb := h2.cell (limbs_get b hlt)
      obtain ⟨ok, hok⟩ : ∃ v, o[k]? = some v := ⟨o[k], by simp⟩
      have co := h3.cell hok
      have fo := h3.frozen k
      have hbk := car_le (limb_lt a) (limb_lt b) k
      have HJ := hid hj; clear hj
      have HO := hid hok; clear hok
      have HL := hid ho; clear ho
      clear ha hb
      go_wp2
      go_region_held3 (fun w' => w'.cell? ⟨w.heap.size, 0, none⟩ = some (.func (.func 124) #[] #[]) ∧ w'.cell? ⟨w.heap.size + 1, k, none⟩ = some (.int .u64 (limb a k : Int)) ∧ w'.cell? ⟨w.heap.size + 1 + 1, k, none⟩ = some (.int .u64 (limb b k : Int))) ((first | (go_simp; done) | go_keep)) (fail)
      go_wp2
      go_roundw
      case rel => exact ⟨k + 1, o.set k (.int .u64 (nas (limb a k) (limb b k) (car (limb a) (limb b) k) : Int)), by omega, by go_num, rfl, by go_grown, h0.other _ _ (by dsimp only; omega), h1.other _ _ (by dsimp only; omega), h2.other _ _ (by dsimp only; omega), h3.set k _, by simp [HL.out], row_set HJ.out HL.out hlt rfl⟩
      case measure => simp [intOf]; omega
    · obtain rfl : k = 4 := by omega
      obtain rfl := row_four hj ho
      have hv := hid (vec_sum ha hb)
      have hc := hid (sum_words ha hb).2
      have c0 := h3.cell (i := 0) rfl
      have f0 := h3.frozen 0
      have c1 := h3.cell (i := 1) rfl
      have f1 := h3.frozen 1
      have c2 := h3.cell (i := 2) rfl
      have f2 := h3.frozen 2
      have c3 := h3.cell (i := 3) rfl
      have f3 := h3.frozen 3
      clear hj ho ha hb
      go_wp2
      refine bodyPost_ret (by simp only [results, Tryd.results138]; go_simp; try rfl) rfl ?_
      exact ⟨by rw [hv.out, hc.out], by go_grown⟩

set_option maxRecDepth 100000 in
set_option maxHeartbeats 1000000 in
theorem ladd_any (a b : Nat) (ha : a < B256) (hb : b < B256) (w : World) :
    Calls Tryd.prog 115 #[vec a, vec b] w (Ret (.tuple #[vec (sum a b), .int .u64 (cry a b : Int)]) w) := by
  go_enter Tryd.func115, Tryd.ntmps115
  go_wp2_with fail
  refine (apply_add a b ha hb _).mono ?_
  rintro e w1 ⟨rfl, hb1⟩
  have h_a : Blk w1 (w.heap.size) 28 [.int .u64 (limb a 0 : Int), .int .u64 (limb a 1 : Int), .int .u64 (limb a 2 : Int), .int .u64 (limb a 3 : Int)] := Blk.keep (Blk.alloc (Blk.alloc (Blk.new (by simp)) _) _) hb1
  have h_b : Blk w1 (w.heap.size + 1) 28 [.int .u64 (limb b 0 : Int), .int .u64 (limb b 1 : Int), .int .u64 (limb b 2 : Int), .int .u64 (limb b 3 : Int)] := Blk.keep (Blk.alloc (Blk.new (by simp)) _) hb1
  have h_r : Blk w1 (w.heap.size + 1 + 1) 28 [.int .u64 0, .int .u64 0, .int .u64 0, .int .u64 0] := Blk.keep (Blk.new (by simp)) hb1
  have B1 : Below w.heap.size w w1 := Below.call (by go_grown) hb1
  have zB1 := B1.size
  have z_a := h_a.lt
  have z_b := h_b.lt
  have z_r := h_r.lt
  have c_r0 := h_r.cell (i := 0) rfl
  have c_r1 := h_r.cell (i := 1) rfl
  have c_r2 := h_r.cell (i := 2) rfl
  have c_r3 := h_r.cell (i := 3) rfl
  have f_r0 := h_r.frozen 0
  have f_r1 := h_r.frozen 1
  have f_r2 := h_r.frozen 2
  have f_r3 := h_r.frozen 3
  go_wp2
  refine bodyPost_ret (by simp only [results, Tryd.results115]; go_simp; try rfl) rfl ?_
  exact ⟨rfl, by go_grown⟩

end Go.Proofs.YtogenbggjodcnaaDoor
/-
  Montgomery's product.
-/
namespace Go.Proofs.YtogenbggjodcnaaDoor
open Go.RowKit

theorem half_word (a : Nat) (ha : a < 18446744073709551616) : bits .and .u64 (a : Int) 4294967295 = ((a % 4294967296 : Nat) : Int) := by
  have h := bits_and_u64_nat a 4294967295 ha (by omega)
  rw [show a &&& 4294967295 = a % 4294967296 from Nat.and_two_pow_sub_one_eq_mod a 32] at h
  exact h
theorem div_half (a : Nat) : (a : Int) / 4294967296 = ((a / 4294967296 : Nat) : Int) := by omega
theorem mul_nat (a b : Nat) : (a : Int) * (b : Int) = ((a * b : Nat) : Int) := (Int.natCast_mul a b).symm
theorem add_nat (a b : Nat) : (a : Int) + (b : Int) = ((a + b : Nat) : Int) := (Int.natCast_add a b).symm
theorem wrap_small (a : Nat) (ha : a < 18446744073709551616) : IntKind.u64.wrap (a : Int) = (a : Int) := by rw [IntKind.wrap_u64]; omega
theorem wrap_word (a : Nat) : IntKind.u64.wrap (a : Int) = ((a % 18446744073709551616 : Nat) : Int) := by rw [IntKind.wrap_u64]; omega
theorem wrap_mulw (a b : Nat) : IntKind.u64.wrap ((a : Int) * (b : Int)) = (mulw a b : Int) := by rw [mul_nat, wrap_word, mulw_eq]
set_option maxHeartbeats 1000000 in
theorem mul64_any (x y : Nat) (hx : x < B64) (hy : y < B64) (w : World) :
    Calls Tryd.prog 100 #[.int .u64 (x : Int), .int .u64 (y : Int)] w fun e w' => e = .returned (.tuple #[.int .u64 (mah x y 0 0 : Int), .int .u64 (mal x y 0 0 : Int)]) ∧ w = w' := by
  unfold B64 at hx hy
  obtain ⟨bd, bt, bw, hhi⟩ := Lib.mul64_hi x y hx hy
  have ba := Lib.half_mul_le (a := x / 4294967296) (b := y / 4294967296) (by omega) (by omega)
  have bb := Lib.half_mul_le (a := x / 4294967296) (b := y % 4294967296) (by omega) (by omega)
  have bc := Lib.half_mul_le (a := x % 4294967296) (b := y / 4294967296) (by omega) (by omega)
  have h1 : x / 4294967296 * (y / 4294967296) < 18446744073709551616 := by omega
  have h2 : x / 4294967296 * (y % 4294967296) < 18446744073709551616 := by omega
  have h3 : x % 4294967296 * (y / 4294967296) < 18446744073709551616 := by omega
  have h4 : x / 4294967296 * (y / 4294967296) + (x / 4294967296 * (y % 4294967296) + x % 4294967296 * (y % 4294967296) / 4294967296) / 4294967296 < 18446744073709551616 := by omega
  have h5 : x / 4294967296 * (y / 4294967296) + (x / 4294967296 * (y % 4294967296) + x % 4294967296 * (y % 4294967296) / 4294967296) / 4294967296 + ((x / 4294967296 * (y % 4294967296) + x % 4294967296 * (y % 4294967296) / 4294967296) % 4294967296 + x % 4294967296 * (y / 4294967296)) / 4294967296 < 18446744073709551616 := by omega
  go_enter Tryd.func100, Tryd.ntmps100
  go_wp2
  simp only [half_word x hx, half_word y hy, div_half, mul_nat, add_nat, wrap_small _ bd, wrap_small _ h2, wrap_small _ bt, half_word _ bt, wrap_small _ h3, wrap_small _ bw, wrap_small _ h1, wrap_small _ h4, wrap_small _ h5, wrap_word (x * y)]
  rw [hhi]
  go_ret2
  exact ⟨by rw [mah_eq, mal_eq]; rfl, rfl⟩
set_option maxHeartbeats 1000000 in
theorem ma_any (a b c d : Nat) (ha : a < B64) (hb : b < B64) (hc : c < B64) (hd : d < B64) (w : World) :
    Calls Tryd.prog 123 #[.int .u64 (a : Int), .int .u64 (b : Int), .int .u64 (c : Int), .int .u64 (d : Int)] w fun e w' => e = .returned (.tuple #[.int .u64 (mah a b c d : Int), .int .u64 (mal a b c d : Int)]) ∧ w = w' := by
  have hs := run_add64_0 (mal a b 0 0) c
  have hs2 := run_add64_0 (nas (mal a b 0 0) c 0) d
  have s1 := nas_step (mal a b 0 0) c 0
  have s2 := nas_step (nas (mal a b 0 0) c 0) d 0
  have s0 := ma_step a b 0 0
  have st := ma_step a b c d
  have sl := mal_lt a b c d
  have sh := mah_lt ha hb hc hd
  unfold B64 at sl sh
  have e1 : mah a b c d = mah a b 0 0 + nac (mal a b 0 0) c 0 + nac (nas (mal a b 0 0) c 0) d 0 := by omega
  have e2 : mal a b c d = nas (nas (mal a b 0 0) c 0) d 0 := by omega
  have b1 : mah a b 0 0 + nac (mal a b 0 0) c 0 < 18446744073709551616 := by omega
  have b2 : mah a b 0 0 + nac (mal a b 0 0) c 0 + nac (nas (mal a b 0 0) c 0) d 0 < 18446744073709551616 := by omega
  have E1 := hid (show (mah a b c d : Int) = (mah a b 0 0 : Int) + (nac (mal a b 0 0) c 0 : Int) + (nac (nas (mal a b 0 0) c 0) d 0 : Int) by rw [e1]; omega)
  have E2 := hid (congrArg (fun x : Nat => (x : Int)) e2)
  clear s0 s1 s2 st sl sh e1 e2 hc hd
  go_enter Tryd.func123, Tryd.ntmps123
  go_wp2_with (go_at_call 100; refine (mul64_any a b ha hb _).mono ?_; rintro e w' ⟨rfl, rfl⟩)
  go_ret2
  exact ⟨by rw [E1.out, show ((mal a b c d : Nat) : Int) = _ from E2.out]; rfl, rfl⟩

theorem run_array4 (g c : Nat) (W : World) : Sem.run Tryd.prog (Instr.arrayAt 28 (.slice (some ⟨g, 0, none⟩) 4 c)) W = .ok (.pointer (some ⟨g, 0, none⟩)) W := by kernel_rfl
/-- Six words as cells. -/
abbrev six (t : Nat → Nat) (u : Nat) : List Value := [.int .u64 (t 0 : Int), .int .u64 (t 1 : Int), .int .u64 (t 2 : Int), .int .u64 (t 3 : Int), .int .u64 (t 4 : Int), .int .u64 (u : Int)]
theorem six_get (t : Nat → Nat) (u : Nat) {k : Nat} (hk : k < 5) : (six t u)[k]? = some (.int .u64 (t k : Int)) := by
  match k, hk with
  | 0, _ => rfl
  | 1, _ => rfl
  | 2, _ => rfl
  | 3, _ => rfl
  | 4, _ => rfl
theorem row_six {o : List Value} {f : Nat → Value} (hj : ∀ j, j < 6 → o[j]? = some (f j)) (ho : o.length = 6) : o = [f 0, f 1, f 2, f 3, f 4, f 5] := by
  match o, ho with
  | [o0, o1, o2, o3, o4, o5], _ =>
    have e0 := hj 0 (by omega)
    have e1 := hj 1 (by omega)
    have e2 := hj 2 (by omega)
    have e3 := hj 3 (by omega)
    have e4 := hj 4 (by omega)
    have e5 := hj 5 (by omega)
    simp at e0 e1 e2 e3 e4 e5
    rw [e0, e1, e2, e3, e4, e5]
end Go.Proofs.YtogenbggjodcnaaDoor
/-
  The sum of two elements.
-/
namespace Go.Proofs.YtogenbggjodcnaaDoor
open Go.RowKit

set_option maxRecDepth 100000 in
set_option maxHeartbeats 1000000 in
theorem madd_any (id : Int) (m inv o s a b : Nat) (hm : m < B256) (ha : a < m) (hb : b < m) (w : World) : Calls Tryd.prog 96 #[fld id m inv o s, vec a, vec b] w (Ret (vec (addm m a b)) w) := by
  go_enter Tryd.func96, Tryd.ntmps96
  go_wp2_with fail
  refine (ladd_any a b (by omega) (by omega) _).mono ?_
  rintro e w1 ⟨rfl, hb1⟩
  have h_f : Blk w1 (w.heap.size) 31 [.int .i64 id, .int .u64 (limb m 0 : Int), .int .u64 (limb m 1 : Int), .int .u64 (limb m 2 : Int), .int .u64 (limb m 3 : Int), .int .u64 (inv : Int), .int .u64 (limb o 0 : Int), .int .u64 (limb o 1 : Int), .int .u64 (limb o 2 : Int), .int .u64 (limb o 3 : Int), .int .u64 (limb s 0 : Int), .int .u64 (limb s 1 : Int), .int .u64 (limb s 2 : Int), .int .u64 (limb s 3 : Int)] := Blk.keep (Blk.alloc (Blk.alloc (Blk.alloc (Blk.new (by simp)) _) _) _) hb1
  have h_a : Blk w1 (w.heap.size + 1) 29 [.int .u64 (limb a 0 : Int), .int .u64 (limb a 1 : Int), .int .u64 (limb a 2 : Int), .int .u64 (limb a 3 : Int)] := Blk.keep (Blk.alloc (Blk.alloc (Blk.new (by simp)) _) _) hb1
  have h_b : Blk w1 (w.heap.size + 1 + 1) 29 [.int .u64 (limb b 0 : Int), .int .u64 (limb b 1 : Int), .int .u64 (limb b 2 : Int), .int .u64 (limb b 3 : Int)] := Blk.keep (Blk.alloc (Blk.new (by simp)) _) hb1
  have h_r : Blk w1 (w.heap.size + 1 + 1 + 1) 29 [.int .u64 0, .int .u64 0, .int .u64 0, .int .u64 0] := Blk.keep (Blk.new (by simp)) hb1
  have B1 : Below w.heap.size w w1 := Below.call (by go_grown) hb1
  have zB1 := B1.size
  have z_f := h_f.lt
  have z_a := h_a.lt
  have z_b := h_b.lt
  have z_r := h_r.lt
  go_wp2_with fail
  refine (subtract_any m (sum a b) (cry a b) hm (sum_lt _ _) (by have := cry_le (show a < B256 by omega) (show b < B256 by omega); unfold B64; omega) _).mono ?_
  rintro e w2 ⟨rfl, hb2⟩
  clear z_f z_a z_b z_r
  replace h_f := Blk.keep (Blk.alloc (h_f) _) hb2
  replace h_a := Blk.keep (Blk.alloc (h_a) _) hb2
  replace h_b := Blk.keep (Blk.alloc (h_b) _) hb2
  replace h_r := Blk.keep (Blk.alloc (h_r) _) hb2
  have h_s : Blk w2 (w1.heap.size) 28 [.int .u64 (limb (sum a b) 0 : Int), .int .u64 (limb (sum a b) 1 : Int), .int .u64 (limb (sum a b) 2 : Int), .int .u64 (limb (sum a b) 3 : Int)] := Blk.keep (Blk.new (by simp)) hb2
  have B2 : Below w.heap.size w w2 := Below.call (by go_grown) hb2
  have zB2 := B2.size
  rw [red_sum hm ha hb]
  have z_f := h_f.lt
  have z_a := h_a.lt
  have z_b := h_b.lt
  have z_r := h_r.lt
  have c_r0 := h_r.cell (i := 0) rfl
  have c_r1 := h_r.cell (i := 1) rfl
  have c_r2 := h_r.cell (i := 2) rfl
  have c_r3 := h_r.cell (i := 3) rfl
  have f_r0 := h_r.frozen 0
  have f_r1 := h_r.frozen 1
  have f_r2 := h_r.frozen 2
  have f_r3 := h_r.frozen 3
  have z_s := h_s.lt
  go_wp2
  refine bodyPost_ret (by simp only [results, Tryd.results96]; go_simp; try rfl) rfl ?_
  exact ⟨rfl, by go_grown⟩
end Go.Proofs.YtogenbggjodcnaaDoor
