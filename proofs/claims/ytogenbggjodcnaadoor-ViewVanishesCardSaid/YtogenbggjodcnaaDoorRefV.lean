/-
  The reference of the numbers: sums, products, powers, forms and values.
-/
import Derived.Test.YtogenbggjodcnaaDoorBase
import Derived.LoopN
import Derived.Deep.RegionHeld3
import Derived.Outline
import Derived.BigQuiet
import Derived.Deep.QuietTactic
import Derived.Deep.RegionWith
import Derived.Test.YtogenbggjodcnaaDoorPlainN
import Derived.ChangeKeysEq
/-
  The reference of layer 4: what its functions on four words come to.
-/
namespace Go.Proofs.YtogenbggjodcnaaDoor
open Go.RowKit

theorem rsub_word (x y c : Nat) (hx : x < B64) (hy : y < B64) (hc : c ≤ 1) : IntKind.u64.wrap (IntKind.u64.wrap ((x : Int) - (y : Int)) - (c : Int)) = (nsd x y c : Int) := by
  unfold B64 at *
  rw [IntKind.wrap_u64, IntKind.wrap_u64, nsd_eq]
  omega

set_option maxHeartbeats 1000000 in
theorem rsub_any (a b : Nat) (ha : a < B256) (hb : b < B256) (w : World) :
    Calls Tryd.prog 101 #[vec a, vec b] w (Ret (.tuple #[vec (dif a b), .int .u64 (brw a b : Int)]) w) := by
  go_enter Tryd.func101, Tryd.ntmps101
  go_wp2
  go_loopw [7, 8] (fun c i wr => ∃ (k : Nat) (o : List Value), k ≤ 4 ∧ i = .int .i64 k ∧ c = .int .u64 (bor (limb a) (limb b) k : Int) ∧ Below w.heap.size w wr ∧
      Blk wr w.heap.size 28 (limbs a) ∧ Blk wr (w.heap.size + 1) 28 (limbs b) ∧ Blk wr (w.heap.size + 1 + 1) 28 [.int .u64 0, .int .u64 0, .int .u64 0, .int .u64 0] ∧
      Blk wr (w.heap.size + 1 + 1 + 1) 28 o ∧ o.length = 4 ∧ ∀ j, j < k → o[j]? = some (.int .u64 (nsd (limb a j) (limb b j) (bor (limb a) (limb b) j) : Int)))
    (fun _ i _ => 4 - (intOf i).toNat)
  case atStart => exact ⟨0, [.int .u64 0, .int .u64 0, .int .u64 0, .int .u64 0], by omega, rfl, rfl, by go_grown, (((Blk.new (by simp)).alloc _).alloc _).alloc _, ((Blk.new (by simp)).alloc _).alloc _, (Blk.new (by simp)).alloc _, Blk.new (by simp), rfl, fun j hj => by omega⟩
  case round =>
    obtain ⟨k, o, hk, rfl, rfl, hB, h0, h1, h2, h3, ho, hj⟩ := hrel
    by_cases hlt : k < 4
    · have ca := h0.cell (limbs_get a hlt)
      have cb := h1.cell (limbs_get b hlt)
      obtain ⟨ok, hok⟩ : ∃ v, o[k]? = some v := ⟨o[k], by simp⟩
      have co := h3.cell hok
      have fo := h3.frozen k
      have hbk := bor_le (limb a) (limb b) k
      have HW := hid (rsub_word (limb a k) (limb b k) (bor (limb a) (limb b) k) (limb_lt _ _) (limb_lt _ _) hbk)
      have HJ := hid hj; clear hj
      have HO := hid hok; clear hok
      have HL := hid ho; clear ho
      clear ha hb
      by_cases g1 : limb a k < limb b k
      · go_wp2
        go_region_held3 (fun w' => w'.cell? ⟨w.heap.size, k, none⟩ = some (.int .u64 (limb a k : Int)) ∧ w'.cell? ⟨w.heap.size + 1, k, none⟩ = some (.int .u64 (limb b k : Int))) ((first | (go_simp; done) | go_keep)) (fail)
        go_wp2
        go_quiet (fail)
        go_wp2
        go_roundw
        case rel => exact ⟨k + 1, o.set k (.int .u64 (IntKind.u64.wrap (IntKind.u64.wrap ((limb a k : Int) - (limb b k : Int)) - (bor (limb a) (limb b) k : Int)))), by omega, by go_num, by rw [bor, nsb_eq, if_pos (by omega)]; rfl, Below.drewN' (by go_grown) _, h0.other _ _ (by dsimp only; omega), h1.other _ _ (by dsimp only; omega), h2.other _ _ (by dsimp only; omega), h3.set k _, by simp [HL.out], row_set HJ.out HL.out hlt (by rw [HW.out])⟩
        case measure => simp [intOf]; omega
      · by_cases g2 : limb a k = limb b k
        · by_cases g3 : bor (limb a) (limb b) k = 1
          · have d1 : decide (limb a k < limb b k) = false := by simp [g1]
            have d2 : ((limb a k : Int) == (limb b k : Int)) = true := by simp [g2]
            have d3 : ((bor (limb a) (limb b) k : Int) == 1) = true := by simp [g3]
            have G2 := hid g2; clear g2
            have G3 := hid g3; clear g3
            go_wp2
            go_region_held3 (fun w' => w'.cell? ⟨w.heap.size, k, none⟩ = some (.int .u64 (limb a k : Int)) ∧ w'.cell? ⟨w.heap.size + 1, k, none⟩ = some (.int .u64 (limb b k : Int))) ((first | (go_simp; done) | go_keep)) (fail)
            go_wp2
            go_quiet (fail)
            go_wp2
            go_roundw
            case rel => exact ⟨k + 1, o.set k (.int .u64 (IntKind.u64.wrap (IntKind.u64.wrap ((limb a k : Int) - (limb b k : Int)) - (bor (limb a) (limb b) k : Int)))), by omega, by go_num, by rw [bor, nsb_eq, if_pos (by rw [G2.out, G3.out]; omega)]; rfl, Below.drewN' (by go_grown) _, h0.other _ _ (by dsimp only; omega), h1.other _ _ (by dsimp only; omega), h2.other _ _ (by dsimp only; omega), h3.set k _, by simp [HL.out], row_set HJ.out HL.out hlt (by rw [HW.out])⟩
            case measure => simp [intOf]; omega
          · have d1 : decide (limb a k < limb b k) = false := by simp [g1]
            have d2 : ((limb a k : Int) == (limb b k : Int)) = true := by simp [g2]
            have d3 : ((bor (limb a) (limb b) k : Int) == 1) = false := by simp; omega
            have G2 := hid g2; clear g2
            go_wp2
            go_region_held3 (fun w' => w'.cell? ⟨w.heap.size, k, none⟩ = some (.int .u64 (limb a k : Int)) ∧ w'.cell? ⟨w.heap.size + 1, k, none⟩ = some (.int .u64 (limb b k : Int))) ((first | (go_simp; done) | go_keep)) (fail)
            go_wp2
            go_quiet (fail)
            go_wp2
            go_roundw
            case rel => exact ⟨k + 1, o.set k (.int .u64 (IntKind.u64.wrap (IntKind.u64.wrap ((limb a k : Int) - (limb b k : Int)) - (bor (limb a) (limb b) k : Int)))), by omega, by go_num, by rw [bor, nsb_eq, if_neg (by rw [G2.out]; omega)]; rfl, Below.drewN' (by go_grown) _, h0.other _ _ (by dsimp only; omega), h1.other _ _ (by dsimp only; omega), h2.other _ _ (by dsimp only; omega), h3.set k _, by simp [HL.out], row_set HJ.out HL.out hlt (by rw [HW.out])⟩
            case measure => simp [intOf]; omega
        · have d1 : decide (limb a k < limb b k) = false := by simp [g1]
          have d2 : ((limb a k : Int) == (limb b k : Int)) = false := by simp; omega
          go_wp2
          go_region_held3 (fun w' => w'.cell? ⟨w.heap.size, k, none⟩ = some (.int .u64 (limb a k : Int)) ∧ w'.cell? ⟨w.heap.size + 1, k, none⟩ = some (.int .u64 (limb b k : Int))) ((first | (go_simp; done) | go_keep)) (fail)
          go_wp2
          go_quiet (fail)
          go_wp2
          go_roundw
          case rel => exact ⟨k + 1, o.set k (.int .u64 (IntKind.u64.wrap (IntKind.u64.wrap ((limb a k : Int) - (limb b k : Int)) - (bor (limb a) (limb b) k : Int)))), by omega, by go_num, by rw [bor, nsb_eq, if_neg (by omega)]; rfl, Below.drewN' (by go_grown) _, h0.other _ _ (by dsimp only; omega), h1.other _ _ (by dsimp only; omega), h2.other _ _ (by dsimp only; omega), h3.set k _, by simp [HL.out], row_set HJ.out HL.out hlt (by rw [HW.out])⟩
          case measure => simp [intOf]; omega
    · obtain rfl : k = 4 := by omega
      obtain rfl := row_four hj ho
      have hv := hid (vec_dif ha hb)
      have hc := hid (dif_words ha hb).2
      have q := h2.set4 (.int .u64 (nsd (limb a 0) (limb b 0) (bor (limb a) (limb b) 0) : Int)) (.int .u64 (nsd (limb a 1) (limb b 1) (bor (limb a) (limb b) 1) : Int)) (.int .u64 (nsd (limb a 2) (limb b 2) (bor (limb a) (limb b) 2) : Int)) (.int .u64 (nsd (limb a 3) (limb b 3) (bor (limb a) (limb b) 3) : Int))
      have c0 := h3.cell (i := 0) rfl
      have c1 := h3.cell (i := 1) rfl
      have c2 := h3.cell (i := 2) rfl
      have c3 := h3.cell (i := 3) rfl
      have r0 := h2.cell (i := 0) rfl
      have f0 := h2.frozen 0
      have r1 := h2.cell (i := 1) rfl
      have f1 := h2.frozen 1
      have r2 := h2.cell (i := 2) rfl
      have f2 := h2.frozen 2
      have r3 := h2.cell (i := 3) rfl
      have f3 := h2.frozen 3
      have q0 := q.cell (i := 0) rfl
      have q1 := q.cell (i := 1) rfl
      have q2 := q.cell (i := 2) rfl
      have q3 := q.cell (i := 3) rfl
      clear hj ho ha hb
      go_wp2
      refine bodyPost_ret (by simp only [results, Tryd.results101]; simp [go_sem, q0, q1, q2, q3]; try rfl) rfl ?_
      exact ⟨by rw [hv.out, hc.out], by go_grown⟩

theorem rsum_word (x c : Nat) : IntKind.u64.wrap ((x : Int) + (c : Int)) = (nas x c 0 : Int) := by
  rw [IntKind.wrap_u64, nas_eq]; omega
theorem nas_nas (x y c : Nat) : nas (nas x c 0) y 0 = nas x y c := by
  rw [nas_eq, nas_eq, nas_eq]; omega
theorem nac_cases (x y c : Nat) (hx : x < B64) (hy : y < B64) (hc : c ≤ 1) :
    (nas x c 0 < c ∧ ¬ nas x y c < nas x c 0 ∧ nac x y c = 1) ∨ (¬ nas x c 0 < c ∧ nas x y c < nas x c 0 ∧ nac x y c = 1) ∨ (¬ nas x c 0 < c ∧ ¬ nas x y c < nas x c 0 ∧ nac x y c = 0) := by
  rw [nas_eq, nas_eq, nac_eq]; unfold B64 at *; omega
set_option maxHeartbeats 1000000 in
theorem rsum_any (a b : Nat) (ha : a < B256) (hb : b < B256) (w : World) :
    Calls Tryd.prog 67 #[vec a, vec b] w (Ret (.tuple #[vec (sum a b), .int .u64 (cry a b : Int)]) w) := by
  go_enter Tryd.func67, Tryd.ntmps67
  go_wp2
  go_loopw [7, 8, 9, 10] (fun c i _ _ wr => ∃ (k : Nat) (o : List Value), k ≤ 4 ∧ i = .int .i64 k ∧ c = .int .u64 (car (limb a) (limb b) k : Int) ∧ Below w.heap.size w wr ∧
      Blk wr w.heap.size 28 (limbs a) ∧ Blk wr (w.heap.size + 1) 28 (limbs b) ∧ Blk wr (w.heap.size + 1 + 1) 28 [.int .u64 0, .int .u64 0, .int .u64 0, .int .u64 0] ∧
      Blk wr (w.heap.size + 1 + 1 + 1) 28 o ∧ o.length = 4 ∧ ∀ j, j < k → o[j]? = some (.int .u64 (nas (limb a j) (limb b j) (car (limb a) (limb b) j) : Int)))
    (fun _ i _ _ _ => 4 - (intOf i).toNat)
  case atStart => exact ⟨0, [.int .u64 0, .int .u64 0, .int .u64 0, .int .u64 0], by omega, rfl, rfl, by go_grown, (((Blk.new (by simp)).alloc _).alloc _).alloc _, ((Blk.new (by simp)).alloc _).alloc _, (Blk.new (by simp)).alloc _, Blk.new (by simp), rfl, fun j hj => by omega⟩
  case round =>
    obtain ⟨k, o, hk, rfl, rfl, hB, h0, h1, h2, h3, ho, hj⟩ := hrel
    by_cases hlt : k < 4
    · have ca := h0.cell (limbs_get a hlt)
      have cb := h1.cell (limbs_get b hlt)
      obtain ⟨ok, hok⟩ : ∃ v, o[k]? = some v := ⟨o[k], by simp⟩
      have co := h3.cell hok
      have fo := h3.frozen k
      have hs := rsum_word (limb a k) (car (limb a) (limb b) k)
      have ho2 : IntKind.u64.wrap ((nas (limb a k) (car (limb a) (limb b) k) 0 : Int) + (limb b k : Int)) = (nas (limb a k) (limb b k) (car (limb a) (limb b) k) : Int) := by rw [rsum_word, nas_nas]
      have hcs := nac_cases (limb a k) (limb b k) (car (limb a) (limb b) k) (limb_lt _ _) (limb_lt _ _) (car_le (limb_lt _) (limb_lt _) k)
      have HJ := hid hj; clear hj
      have HO := hid hok; clear hok
      have HL := hid ho; clear ho
      clear ha hb
      rcases hcs with ⟨g1, g2, g3⟩ | ⟨g1, g2, g3⟩ | ⟨g1, g2, g3⟩
      · have G3 := hid g3; clear g3
        have d1 : decide (nas (limb a k) (car (limb a) (limb b) k) 0 < car (limb a) (limb b) k) = true := by simp [g1]
        have d2 : decide (nas (limb a k) (limb b k) (car (limb a) (limb b) k) < nas (limb a k) (car (limb a) (limb b) k) 0) = false := by simp [g2]
        go_wp2
        go_roundw
        case rel => exact ⟨k + 1, o.set k (.int .u64 (nas (limb a k) (limb b k) (car (limb a) (limb b) k) : Int)), by omega, by go_num, by rw [car, G3.out]; rfl, by go_grown, h0.other _ _ (by dsimp only; omega), h1.other _ _ (by dsimp only; omega), h2.other _ _ (by dsimp only; omega), h3.set k _, by simp [HL.out], row_set HJ.out HL.out hlt rfl⟩
        case measure => simp [intOf]; omega
      · have G3 := hid g3; clear g3
        have d1 : decide (nas (limb a k) (car (limb a) (limb b) k) 0 < car (limb a) (limb b) k) = false := by simp [g1]
        have d2 : decide (nas (limb a k) (limb b k) (car (limb a) (limb b) k) < nas (limb a k) (car (limb a) (limb b) k) 0) = true := by simp [g2]
        go_wp2
        go_roundw
        case rel => exact ⟨k + 1, o.set k (.int .u64 (nas (limb a k) (limb b k) (car (limb a) (limb b) k) : Int)), by omega, by go_num, by rw [car, G3.out]; rfl, by go_grown, h0.other _ _ (by dsimp only; omega), h1.other _ _ (by dsimp only; omega), h2.other _ _ (by dsimp only; omega), h3.set k _, by simp [HL.out], row_set HJ.out HL.out hlt rfl⟩
        case measure => simp [intOf]; omega
      · have G3 := hid g3; clear g3
        have d1 : decide (nas (limb a k) (car (limb a) (limb b) k) 0 < car (limb a) (limb b) k) = false := by simp [g1]
        have d2 : decide (nas (limb a k) (limb b k) (car (limb a) (limb b) k) < nas (limb a k) (car (limb a) (limb b) k) 0) = false := by simp [g2]
        go_wp2
        go_roundw
        case rel => exact ⟨k + 1, o.set k (.int .u64 (nas (limb a k) (limb b k) (car (limb a) (limb b) k) : Int)), by omega, by go_num, by rw [car, G3.out]; rfl, by go_grown, h0.other _ _ (by dsimp only; omega), h1.other _ _ (by dsimp only; omega), h2.other _ _ (by dsimp only; omega), h3.set k _, by simp [HL.out], row_set HJ.out HL.out hlt rfl⟩
        case measure => simp [intOf]; omega
    · obtain rfl : k = 4 := by omega
      obtain rfl := row_four hj ho
      have hv := hid (vec_sum ha hb)
      have hc := hid (sum_words ha hb).2
      have q := h2.set4 (.int .u64 (nas (limb a 0) (limb b 0) (car (limb a) (limb b) 0) : Int)) (.int .u64 (nas (limb a 1) (limb b 1) (car (limb a) (limb b) 1) : Int)) (.int .u64 (nas (limb a 2) (limb b 2) (car (limb a) (limb b) 2) : Int)) (.int .u64 (nas (limb a 3) (limb b 3) (car (limb a) (limb b) 3) : Int))
      have c0 := h3.cell (i := 0) rfl
      have c1 := h3.cell (i := 1) rfl
      have c2 := h3.cell (i := 2) rfl
      have c3 := h3.cell (i := 3) rfl
      have r0 := h2.cell (i := 0) rfl
      have f0 := h2.frozen 0
      have r1 := h2.cell (i := 1) rfl
      have f1 := h2.frozen 1
      have r2 := h2.cell (i := 2) rfl
      have f2 := h2.frozen 2
      have r3 := h2.cell (i := 3) rfl
      have f3 := h2.frozen 3
      have q0 := q.cell (i := 0) rfl
      have q1 := q.cell (i := 1) rfl
      have q2 := q.cell (i := 2) rfl
      have q3 := q.cell (i := 3) rfl
      clear hj ho ha hb
      go_wp2
      refine bodyPost_ret (by simp only [results, Tryd.results67]; simp [go_sem, q0, q1, q2, q3]; try rfl) rfl ?_
      exact ⟨by rw [hv.out, hc.out], by go_grown⟩
end Go.Proofs.YtogenbggjodcnaaDoor
/-
  The reference of layer 4: Subtract, Add, Sub, Mul and what is built of them.
-/
namespace Go.Proofs.YtogenbggjodcnaaDoor
open Go.RowKit

set_option maxHeartbeats 1000000 in
theorem rsubtract_any (m a c : Nat) (hm : m < B256) (ha : a < B256) (w : World) :
    Calls Tryd.prog 68 #[vec m, vec a, .int .u64 (c : Int)] w (Ret (vec (red m a c)) w) := by
  by_cases g1 : c % 2 = 0
  · by_cases g2 : a < m
    · have d1 : ((c : Int) % 2 == 0) = true := by simp; omega
      have d2 : ((brw a m : Int) == 1) = true := by simp [brw_eq, g2]
      go_enter Tryd.func68, Tryd.ntmps68
      go_wp2_with fail
      refine (rsub_any a m ha hm _).mono ?_
      rintro e w1 ⟨rfl, hb1⟩
      have h_m : Blk w1 (w.heap.size) 28 [.int .u64 (limb m 0 : Int), .int .u64 (limb m 1 : Int), .int .u64 (limb m 2 : Int), .int .u64 (limb m 3 : Int)] := Blk.keep (Blk.alloc (Blk.alloc (Blk.new (by simp)) _) _) hb1
      have h_a : Blk w1 (w.heap.size + 1) 28 [.int .u64 (limb a 0 : Int), .int .u64 (limb a 1 : Int), .int .u64 (limb a 2 : Int), .int .u64 (limb a 3 : Int)] := Blk.keep (Blk.alloc (Blk.new (by simp)) _) hb1
      have h_r : Blk w1 (w.heap.size + 1 + 1) 28 [.int .u64 0, .int .u64 0, .int .u64 0, .int .u64 0] := Blk.keep (Blk.new (by simp)) hb1
      have B1 : Below w.heap.size w w1 := Below.call (by go_grown) hb1
      have zB1 := B1.size
      have z_m := h_m.lt
      have z_a := h_a.lt
      have c_a0 := h_a.cell (i := 0) rfl
      have c_a1 := h_a.cell (i := 1) rfl
      have c_a2 := h_a.cell (i := 2) rfl
      have c_a3 := h_a.cell (i := 3) rfl
      have z_r := h_r.lt
      have c_r0 := h_r.cell (i := 0) rfl
      have c_r1 := h_r.cell (i := 1) rfl
      have c_r2 := h_r.cell (i := 2) rfl
      have c_r3 := h_r.cell (i := 3) rfl
      have f_r0 := h_r.frozen 0
      have f_r1 := h_r.frozen 1
      have f_r2 := h_r.frozen 2
      have f_r3 := h_r.frozen 3
      go_wp2
      refine bodyPost_ret (by simp only [results, Tryd.results68]; go_simp; try rfl) rfl ?_
      exact ⟨by rw [red_eq, if_pos ⟨g1, g2⟩], by go_grown⟩
    · have d1 : ((c : Int) % 2 == 0) = true := by simp; omega
      have d2 : ((brw a m : Int) == 1) = false := by simp [brw_eq, g2]
      go_enter Tryd.func68, Tryd.ntmps68
      go_wp2_with fail
      refine (rsub_any a m ha hm _).mono ?_
      rintro e w1 ⟨rfl, hb1⟩
      have h_m : Blk w1 (w.heap.size) 28 [.int .u64 (limb m 0 : Int), .int .u64 (limb m 1 : Int), .int .u64 (limb m 2 : Int), .int .u64 (limb m 3 : Int)] := Blk.keep (Blk.alloc (Blk.alloc (Blk.new (by simp)) _) _) hb1
      have h_a : Blk w1 (w.heap.size + 1) 28 [.int .u64 (limb a 0 : Int), .int .u64 (limb a 1 : Int), .int .u64 (limb a 2 : Int), .int .u64 (limb a 3 : Int)] := Blk.keep (Blk.alloc (Blk.new (by simp)) _) hb1
      have h_r : Blk w1 (w.heap.size + 1 + 1) 28 [.int .u64 0, .int .u64 0, .int .u64 0, .int .u64 0] := Blk.keep (Blk.new (by simp)) hb1
      have B1 : Below w.heap.size w w1 := Below.call (by go_grown) hb1
      have zB1 := B1.size
      have z_m := h_m.lt
      have z_a := h_a.lt
      have c_a0 := h_a.cell (i := 0) rfl
      have c_a1 := h_a.cell (i := 1) rfl
      have c_a2 := h_a.cell (i := 2) rfl
      have c_a3 := h_a.cell (i := 3) rfl
      have z_r := h_r.lt
      have c_r0 := h_r.cell (i := 0) rfl
      have c_r1 := h_r.cell (i := 1) rfl
      have c_r2 := h_r.cell (i := 2) rfl
      have c_r3 := h_r.cell (i := 3) rfl
      have f_r0 := h_r.frozen 0
      have f_r1 := h_r.frozen 1
      have f_r2 := h_r.frozen 2
      have f_r3 := h_r.frozen 3
      go_wp2
      refine bodyPost_ret (by simp only [results, Tryd.results68]; go_simp; try rfl) rfl ?_
      exact ⟨by rw [red_eq, if_neg (fun h => g2 h.2)], by go_grown⟩
  · have d1 : ((c : Int) % 2 == 0) = false := by simp; omega
    go_enter Tryd.func68, Tryd.ntmps68
    go_wp2_with fail
    refine (rsub_any a m ha hm _).mono ?_
    rintro e w1 ⟨rfl, hb1⟩
    have h_m : Blk w1 (w.heap.size) 28 [.int .u64 (limb m 0 : Int), .int .u64 (limb m 1 : Int), .int .u64 (limb m 2 : Int), .int .u64 (limb m 3 : Int)] := Blk.keep (Blk.alloc (Blk.alloc (Blk.new (by simp)) _) _) hb1
    have h_a : Blk w1 (w.heap.size + 1) 28 [.int .u64 (limb a 0 : Int), .int .u64 (limb a 1 : Int), .int .u64 (limb a 2 : Int), .int .u64 (limb a 3 : Int)] := Blk.keep (Blk.alloc (Blk.new (by simp)) _) hb1
    have h_r : Blk w1 (w.heap.size + 1 + 1) 28 [.int .u64 0, .int .u64 0, .int .u64 0, .int .u64 0] := Blk.keep (Blk.new (by simp)) hb1
    have B1 : Below w.heap.size w w1 := Below.call (by go_grown) hb1
    have zB1 := B1.size
    have z_m := h_m.lt
    have z_a := h_a.lt
    have c_a0 := h_a.cell (i := 0) rfl
    have c_a1 := h_a.cell (i := 1) rfl
    have c_a2 := h_a.cell (i := 2) rfl
    have c_a3 := h_a.cell (i := 3) rfl
    have z_r := h_r.lt
    have c_r0 := h_r.cell (i := 0) rfl
    have c_r1 := h_r.cell (i := 1) rfl
    have c_r2 := h_r.cell (i := 2) rfl
    have c_r3 := h_r.cell (i := 3) rfl
    have f_r0 := h_r.frozen 0
    have f_r1 := h_r.frozen 1
    have f_r2 := h_r.frozen 2
    have f_r3 := h_r.frozen 3
    go_wp2
    refine bodyPost_ret (by simp only [results, Tryd.results68]; go_simp; try rfl) rfl ?_
    exact ⟨by rw [red_eq, if_neg (fun h => g1 h.1)], by go_grown⟩

set_option maxHeartbeats 1000000 in
theorem radd_any (p a b : Nat) (hp : p < B256) (ha : a < p) (hb : b < p) (w : World) :
    Calls Tryd.prog 27 #[vec p, vec a, vec b] w (Ret (vec (addm p a b)) w) := by
  go_enter Tryd.func27, Tryd.ntmps27
  go_wp2_with fail
  refine (rsum_any a b (by omega) (by omega) _).mono ?_
  rintro e w1 ⟨rfl, hb1⟩
  have h_p : Blk w1 (w.heap.size) 28 [.int .u64 (limb p 0 : Int), .int .u64 (limb p 1 : Int), .int .u64 (limb p 2 : Int), .int .u64 (limb p 3 : Int)] := Blk.keep (Blk.alloc (Blk.alloc (Blk.alloc (Blk.new (by simp)) _) _) _) hb1
  have h_a : Blk w1 (w.heap.size + 1) 28 [.int .u64 (limb a 0 : Int), .int .u64 (limb a 1 : Int), .int .u64 (limb a 2 : Int), .int .u64 (limb a 3 : Int)] := Blk.keep (Blk.alloc (Blk.alloc (Blk.new (by simp)) _) _) hb1
  have h_b : Blk w1 (w.heap.size + 1 + 1) 28 [.int .u64 (limb b 0 : Int), .int .u64 (limb b 1 : Int), .int .u64 (limb b 2 : Int), .int .u64 (limb b 3 : Int)] := Blk.keep (Blk.alloc (Blk.new (by simp)) _) hb1
  have h_r : Blk w1 (w.heap.size + 1 + 1 + 1) 28 [.int .u64 0, .int .u64 0, .int .u64 0, .int .u64 0] := Blk.keep (Blk.new (by simp)) hb1
  have B1 : Below w.heap.size w w1 := Below.call (by go_grown) hb1
  have zB1 := B1.size
  have z_p := h_p.lt
  have c_p0 := h_p.cell (i := 0) rfl
  have c_p1 := h_p.cell (i := 1) rfl
  have c_p2 := h_p.cell (i := 2) rfl
  have c_p3 := h_p.cell (i := 3) rfl
  have z_a := h_a.lt
  have z_b := h_b.lt
  have z_r := h_r.lt
  go_wp2_with fail
  refine (rsubtract_any p (sum a b) (cry a b) hp (sum_lt _ _) _).mono ?_
  rintro e w2 ⟨rfl, hb2⟩
  clear z_p c_p0 c_p1 c_p2 c_p3 z_a z_b z_r
  replace h_p := Blk.keep (Blk.alloc (h_p) _) hb2
  replace h_a := Blk.keep (Blk.alloc (h_a) _) hb2
  replace h_b := Blk.keep (Blk.alloc (h_b) _) hb2
  replace h_r := Blk.keep (Blk.alloc (h_r) _) hb2
  have h_s : Blk w2 (w1.heap.size) 28 [.int .u64 (limb (sum a b) 0 : Int), .int .u64 (limb (sum a b) 1 : Int), .int .u64 (limb (sum a b) 2 : Int), .int .u64 (limb (sum a b) 3 : Int)] := Blk.keep (Blk.new (by simp)) hb2
  have B2 : Below w.heap.size w w2 := Below.call (by go_grown) hb2
  have zB2 := B2.size
  rw [red_sum hp ha hb]
  have z_p := h_p.lt
  have z_a := h_a.lt
  have z_b := h_b.lt
  have z_r := h_r.lt
  have c_r0 := h_r.cell (i := 0) rfl
  have c_r1 := h_r.cell (i := 1) rfl
  have c_r2 := h_r.cell (i := 2) rfl
  have c_r3 := h_r.cell (i := 3) rfl
  have f_r0 := h_r.frozen 0
  have f_r1 := h_r.frozen 1
  have f_r2 := h_r.frozen 2
  have f_r3 := h_r.frozen 3
  have z_s := h_s.lt
  go_wp2
  refine bodyPost_ret (by simp only [results, Tryd.results27]; go_simp; try rfl) rfl ?_
  exact ⟨rfl, by go_grown⟩
end Go.Proofs.YtogenbggjodcnaaDoor
/-
  The reference's difference modulo p.
-/
namespace Go.Proofs.YtogenbggjodcnaaDoor
open Go.RowKit

theorem subm_brw {p a b : Nat} (hp : p < B256) (_ha : a < p) (hb : b < p) (h : a < b) : sum (dif a b) p = subm p a b := by
  rw [sum_eq, dif_eq, subm_eq]; unfold B256 at *
  rw [Nat.mod_eq_of_lt (a := a + p - b) (by omega), Nat.mod_eq_of_lt (a := a + _ - b) (by omega)]
  rw [show a + 115792089237316195423570985008687907853269984665640564039457584007913129639936 - b + p = a + p - b + 115792089237316195423570985008687907853269984665640564039457584007913129639936 by omega, Nat.add_mod_right, Nat.mod_eq_of_lt (by omega)]
theorem subm_nob {p a b : Nat} (hp : p < B256) (ha : a < p) (hb : b < p) (h : ¬ a < b) : dif a b = subm p a b := by
  rw [dif_eq, subm_eq]; unfold B256 at *
  rw [show a + 115792089237316195423570985008687907853269984665640564039457584007913129639936 - b = a - b + 115792089237316195423570985008687907853269984665640564039457584007913129639936 by omega, Nat.add_mod_right, Nat.mod_eq_of_lt (by omega),
    show a + p - b = a - b + p by omega, Nat.add_mod_right, Nat.mod_eq_of_lt (by omega)]
set_option maxHeartbeats 1000000 in
theorem rsubm_any (p a b : Nat) (hp : p < B256) (ha : a < p) (hb : b < p) (w : World) :
    Calls Tryd.prog 74 #[vec p, vec a, vec b] w (Ret (vec (subm p a b)) w) := by
  by_cases h : a < b
  · have hd : ((brw a b : Int) == 1) = true := by simp [brw_eq, h]
    have BW := hid (Below.refl w.heap.size w)
    go_enter Tryd.func74, Tryd.ntmps74
    go_wp2_with fail
    obtain ⟨v1, hv9⟩ : ∃ v, ((((w.alloc (.cells #[.int .u64 (limb p 0 : Int), .int .u64 (limb p 1 : Int), .int .u64 (limb p 2 : Int), .int .u64 (limb p 3 : Int)] 28)).alloc (.cells #[.int .u64 (limb a 0 : Int), .int .u64 (limb a 1 : Int), .int .u64 (limb a 2 : Int), .int .u64 (limb a 3 : Int)] 28)).alloc (.cells #[.int .u64 (limb b 0 : Int), .int .u64 (limb b 1 : Int), .int .u64 (limb b 2 : Int), .int .u64 (limb b 3 : Int)] 28)).alloc (.cells #[.int .u64 0, .int .u64 0, .int .u64 0, .int .u64 0] 28)) = v := ⟨_, rfl⟩
    have hG9 : Below w.heap.size w v1 := by rw [← hv9]; go_grown
    have X_p : Blk v1 (w.heap.size) 28 [.int .u64 (limb p 0 : Int), .int .u64 (limb p 1 : Int), .int .u64 (limb p 2 : Int), .int .u64 (limb p 3 : Int)] := by rw [← hv9]; exact Blk.alloc (Blk.alloc (Blk.alloc (Blk.new (by simp)) _) _) _
    have X_a : Blk v1 (w.heap.size + 1) 28 [.int .u64 (limb a 0 : Int), .int .u64 (limb a 1 : Int), .int .u64 (limb a 2 : Int), .int .u64 (limb a 3 : Int)] := by rw [← hv9]; exact Blk.alloc (Blk.alloc (Blk.new (by simp)) _) _
    have X_b : Blk v1 (w.heap.size + 1 + 1) 28 [.int .u64 (limb b 0 : Int), .int .u64 (limb b 1 : Int), .int .u64 (limb b 2 : Int), .int .u64 (limb b 3 : Int)] := by rw [← hv9]; exact Blk.alloc (Blk.new (by simp)) _
    have X_r : Blk v1 (w.heap.size + 1 + 1 + 1) 28 [.int .u64 0, .int .u64 0, .int .u64 0, .int .u64 0] := by rw [← hv9]; exact Blk.new (by simp)
    obtain ⟨bp, hb9⟩ : ∃ k, w.heap.size = k := ⟨_, rfl⟩
    rw [hb9] at X_p
    rw [hb9] at X_a
    rw [hb9] at X_b
    rw [hb9] at X_r
    have g_bp : w.heap.size ≤ bp := by rw [← hb9]; exact BW.out.size
    replace BW := hid (BW.out.trans (hG9.mono BW.out.size))
    clear hG9
    rw [hv9]
    try rw [hb9]
    clear hv9 hb9
    refine (rsub_any a b (by omega) (by omega) _).mono ?_
    rintro e v2 ⟨rfl, b9⟩
    replace X_p := X_p.keep b9
    replace X_a := X_a.keep b9
    replace X_b := X_b.keep b9
    replace X_r := X_r.keep b9
    replace BW := hid (BW.out.trans (b9.mono BW.out.size))
    clear b9
    have z_p := X_p.lt
    have c_p0 := X_p.cell (i := 0) rfl
    have c_p1 := X_p.cell (i := 1) rfl
    have c_p2 := X_p.cell (i := 2) rfl
    have c_p3 := X_p.cell (i := 3) rfl
    go_wp2_with fail
    obtain ⟨v3, hv9⟩ : ∃ v, (v2.alloc (.cells #[.int .u64 (limb (dif a b) 0 : Int), .int .u64 (limb (dif a b) 1 : Int), .int .u64 (limb (dif a b) 2 : Int), .int .u64 (limb (dif a b) 3 : Int)] 28)) = v := ⟨_, rfl⟩
    have hG9 : Below v2.heap.size v2 v3 := by rw [← hv9]; go_grown
    have X_d : Blk v3 (v2.heap.size) 28 [.int .u64 (limb (dif a b) 0 : Int), .int .u64 (limb (dif a b) 1 : Int), .int .u64 (limb (dif a b) 2 : Int), .int .u64 (limb (dif a b) 3 : Int)] := by rw [← hv9]; exact Blk.new (by simp)
    obtain ⟨bd, hb9⟩ : ∃ k, v2.heap.size = k := ⟨_, rfl⟩
    rw [hb9] at X_d
    have g_bd : w.heap.size ≤ bd := by rw [← hb9]; exact BW.out.size
    have q_p_bd : bp < bd := by rw [← hb9]; exact X_p.lt
    have q_a_bd : bp + 1 < bd := by rw [← hb9]; exact X_a.lt
    have q_b_bd : bp + 1 + 1 < bd := by rw [← hb9]; exact X_b.lt
    have q_r_bd : bp + 1 + 1 + 1 < bd := by rw [← hb9]; exact X_r.lt
    clear z_p c_p0 c_p1 c_p2 c_p3
    replace X_p := X_p.keep hG9
    replace X_a := X_a.keep hG9
    replace X_b := X_b.keep hG9
    replace X_r := X_r.keep hG9
    replace BW := hid (BW.out.trans (hG9.mono BW.out.size))
    clear hG9
    rw [hv9]
    try rw [hb9]
    clear hv9 hb9
    refine (rsum_any (dif a b) p (dif_lt _ _) hp _).mono ?_
    rintro e v4 ⟨rfl, b9⟩
    replace X_p := X_p.keep b9
    replace X_a := X_a.keep b9
    replace X_b := X_b.keep b9
    replace X_r := X_r.keep b9
    replace X_d := X_d.keep b9
    replace BW := hid (BW.out.trans (b9.mono BW.out.size))
    clear b9
    have z_r := X_r.lt
    have c_r0 := X_r.cell (i := 0) rfl
    have f_r0 := X_r.frozen 0
    have c_r1 := X_r.cell (i := 1) rfl
    have f_r1 := X_r.frozen 1
    have c_r2 := X_r.cell (i := 2) rfl
    have f_r2 := X_r.frozen 2
    have c_r3 := X_r.cell (i := 3) rfl
    have f_r3 := X_r.frozen 3
    have z_d := X_d.lt
    have c_d0 := X_d.cell (i := 0) rfl
    have f_d0 := X_d.frozen 0
    have c_d1 := X_d.cell (i := 1) rfl
    have f_d1 := X_d.frozen 1
    have c_d2 := X_d.cell (i := 2) rfl
    have f_d2 := X_d.frozen 2
    have c_d3 := X_d.cell (i := 3) rfl
    have f_d3 := X_d.frozen 3
    have n_rd : ¬ (bp + 1 + 1 + 1 = bd) := by omega
    have n_dr : ¬ (bd = bp + 1 + 1 + 1) := by omega
    go_wp2
    refine bodyPost_ret (by simp only [results, Tryd.results74]; go_simp; try rfl) rfl ?_
    exact ⟨by rw [subm_brw hp ha hb h], by have := BW.out; have := BW.out.size; go_grown; all_goals (simp; try omega)⟩
  · have hd : ((brw a b : Int) == 1) = false := by simp [brw_eq, h]
    have BW := hid (Below.refl w.heap.size w)
    go_enter Tryd.func74, Tryd.ntmps74
    go_wp2_with fail
    obtain ⟨v1, hv9⟩ : ∃ v, ((((w.alloc (.cells #[.int .u64 (limb p 0 : Int), .int .u64 (limb p 1 : Int), .int .u64 (limb p 2 : Int), .int .u64 (limb p 3 : Int)] 28)).alloc (.cells #[.int .u64 (limb a 0 : Int), .int .u64 (limb a 1 : Int), .int .u64 (limb a 2 : Int), .int .u64 (limb a 3 : Int)] 28)).alloc (.cells #[.int .u64 (limb b 0 : Int), .int .u64 (limb b 1 : Int), .int .u64 (limb b 2 : Int), .int .u64 (limb b 3 : Int)] 28)).alloc (.cells #[.int .u64 0, .int .u64 0, .int .u64 0, .int .u64 0] 28)) = v := ⟨_, rfl⟩
    have hG9 : Below w.heap.size w v1 := by rw [← hv9]; go_grown
    have X_p : Blk v1 (w.heap.size) 28 [.int .u64 (limb p 0 : Int), .int .u64 (limb p 1 : Int), .int .u64 (limb p 2 : Int), .int .u64 (limb p 3 : Int)] := by rw [← hv9]; exact Blk.alloc (Blk.alloc (Blk.alloc (Blk.new (by simp)) _) _) _
    have X_a : Blk v1 (w.heap.size + 1) 28 [.int .u64 (limb a 0 : Int), .int .u64 (limb a 1 : Int), .int .u64 (limb a 2 : Int), .int .u64 (limb a 3 : Int)] := by rw [← hv9]; exact Blk.alloc (Blk.alloc (Blk.new (by simp)) _) _
    have X_b : Blk v1 (w.heap.size + 1 + 1) 28 [.int .u64 (limb b 0 : Int), .int .u64 (limb b 1 : Int), .int .u64 (limb b 2 : Int), .int .u64 (limb b 3 : Int)] := by rw [← hv9]; exact Blk.alloc (Blk.new (by simp)) _
    have X_r : Blk v1 (w.heap.size + 1 + 1 + 1) 28 [.int .u64 0, .int .u64 0, .int .u64 0, .int .u64 0] := by rw [← hv9]; exact Blk.new (by simp)
    obtain ⟨bp, hb9⟩ : ∃ k, w.heap.size = k := ⟨_, rfl⟩
    rw [hb9] at X_p
    rw [hb9] at X_a
    rw [hb9] at X_b
    rw [hb9] at X_r
    have g_bp : w.heap.size ≤ bp := by rw [← hb9]; exact BW.out.size
    replace BW := hid (BW.out.trans (hG9.mono BW.out.size))
    clear hG9
    rw [hv9]
    try rw [hb9]
    clear hv9 hb9
    refine (rsub_any a b (by omega) (by omega) _).mono ?_
    rintro e v2 ⟨rfl, b9⟩
    replace X_p := X_p.keep b9
    replace X_a := X_a.keep b9
    replace X_b := X_b.keep b9
    replace X_r := X_r.keep b9
    replace BW := hid (BW.out.trans (b9.mono BW.out.size))
    clear b9
    have z_r := X_r.lt
    have c_r0 := X_r.cell (i := 0) rfl
    have f_r0 := X_r.frozen 0
    have c_r1 := X_r.cell (i := 1) rfl
    have f_r1 := X_r.frozen 1
    have c_r2 := X_r.cell (i := 2) rfl
    have f_r2 := X_r.frozen 2
    have c_r3 := X_r.cell (i := 3) rfl
    have f_r3 := X_r.frozen 3
    go_wp2
    refine bodyPost_ret (by simp only [results, Tryd.results74]; go_simp; try rfl) rfl ?_
    exact ⟨by rw [subm_nob hp ha hb h], by have := BW.out; have := BW.out.size; go_grown; all_goals (simp; try omega)⟩
end Go.Proofs.YtogenbggjodcnaaDoor
/-
  The reference of layer 3: one bit of a number.
-/
namespace Go.Proofs.YtogenbggjodcnaaDoor
open Go.RowKit

set_option maxHeartbeats 1000000 in
theorem rbit_low (a : Nat) (i : Nat) (hi : i ≤ 255) (w : World) :
    Calls Tryd.prog 89 #[vec a, .int .i64 (i : Int)] w (Ret (.int .u64 (bit a i : Int)) w) := by
  have hq : i / 64 < 4 := by omega
  have hL := limb_lt a (i / 64)
  have e1 : ((i : Int) / 64).toNat = i / 64 := by omega
  have hcell : (limbs a)[i / 64]? = some (.int .u64 (limb a (i / 64) : Int)) := limbs_get a hq
  go_enter Tryd.func89, Tryd.ntmps89
  go_wp2
  go_loop [5, 6] (fun x k => ∃ j : Nat, j ≤ i % 64 ∧ k = .int .i64 j ∧ x = .int .u64 (shr (limb a (i / 64)) j : Int)) (fun _ k => i % 64 - (intOf k).toNat)
  case atStart => exact ⟨0, by omega, rfl, by rw [shr_zero]; simpa using (List.getElem?_eq_some_iff.1 hcell).2⟩
  case round =>
    obtain ⟨j, hj, rfl, rfl⟩ := hrel
    have hS := shr_lt j hL
    have hS2 : (shr (limb a (i / 64)) j : Int) ≤ 18446744073709551615 := by unfold B64 at hS; omega
    clear hS hcell
    by_cases hlt : j < i % 64
    · go_wp2
      go_round
      case rel => exact ⟨j + 1, by omega, by go_num, by rw [shr_succ]; go_num⟩
      case measure => simp [intOf]; omega
    · obtain rfl : j = i % 64 := by omega
      go_wp2
      go_ret
      exact ⟨by rw [← bit_limb]; rfl, by go_grown⟩
end Go.Proofs.YtogenbggjodcnaaDoor
/-
  The reference of layer 4: the product by doubling and adding, and what is built of it.
-/
namespace Go.Proofs.YtogenbggjodcnaaDoor
open Go.RowKit

set_option maxHeartbeats 2000000 in
theorem rmul_any (p a b : Nat) (hp : p < B256) (ha : a < p) (hb : b < B256) (w : World) :
    Calls Tryd.prog 54 #[vec p, vec a, vec b] w (Ret (vec (mulm p a b)) w) := by
  have z0 : (0 : Int) = (limb (mulm p a (top b 256)) 0 : Int) := by rw [top_256 hb, mulm_zero, limb0]; rfl
  have z1 : (0 : Int) = (limb (mulm p a (top b 256)) 1 : Int) := by rw [top_256 hb, mulm_zero, limb1]; rfl
  have z2 : (0 : Int) = (limb (mulm p a (top b 256)) 2 : Int) := by rw [top_256 hb, mulm_zero, limb2]; rfl
  have z3 : (0 : Int) = (limb (mulm p a (top b 256)) 3 : Int) := by rw [top_256 hb, mulm_zero, limb3]; rfl
  have Z0 := hid z0
  have Z1 := hid z1
  have Z2 := hid z2
  have Z3 := hid z3
  clear z0 z1 z2 z3
  go_enter Tryd.func54, Tryd.ntmps54
  go_wp2
  go_loopw [8] (fun i wr => ∃ k : Nat, k ≤ 256 ∧ i = .int .i64 ((k : Int) - 1) ∧ Below w.heap.size w wr ∧
      Blk wr (w.heap.size) 28 [.int .u64 (limb p 0 : Int), .int .u64 (limb p 1 : Int), .int .u64 (limb p 2 : Int), .int .u64 (limb p 3 : Int)] ∧ Blk wr (w.heap.size + 1) 28 [.int .u64 (limb a 0 : Int), .int .u64 (limb a 1 : Int), .int .u64 (limb a 2 : Int), .int .u64 (limb a 3 : Int)] ∧ Blk wr (w.heap.size + 1 + 1) 28 [.int .u64 (limb b 0 : Int), .int .u64 (limb b 1 : Int), .int .u64 (limb b 2 : Int), .int .u64 (limb b 3 : Int)] ∧ Blk wr (w.heap.size + 1 + 1 + 1) 28 [.int .u64 0, .int .u64 0, .int .u64 0, .int .u64 0] ∧ Blk wr (w.heap.size + 1 + 1 + 1 + 1) 28 [.int .u64 (limb (mulm p a (top b k)) 0 : Int), .int .u64 (limb (mulm p a (top b k)) 1 : Int), .int .u64 (limb (mulm p a (top b k)) 2 : Int), .int .u64 (limb (mulm p a (top b k)) 3 : Int)])
    (fun i _ => (intOf i + 1).toNat)
  case atStart => exact ⟨256, by omega, rfl, by go_grown, Blk.alloc (Blk.alloc (Blk.alloc (Blk.alloc (Blk.new (by simp)) _) _) _) _, Blk.alloc (Blk.alloc (Blk.alloc (Blk.new (by simp)) _) _) _, Blk.alloc (Blk.alloc (Blk.new (by simp)) _) _, Blk.alloc (Blk.new (by simp)) _, by rw [← Z0.out, ← Z1.out, ← Z2.out, ← Z3.out]; exact Blk.new (by simp)⟩
  case round =>
    obtain ⟨k, hk, rfl, hB, h_p, h_a, h_b, h_r, h_o⟩ := hrel
    clear Z0 Z1 Z2 Z3
    have zB := hB.size
    cases k with
    | zero =>
      have e0 := top_zero b
      rw [e0] at h_o
      clear e0
      have z_p := h_p.lt
      have z_a := h_a.lt
      have z_b := h_b.lt
      have z_r := h_r.lt
      have c_r0 := h_r.cell (i := 0) rfl
      have c_r1 := h_r.cell (i := 1) rfl
      have c_r2 := h_r.cell (i := 2) rfl
      have c_r3 := h_r.cell (i := 3) rfl
      have f_r0 := h_r.frozen 0
      have f_r1 := h_r.frozen 1
      have f_r2 := h_r.frozen 2
      have f_r3 := h_r.frozen 3
      have z_o := h_o.lt
      have c_o0 := h_o.cell (i := 0) rfl
      have c_o1 := h_o.cell (i := 1) rfl
      have c_o2 := h_o.cell (i := 2) rfl
      have c_o3 := h_o.cell (i := 3) rfl
      go_wp2
      refine bodyPost_ret (by simp only [results, Tryd.results54]; go_simp; try rfl) rfl ?_
      exact ⟨rfl, by go_grown⟩
    | succ k =>
      have hk2 : ((k + 1 : Nat) : Int) - 1 = (k : Int) := by omega
      rw [hk2]
      clear hk2
      by_cases g : bit b k = 1
      · have d1 : ((bit b k : Int) == 1) = true := by simp [g]
        have G := hid g
        clear g
        have B0 : Below w.heap.size w wr := hB
        have z_p := h_p.lt
        have c_p0 := h_p.cell (i := 0) rfl
        have c_p1 := h_p.cell (i := 1) rfl
        have c_p2 := h_p.cell (i := 2) rfl
        have c_p3 := h_p.cell (i := 3) rfl
        have z_a := h_a.lt
        have z_b := h_b.lt
        have z_r := h_r.lt
        have z_o := h_o.lt
        have c_o0 := h_o.cell (i := 0) rfl
        have c_o1 := h_o.cell (i := 1) rfl
        have c_o2 := h_o.cell (i := 2) rfl
        have c_o3 := h_o.cell (i := 3) rfl
        go_wp2_with fail
        refine (radd_any p (mulm p a (top b (k + 1))) (mulm p a (top b (k + 1))) hp (mulm_lt _ _ (by omega)) (mulm_lt _ _ (by omega)) _).mono ?_
        rintro e w1 ⟨rfl, hb1⟩
        clear z_p c_p0 c_p1 c_p2 c_p3 z_a z_b z_r z_o c_o0 c_o1 c_o2 c_o3
        replace h_p := Blk.keep (h_p) hb1
        replace h_a := Blk.keep (h_a) hb1
        replace h_b := Blk.keep (h_b) hb1
        replace h_r := Blk.keep (h_r) hb1
        replace h_o := Blk.keep (h_o) hb1
        have B1 : Below w.heap.size w w1 := Below.call (by go_grown) hb1
        have zB1 := B1.size
        have z_p := h_p.lt
        have z_a := h_a.lt
        have z_b := h_b.lt
        have c_b0 := h_b.cell (i := 0) rfl
        have c_b1 := h_b.cell (i := 1) rfl
        have c_b2 := h_b.cell (i := 2) rfl
        have c_b3 := h_b.cell (i := 3) rfl
        have z_r := h_r.lt
        have z_o := h_o.lt
        have c_o0 := h_o.cell (i := 0) rfl
        have c_o1 := h_o.cell (i := 1) rfl
        have c_o2 := h_o.cell (i := 2) rfl
        have c_o3 := h_o.cell (i := 3) rfl
        have f_o0 := h_o.frozen 0
        have f_o1 := h_o.frozen 1
        have f_o2 := h_o.frozen 2
        have f_o3 := h_o.frozen 3
        go_wp2_with fail
        have h_p := h_p.other4 (c := w.heap.size + 1 + 1 + 1 + 1) (by omega) (.int .u64 (limb (addm p (mulm p a (top b (k + 1))) (mulm p a (top b (k + 1)))) 0 : Int)) (.int .u64 (limb (addm p (mulm p a (top b (k + 1))) (mulm p a (top b (k + 1)))) 1 : Int)) (.int .u64 (limb (addm p (mulm p a (top b (k + 1))) (mulm p a (top b (k + 1)))) 2 : Int)) (.int .u64 (limb (addm p (mulm p a (top b (k + 1))) (mulm p a (top b (k + 1)))) 3 : Int))
        have h_a := h_a.other4 (c := w.heap.size + 1 + 1 + 1 + 1) (by omega) (.int .u64 (limb (addm p (mulm p a (top b (k + 1))) (mulm p a (top b (k + 1)))) 0 : Int)) (.int .u64 (limb (addm p (mulm p a (top b (k + 1))) (mulm p a (top b (k + 1)))) 1 : Int)) (.int .u64 (limb (addm p (mulm p a (top b (k + 1))) (mulm p a (top b (k + 1)))) 2 : Int)) (.int .u64 (limb (addm p (mulm p a (top b (k + 1))) (mulm p a (top b (k + 1)))) 3 : Int))
        have h_b := h_b.other4 (c := w.heap.size + 1 + 1 + 1 + 1) (by omega) (.int .u64 (limb (addm p (mulm p a (top b (k + 1))) (mulm p a (top b (k + 1)))) 0 : Int)) (.int .u64 (limb (addm p (mulm p a (top b (k + 1))) (mulm p a (top b (k + 1)))) 1 : Int)) (.int .u64 (limb (addm p (mulm p a (top b (k + 1))) (mulm p a (top b (k + 1)))) 2 : Int)) (.int .u64 (limb (addm p (mulm p a (top b (k + 1))) (mulm p a (top b (k + 1)))) 3 : Int))
        have h_r := h_r.other4 (c := w.heap.size + 1 + 1 + 1 + 1) (by omega) (.int .u64 (limb (addm p (mulm p a (top b (k + 1))) (mulm p a (top b (k + 1)))) 0 : Int)) (.int .u64 (limb (addm p (mulm p a (top b (k + 1))) (mulm p a (top b (k + 1)))) 1 : Int)) (.int .u64 (limb (addm p (mulm p a (top b (k + 1))) (mulm p a (top b (k + 1)))) 2 : Int)) (.int .u64 (limb (addm p (mulm p a (top b (k + 1))) (mulm p a (top b (k + 1)))) 3 : Int))
        have h_o := h_o.set4 (.int .u64 (limb (addm p (mulm p a (top b (k + 1))) (mulm p a (top b (k + 1)))) 0 : Int)) (.int .u64 (limb (addm p (mulm p a (top b (k + 1))) (mulm p a (top b (k + 1)))) 1 : Int)) (.int .u64 (limb (addm p (mulm p a (top b (k + 1))) (mulm p a (top b (k + 1)))) 2 : Int)) (.int .u64 (limb (addm p (mulm p a (top b (k + 1))) (mulm p a (top b (k + 1)))) 3 : Int))
        refine (rbit_low b k (by omega) _).mono ?_
        rintro e w2 ⟨rfl, hb2⟩
        clear z_p z_a z_b c_b0 c_b1 c_b2 c_b3 z_r z_o c_o0 c_o1 c_o2 c_o3 f_o0 f_o1 f_o2 f_o3
        replace h_p := Blk.keep (h_p) hb2
        replace h_a := Blk.keep (h_a) hb2
        replace h_b := Blk.keep (h_b) hb2
        replace h_r := Blk.keep (h_r) hb2
        replace h_o := Blk.keep (h_o) hb2
        have B2 : Below w.heap.size w w2 := Below.call (by go_grown) hb2
        have zB2 := B2.size
        have z_p := h_p.lt
        have c_p0 := h_p.cell (i := 0) rfl
        have c_p1 := h_p.cell (i := 1) rfl
        have c_p2 := h_p.cell (i := 2) rfl
        have c_p3 := h_p.cell (i := 3) rfl
        have z_a := h_a.lt
        have c_a0 := h_a.cell (i := 0) rfl
        have c_a1 := h_a.cell (i := 1) rfl
        have c_a2 := h_a.cell (i := 2) rfl
        have c_a3 := h_a.cell (i := 3) rfl
        have z_b := h_b.lt
        have z_r := h_r.lt
        have z_o := h_o.lt
        have c_o0 := h_o.cell (i := 0) rfl
        have c_o1 := h_o.cell (i := 1) rfl
        have c_o2 := h_o.cell (i := 2) rfl
        have c_o3 := h_o.cell (i := 3) rfl
        go_wp2_with fail
        refine (radd_any p (addm p (mulm p a (top b (k + 1))) (mulm p a (top b (k + 1)))) a hp (addm_lt _ _ (by omega)) ha _).mono ?_
        rintro e w3 ⟨rfl, hb3⟩
        clear z_p c_p0 c_p1 c_p2 c_p3 z_a c_a0 c_a1 c_a2 c_a3 z_b z_r z_o c_o0 c_o1 c_o2 c_o3
        replace h_p := Blk.keep (h_p) hb3
        replace h_a := Blk.keep (h_a) hb3
        replace h_b := Blk.keep (h_b) hb3
        replace h_r := Blk.keep (h_r) hb3
        replace h_o := Blk.keep (h_o) hb3
        have B3 : Below w.heap.size w w3 := Below.call (by go_grown) hb3
        have zB3 := B3.size
        rw [top_bit1 p a b k ha G.out]
        have z_p := h_p.lt
        have z_a := h_a.lt
        have z_b := h_b.lt
        have z_r := h_r.lt
        have z_o := h_o.lt
        have c_o0 := h_o.cell (i := 0) rfl
        have c_o1 := h_o.cell (i := 1) rfl
        have c_o2 := h_o.cell (i := 2) rfl
        have c_o3 := h_o.cell (i := 3) rfl
        have f_o0 := h_o.frozen 0
        have f_o1 := h_o.frozen 1
        have f_o2 := h_o.frozen 2
        have f_o3 := h_o.frozen 3
        go_wp2
        have h_p := h_p.other4 (c := w.heap.size + 1 + 1 + 1 + 1) (by omega) (.int .u64 (limb (mulm p a (top b k)) 0 : Int)) (.int .u64 (limb (mulm p a (top b k)) 1 : Int)) (.int .u64 (limb (mulm p a (top b k)) 2 : Int)) (.int .u64 (limb (mulm p a (top b k)) 3 : Int))
        have h_a := h_a.other4 (c := w.heap.size + 1 + 1 + 1 + 1) (by omega) (.int .u64 (limb (mulm p a (top b k)) 0 : Int)) (.int .u64 (limb (mulm p a (top b k)) 1 : Int)) (.int .u64 (limb (mulm p a (top b k)) 2 : Int)) (.int .u64 (limb (mulm p a (top b k)) 3 : Int))
        have h_b := h_b.other4 (c := w.heap.size + 1 + 1 + 1 + 1) (by omega) (.int .u64 (limb (mulm p a (top b k)) 0 : Int)) (.int .u64 (limb (mulm p a (top b k)) 1 : Int)) (.int .u64 (limb (mulm p a (top b k)) 2 : Int)) (.int .u64 (limb (mulm p a (top b k)) 3 : Int))
        have h_r := h_r.other4 (c := w.heap.size + 1 + 1 + 1 + 1) (by omega) (.int .u64 (limb (mulm p a (top b k)) 0 : Int)) (.int .u64 (limb (mulm p a (top b k)) 1 : Int)) (.int .u64 (limb (mulm p a (top b k)) 2 : Int)) (.int .u64 (limb (mulm p a (top b k)) 3 : Int))
        have h_o := h_o.set4 (.int .u64 (limb (mulm p a (top b k)) 0 : Int)) (.int .u64 (limb (mulm p a (top b k)) 1 : Int)) (.int .u64 (limb (mulm p a (top b k)) 2 : Int)) (.int .u64 (limb (mulm p a (top b k)) 3 : Int))
        go_roundw
        case rel => exact ⟨k, by omega, by go_num, by go_grown, h_p, h_a, h_b, h_r, h_o⟩
        case measure => simp [intOf] <;> omega
      · have d1 : ((bit b k : Int) == 1) = false := by simp; omega
        have g0 : bit b k = 0 := by have := bit_le b k; omega
        have G := hid g
        have G0 := hid g0
        clear g g0
        have B0 : Below w.heap.size w wr := hB
        have z_p := h_p.lt
        have c_p0 := h_p.cell (i := 0) rfl
        have c_p1 := h_p.cell (i := 1) rfl
        have c_p2 := h_p.cell (i := 2) rfl
        have c_p3 := h_p.cell (i := 3) rfl
        have z_a := h_a.lt
        have z_b := h_b.lt
        have z_r := h_r.lt
        have z_o := h_o.lt
        have c_o0 := h_o.cell (i := 0) rfl
        have c_o1 := h_o.cell (i := 1) rfl
        have c_o2 := h_o.cell (i := 2) rfl
        have c_o3 := h_o.cell (i := 3) rfl
        go_wp2_with fail
        refine (radd_any p (mulm p a (top b (k + 1))) (mulm p a (top b (k + 1))) hp (mulm_lt _ _ (by omega)) (mulm_lt _ _ (by omega)) _).mono ?_
        rintro e w1 ⟨rfl, hb1⟩
        clear z_p c_p0 c_p1 c_p2 c_p3 z_a z_b z_r z_o c_o0 c_o1 c_o2 c_o3
        replace h_p := Blk.keep (h_p) hb1
        replace h_a := Blk.keep (h_a) hb1
        replace h_b := Blk.keep (h_b) hb1
        replace h_r := Blk.keep (h_r) hb1
        replace h_o := Blk.keep (h_o) hb1
        have B1 : Below w.heap.size w w1 := Below.call (by go_grown) hb1
        have zB1 := B1.size
        rw [top_bit0 p a b k G0.out]
        have z_p := h_p.lt
        have z_a := h_a.lt
        have z_b := h_b.lt
        have c_b0 := h_b.cell (i := 0) rfl
        have c_b1 := h_b.cell (i := 1) rfl
        have c_b2 := h_b.cell (i := 2) rfl
        have c_b3 := h_b.cell (i := 3) rfl
        have z_r := h_r.lt
        have z_o := h_o.lt
        have c_o0 := h_o.cell (i := 0) rfl
        have c_o1 := h_o.cell (i := 1) rfl
        have c_o2 := h_o.cell (i := 2) rfl
        have c_o3 := h_o.cell (i := 3) rfl
        have f_o0 := h_o.frozen 0
        have f_o1 := h_o.frozen 1
        have f_o2 := h_o.frozen 2
        have f_o3 := h_o.frozen 3
        go_wp2_with fail
        have h_p := h_p.other4 (c := w.heap.size + 1 + 1 + 1 + 1) (by omega) (.int .u64 (limb (mulm p a (top b k)) 0 : Int)) (.int .u64 (limb (mulm p a (top b k)) 1 : Int)) (.int .u64 (limb (mulm p a (top b k)) 2 : Int)) (.int .u64 (limb (mulm p a (top b k)) 3 : Int))
        have h_a := h_a.other4 (c := w.heap.size + 1 + 1 + 1 + 1) (by omega) (.int .u64 (limb (mulm p a (top b k)) 0 : Int)) (.int .u64 (limb (mulm p a (top b k)) 1 : Int)) (.int .u64 (limb (mulm p a (top b k)) 2 : Int)) (.int .u64 (limb (mulm p a (top b k)) 3 : Int))
        have h_b := h_b.other4 (c := w.heap.size + 1 + 1 + 1 + 1) (by omega) (.int .u64 (limb (mulm p a (top b k)) 0 : Int)) (.int .u64 (limb (mulm p a (top b k)) 1 : Int)) (.int .u64 (limb (mulm p a (top b k)) 2 : Int)) (.int .u64 (limb (mulm p a (top b k)) 3 : Int))
        have h_r := h_r.other4 (c := w.heap.size + 1 + 1 + 1 + 1) (by omega) (.int .u64 (limb (mulm p a (top b k)) 0 : Int)) (.int .u64 (limb (mulm p a (top b k)) 1 : Int)) (.int .u64 (limb (mulm p a (top b k)) 2 : Int)) (.int .u64 (limb (mulm p a (top b k)) 3 : Int))
        have h_o := h_o.set4 (.int .u64 (limb (mulm p a (top b k)) 0 : Int)) (.int .u64 (limb (mulm p a (top b k)) 1 : Int)) (.int .u64 (limb (mulm p a (top b k)) 2 : Int)) (.int .u64 (limb (mulm p a (top b k)) 3 : Int))
        refine (rbit_low b k (by omega) _).mono ?_
        rintro e w2 ⟨rfl, hb2⟩
        clear z_p z_a z_b c_b0 c_b1 c_b2 c_b3 z_r z_o c_o0 c_o1 c_o2 c_o3 f_o0 f_o1 f_o2 f_o3
        replace h_p := Blk.keep (h_p) hb2
        replace h_a := Blk.keep (h_a) hb2
        replace h_b := Blk.keep (h_b) hb2
        replace h_r := Blk.keep (h_r) hb2
        replace h_o := Blk.keep (h_o) hb2
        have B2 : Below w.heap.size w w2 := Below.call (by go_grown) hb2
        have zB2 := B2.size
        have z_p := h_p.lt
        have z_a := h_a.lt
        have z_b := h_b.lt
        have z_r := h_r.lt
        have z_o := h_o.lt
        go_wp2
        go_roundw
        case rel => exact ⟨k, by omega, by go_num, by go_grown, h_p, h_a, h_b, h_r, h_o⟩
        case measure => simp [intOf] <;> omega
end Go.Proofs.YtogenbggjodcnaaDoor
/-
  The reference of layer 4: One, Mod, Modulus, Radix, Pow, Inverse.
-/
namespace Go.Proofs.YtogenbggjodcnaaDoor
open Go.RowKit

theorem rone_any (w : World) :
    Calls Tryd.prog 65 #[] w fun e w' => e = .returned (vec 1) ∧ w.alloc (.cells #[.int .u64 1, .int .u64 0, .int .u64 0, .int .u64 0] 28) = w' := by
  go_enter Tryd.func65, Tryd.ntmps65
  go_wp2
  refine bodyPost_ret (by simp only [results, Tryd.results65]; go_simp; try rfl) rfl ?_
  exact ⟨by rw [vec_one], rfl⟩

set_option maxHeartbeats 1000000 in
theorem rmod_any (p a : Nat) (hp : p < B256) (h1 : 1 < p) (ha : a < B256) (w : World) :
    Calls Tryd.prog 25 #[vec p, vec a] w (Ret (vec (mulm p 1 a)) w) := by
  go_enter Tryd.func25, Tryd.ntmps25
  go_wp2
  go_region_with (first | (go_at_call 65; refine (rone_any _).mono ?_; rintro e w' ⟨rfl, rfl⟩) | (go_at_call 54; refine (rmul_any p 1 a hp h1 ha _).mono ?_; rintro e w1 ⟨rfl, hb1⟩; have h_r : Blk w1 (w.heap.size + 1 + 1) 28 [.int .u64 0, .int .u64 0, .int .u64 0, .int .u64 0] := Blk.keep (Blk.drew (Blk.alloc (Blk.new (by simp)) _)) hb1; have c0 := h_r.cell (i := 0) rfl; have c1 := h_r.cell (i := 1) rfl; have c2 := h_r.cell (i := 2) rfl; have c3 := h_r.cell (i := 3) rfl; have f0 := h_r.frozen 0; have f1 := h_r.frozen 1; have f2 := h_r.frozen 2; have f3 := h_r.frozen 3; have B1 : Below w.heap.size w w1 := Below.call (by go_grown) hb1))
  all_goals (go_wp2; (refine bodyPost_ret (by simp only [results, Tryd.results25]; go_simp; try rfl) rfl ?_); exact ⟨rfl, by go_grown⟩)
end Go.Proofs.YtogenbggjodcnaaDoor
/-
  The reference of layer 4: Modulus, Radix, Pow, Inverse.
-/
namespace Go.Proofs.YtogenbggjodcnaaDoor
open Go.RowKit

theorem rmodulus_1 (w : World) : Calls Tryd.prog 49 #[.int .i64 1] w (Ret (vec P1) w) := by
  go_enter Tryd.func49, Tryd.ntmps49
  go_wp2
  refine bodyPost_ret (by simp only [results, Tryd.results49]; go_simp; try rfl) rfl ?_
  exact ⟨by rw [← vec_P1], by go_grown⟩
theorem rmodulus_2 (w : World) : Calls Tryd.prog 49 #[.int .i64 2] w (Ret (vec P2) w) := by
  go_enter Tryd.func49, Tryd.ntmps49
  go_wp2
  refine bodyPost_ret (by simp only [results, Tryd.results49]; go_simp; try rfl) rfl ?_
  exact ⟨by rw [← vec_P2], by go_grown⟩
theorem rmodulus_0 (i : Int) (h1 : i ≠ 1) (h2 : i ≠ 2) (w : World) : Calls Tryd.prog 49 #[.int .i64 i] w (Ret (vec 0) w) := by
  have d1 : (i == 1) = false := by simp [h1]
  have d2 : (i == 2) = false := by simp [h2]
  clear h1 h2
  go_enter Tryd.func49, Tryd.ntmps49
  go_wp2
  refine bodyPost_ret (by simp only [results, Tryd.results49]; go_simp; try rfl) rfl ?_
  exact ⟨by rw [← vec_zero], by go_grown⟩

set_option maxRecDepth 100000 in
set_option maxHeartbeats 1000000 in
theorem rradix_any (p : Nat) (hp : p < B256) (h1 : 1 < p) (w : World) :
    Calls Tryd.prog 52 #[vec p] w (Ret (vec (powm p 2 256)) w) := by
  have o0 := hid (congrArg (fun n => limbs n) (powm_zero 2 h1)).symm
  have o1 := hid vec_one
  go_enter Tryd.func52, Tryd.ntmps52
  go_wp2_with (go_at_call 65; refine (rone_any _).mono ?_; rintro e w' ⟨rfl, rfl⟩)
  go_loopw [4] (fun i wr => ∃ k : Nat, k ≤ 256 ∧ i = .int .i64 (k : Int) ∧ Below w.heap.size w wr ∧
      Blk wr (w.heap.size) 28 [.int .u64 (limb p 0 : Int), .int .u64 (limb p 1 : Int), .int .u64 (limb p 2 : Int), .int .u64 (limb p 3 : Int)] ∧ Blk wr (w.heap.size + 1) 28 [.int .u64 0, .int .u64 0, .int .u64 0, .int .u64 0] ∧ Blk wr (w.heap.size + 1 + 1 + 1) 28 [.int .u64 (limb (powm p 2 k) 0 : Int), .int .u64 (limb (powm p 2 k) 1 : Int), .int .u64 (limb (powm p 2 k) 2 : Int), .int .u64 (limb (powm p 2 k) 3 : Int)])
    (fun i _ => 256 - (intOf i).toNat)
  case atStart =>
    have e0 := powm_zero 2 h1
    exact ⟨0, by omega, rfl, by go_grown, Blk.alloc (Blk.alloc (Blk.alloc (Blk.new (by simp)) _) _) _, Blk.alloc (Blk.alloc (Blk.new (by simp)) _) _, by rw [e0]; exact Blk.new (by simp)⟩
  case round =>
    obtain ⟨k, hk, rfl, hB, h_p, h_r, h_o⟩ := hrel
    clear o0 o1
    have zB := hB.size
    by_cases hlt : k < 256
    · have B0 : Below w.heap.size w wr := hB
      have z_p := h_p.lt
      have c_p0 := h_p.cell (i := 0) rfl
      have c_p1 := h_p.cell (i := 1) rfl
      have c_p2 := h_p.cell (i := 2) rfl
      have c_p3 := h_p.cell (i := 3) rfl
      have z_r := h_r.lt
      have z_o := h_o.lt
      have c_o0 := h_o.cell (i := 0) rfl
      have c_o1 := h_o.cell (i := 1) rfl
      have c_o2 := h_o.cell (i := 2) rfl
      have c_o3 := h_o.cell (i := 3) rfl
      go_wp2_with fail
      refine (radd_any p (powm p 2 k) (powm p 2 k) hp (powm_lt _ _ (by omega)) (powm_lt _ _ (by omega)) _).mono ?_
      rintro e w1 ⟨rfl, hb1⟩
      clear z_p c_p0 c_p1 c_p2 c_p3 z_r z_o c_o0 c_o1 c_o2 c_o3
      replace h_p := Blk.keep (h_p) hb1
      replace h_r := Blk.keep (h_r) hb1
      replace h_o := Blk.keep (h_o) hb1
      have B1 : Below w.heap.size w w1 := Below.call (by go_grown) hb1
      have zB1 := B1.size
      rw [powm_two]
      have z_p := h_p.lt
      have z_r := h_r.lt
      have z_o := h_o.lt
      have c_o0 := h_o.cell (i := 0) rfl
      have c_o1 := h_o.cell (i := 1) rfl
      have c_o2 := h_o.cell (i := 2) rfl
      have c_o3 := h_o.cell (i := 3) rfl
      have f_o0 := h_o.frozen 0
      have f_o1 := h_o.frozen 1
      have f_o2 := h_o.frozen 2
      have f_o3 := h_o.frozen 3
      go_wp2
      have h_p := h_p.other4 (c := w.heap.size + 1 + 1 + 1) (by omega) (.int .u64 (limb (powm p 2 (k + 1)) 0 : Int)) (.int .u64 (limb (powm p 2 (k + 1)) 1 : Int)) (.int .u64 (limb (powm p 2 (k + 1)) 2 : Int)) (.int .u64 (limb (powm p 2 (k + 1)) 3 : Int))
      have h_r := h_r.other4 (c := w.heap.size + 1 + 1 + 1) (by omega) (.int .u64 (limb (powm p 2 (k + 1)) 0 : Int)) (.int .u64 (limb (powm p 2 (k + 1)) 1 : Int)) (.int .u64 (limb (powm p 2 (k + 1)) 2 : Int)) (.int .u64 (limb (powm p 2 (k + 1)) 3 : Int))
      have h_o := h_o.set4 (.int .u64 (limb (powm p 2 (k + 1)) 0 : Int)) (.int .u64 (limb (powm p 2 (k + 1)) 1 : Int)) (.int .u64 (limb (powm p 2 (k + 1)) 2 : Int)) (.int .u64 (limb (powm p 2 (k + 1)) 3 : Int))
      go_roundw
      case rel => exact ⟨k + 1, by omega, by go_num, by go_grown, h_p, h_r, h_o⟩
      case measure => simp [intOf] <;> omega
    · obtain rfl : k = 256 := by omega
      have z_p := h_p.lt
      have z_r := h_r.lt
      have c_r0 := h_r.cell (i := 0) rfl
      have c_r1 := h_r.cell (i := 1) rfl
      have c_r2 := h_r.cell (i := 2) rfl
      have c_r3 := h_r.cell (i := 3) rfl
      have f_r0 := h_r.frozen 0
      have f_r1 := h_r.frozen 1
      have f_r2 := h_r.frozen 2
      have f_r3 := h_r.frozen 3
      have z_o := h_o.lt
      have c_o0 := h_o.cell (i := 0) rfl
      have c_o1 := h_o.cell (i := 1) rfl
      have c_o2 := h_o.cell (i := 2) rfl
      have c_o3 := h_o.cell (i := 3) rfl
      go_wp2
      refine bodyPost_ret (by simp only [results, Tryd.results52]; go_simp; try rfl) rfl ?_
      exact ⟨rfl, by go_grown⟩

set_option maxHeartbeats 2000000 in
theorem rpow_any (p a b : Nat) (hp : p < B256) (h1 : 1 < p) (ha : a < p) (hb : b < B256) (w : World) :
    Calls Tryd.prog 110 #[vec p, vec a, vec b] w (Ret (vec (powm p a b)) w) := by
  have e0 := hid (show powm p a (top b 256) = 1 by rw [top_256 hb, powm_zero a h1])
  go_enter Tryd.func110, Tryd.ntmps110
  go_wp2_with (go_at_call 65; refine (rone_any _).mono ?_; rintro e w' ⟨rfl, rfl⟩)
  go_loopw [8] (fun i wr => ∃ k : Nat, k ≤ 256 ∧ i = .int .i64 ((k : Int) - 1) ∧ Below w.heap.size w wr ∧
      Blk wr (w.heap.size) 28 [.int .u64 (limb p 0 : Int), .int .u64 (limb p 1 : Int), .int .u64 (limb p 2 : Int), .int .u64 (limb p 3 : Int)] ∧ Blk wr (w.heap.size + 1) 28 [.int .u64 (limb a 0 : Int), .int .u64 (limb a 1 : Int), .int .u64 (limb a 2 : Int), .int .u64 (limb a 3 : Int)] ∧ Blk wr (w.heap.size + 1 + 1) 28 [.int .u64 (limb b 0 : Int), .int .u64 (limb b 1 : Int), .int .u64 (limb b 2 : Int), .int .u64 (limb b 3 : Int)] ∧ Blk wr (w.heap.size + 1 + 1 + 1) 28 [.int .u64 0, .int .u64 0, .int .u64 0, .int .u64 0] ∧ Blk wr (w.heap.size + 1 + 1 + 1 + 1 + 1) 28 [.int .u64 (limb (powm p a (top b k)) 0 : Int), .int .u64 (limb (powm p a (top b k)) 1 : Int), .int .u64 (limb (powm p a (top b k)) 2 : Int), .int .u64 (limb (powm p a (top b k)) 3 : Int)])
    (fun i _ => (intOf i + 1).toNat)
  case atStart => exact ⟨256, by omega, rfl, by go_grown, Blk.alloc (Blk.alloc (Blk.alloc (Blk.alloc (Blk.alloc (Blk.new (by simp)) _) _) _) _) _, Blk.alloc (Blk.alloc (Blk.alloc (Blk.alloc (Blk.new (by simp)) _) _) _) _, Blk.alloc (Blk.alloc (Blk.alloc (Blk.new (by simp)) _) _) _, Blk.alloc (Blk.alloc (Blk.new (by simp)) _) _, by rw [e0.out]; exact Blk.new (by simp)⟩
  case round =>
    obtain ⟨k, hk, rfl, hB, h_p, h_a, h_b, h_r, h_o⟩ := hrel
    clear e0
    have zB := hB.size
    cases k with
    | zero =>
      have e0 := top_zero b
      rw [e0] at h_o
      clear e0
      have z_p := h_p.lt
      have z_a := h_a.lt
      have z_b := h_b.lt
      have z_r := h_r.lt
      have c_r0 := h_r.cell (i := 0) rfl
      have c_r1 := h_r.cell (i := 1) rfl
      have c_r2 := h_r.cell (i := 2) rfl
      have c_r3 := h_r.cell (i := 3) rfl
      have f_r0 := h_r.frozen 0
      have f_r1 := h_r.frozen 1
      have f_r2 := h_r.frozen 2
      have f_r3 := h_r.frozen 3
      have z_o := h_o.lt
      have c_o0 := h_o.cell (i := 0) rfl
      have c_o1 := h_o.cell (i := 1) rfl
      have c_o2 := h_o.cell (i := 2) rfl
      have c_o3 := h_o.cell (i := 3) rfl
      go_wp2
      refine bodyPost_ret (by simp only [results, Tryd.results110]; go_simp; try rfl) rfl ?_
      exact ⟨rfl, by go_grown⟩
    | succ k =>
      have hk2 : ((k + 1 : Nat) : Int) - 1 = (k : Int) := by omega
      rw [hk2]
      clear hk2
      by_cases g : bit b k = 1
      · have d1 : ((bit b k : Int) == 1) = true := by simp [g]
        have G := hid g
        clear g
        have B0 : Below w.heap.size w wr := hB
        have z_p := h_p.lt
        have c_p0 := h_p.cell (i := 0) rfl
        have c_p1 := h_p.cell (i := 1) rfl
        have c_p2 := h_p.cell (i := 2) rfl
        have c_p3 := h_p.cell (i := 3) rfl
        have z_a := h_a.lt
        have z_b := h_b.lt
        have z_r := h_r.lt
        have z_o := h_o.lt
        have c_o0 := h_o.cell (i := 0) rfl
        have c_o1 := h_o.cell (i := 1) rfl
        have c_o2 := h_o.cell (i := 2) rfl
        have c_o3 := h_o.cell (i := 3) rfl
        go_wp2_with fail
        refine (rmul_any p (powm p a (top b (k + 1))) (powm p a (top b (k + 1))) hp (powm_lt _ _ (by omega)) (Nat.lt_trans (powm_lt _ _ (by omega)) hp) _).mono ?_
        rintro e w1 ⟨rfl, hb1⟩
        clear z_p c_p0 c_p1 c_p2 c_p3 z_a z_b z_r z_o c_o0 c_o1 c_o2 c_o3
        replace h_p := Blk.keep (h_p) hb1
        replace h_a := Blk.keep (h_a) hb1
        replace h_b := Blk.keep (h_b) hb1
        replace h_r := Blk.keep (h_r) hb1
        replace h_o := Blk.keep (h_o) hb1
        have B1 : Below w.heap.size w w1 := Below.call (by go_grown) hb1
        have zB1 := B1.size
        have z_p := h_p.lt
        have z_a := h_a.lt
        have z_b := h_b.lt
        have c_b0 := h_b.cell (i := 0) rfl
        have c_b1 := h_b.cell (i := 1) rfl
        have c_b2 := h_b.cell (i := 2) rfl
        have c_b3 := h_b.cell (i := 3) rfl
        have z_r := h_r.lt
        have z_o := h_o.lt
        have c_o0 := h_o.cell (i := 0) rfl
        have c_o1 := h_o.cell (i := 1) rfl
        have c_o2 := h_o.cell (i := 2) rfl
        have c_o3 := h_o.cell (i := 3) rfl
        have f_o0 := h_o.frozen 0
        have f_o1 := h_o.frozen 1
        have f_o2 := h_o.frozen 2
        have f_o3 := h_o.frozen 3
        go_wp2_with fail
        have h_p := h_p.other4 (c := w.heap.size + 1 + 1 + 1 + 1 + 1) (by omega) (.int .u64 (limb (mulm p (powm p a (top b (k + 1))) (powm p a (top b (k + 1)))) 0 : Int)) (.int .u64 (limb (mulm p (powm p a (top b (k + 1))) (powm p a (top b (k + 1)))) 1 : Int)) (.int .u64 (limb (mulm p (powm p a (top b (k + 1))) (powm p a (top b (k + 1)))) 2 : Int)) (.int .u64 (limb (mulm p (powm p a (top b (k + 1))) (powm p a (top b (k + 1)))) 3 : Int))
        have h_a := h_a.other4 (c := w.heap.size + 1 + 1 + 1 + 1 + 1) (by omega) (.int .u64 (limb (mulm p (powm p a (top b (k + 1))) (powm p a (top b (k + 1)))) 0 : Int)) (.int .u64 (limb (mulm p (powm p a (top b (k + 1))) (powm p a (top b (k + 1)))) 1 : Int)) (.int .u64 (limb (mulm p (powm p a (top b (k + 1))) (powm p a (top b (k + 1)))) 2 : Int)) (.int .u64 (limb (mulm p (powm p a (top b (k + 1))) (powm p a (top b (k + 1)))) 3 : Int))
        have h_b := h_b.other4 (c := w.heap.size + 1 + 1 + 1 + 1 + 1) (by omega) (.int .u64 (limb (mulm p (powm p a (top b (k + 1))) (powm p a (top b (k + 1)))) 0 : Int)) (.int .u64 (limb (mulm p (powm p a (top b (k + 1))) (powm p a (top b (k + 1)))) 1 : Int)) (.int .u64 (limb (mulm p (powm p a (top b (k + 1))) (powm p a (top b (k + 1)))) 2 : Int)) (.int .u64 (limb (mulm p (powm p a (top b (k + 1))) (powm p a (top b (k + 1)))) 3 : Int))
        have h_r := h_r.other4 (c := w.heap.size + 1 + 1 + 1 + 1 + 1) (by omega) (.int .u64 (limb (mulm p (powm p a (top b (k + 1))) (powm p a (top b (k + 1)))) 0 : Int)) (.int .u64 (limb (mulm p (powm p a (top b (k + 1))) (powm p a (top b (k + 1)))) 1 : Int)) (.int .u64 (limb (mulm p (powm p a (top b (k + 1))) (powm p a (top b (k + 1)))) 2 : Int)) (.int .u64 (limb (mulm p (powm p a (top b (k + 1))) (powm p a (top b (k + 1)))) 3 : Int))
        have h_o := h_o.set4 (.int .u64 (limb (mulm p (powm p a (top b (k + 1))) (powm p a (top b (k + 1)))) 0 : Int)) (.int .u64 (limb (mulm p (powm p a (top b (k + 1))) (powm p a (top b (k + 1)))) 1 : Int)) (.int .u64 (limb (mulm p (powm p a (top b (k + 1))) (powm p a (top b (k + 1)))) 2 : Int)) (.int .u64 (limb (mulm p (powm p a (top b (k + 1))) (powm p a (top b (k + 1)))) 3 : Int))
        refine (rbit_low b k (by omega) _).mono ?_
        rintro e w2 ⟨rfl, hb2⟩
        clear z_p z_a z_b c_b0 c_b1 c_b2 c_b3 z_r z_o c_o0 c_o1 c_o2 c_o3 f_o0 f_o1 f_o2 f_o3
        replace h_p := Blk.keep (h_p) hb2
        replace h_a := Blk.keep (h_a) hb2
        replace h_b := Blk.keep (h_b) hb2
        replace h_r := Blk.keep (h_r) hb2
        replace h_o := Blk.keep (h_o) hb2
        have B2 : Below w.heap.size w w2 := Below.call (by go_grown) hb2
        have zB2 := B2.size
        have z_p := h_p.lt
        have c_p0 := h_p.cell (i := 0) rfl
        have c_p1 := h_p.cell (i := 1) rfl
        have c_p2 := h_p.cell (i := 2) rfl
        have c_p3 := h_p.cell (i := 3) rfl
        have z_a := h_a.lt
        have c_a0 := h_a.cell (i := 0) rfl
        have c_a1 := h_a.cell (i := 1) rfl
        have c_a2 := h_a.cell (i := 2) rfl
        have c_a3 := h_a.cell (i := 3) rfl
        have z_b := h_b.lt
        have z_r := h_r.lt
        have z_o := h_o.lt
        have c_o0 := h_o.cell (i := 0) rfl
        have c_o1 := h_o.cell (i := 1) rfl
        have c_o2 := h_o.cell (i := 2) rfl
        have c_o3 := h_o.cell (i := 3) rfl
        go_wp2_with fail
        refine (rmul_any p (mulm p (powm p a (top b (k + 1))) (powm p a (top b (k + 1)))) a hp (mulm_lt _ _ (by omega)) (Nat.lt_trans ha hp) _).mono ?_
        rintro e w3 ⟨rfl, hb3⟩
        clear z_p c_p0 c_p1 c_p2 c_p3 z_a c_a0 c_a1 c_a2 c_a3 z_b z_r z_o c_o0 c_o1 c_o2 c_o3
        replace h_p := Blk.keep (h_p) hb3
        replace h_a := Blk.keep (h_a) hb3
        replace h_b := Blk.keep (h_b) hb3
        replace h_r := Blk.keep (h_r) hb3
        replace h_o := Blk.keep (h_o) hb3
        have B3 : Below w.heap.size w w3 := Below.call (by go_grown) hb3
        have zB3 := B3.size
        rw [pow_bit1 p a b k ha G.out]
        have z_p := h_p.lt
        have z_a := h_a.lt
        have z_b := h_b.lt
        have z_r := h_r.lt
        have z_o := h_o.lt
        have c_o0 := h_o.cell (i := 0) rfl
        have c_o1 := h_o.cell (i := 1) rfl
        have c_o2 := h_o.cell (i := 2) rfl
        have c_o3 := h_o.cell (i := 3) rfl
        have f_o0 := h_o.frozen 0
        have f_o1 := h_o.frozen 1
        have f_o2 := h_o.frozen 2
        have f_o3 := h_o.frozen 3
        go_wp2
        have h_p := h_p.other4 (c := w.heap.size + 1 + 1 + 1 + 1 + 1) (by omega) (.int .u64 (limb (powm p a (top b k)) 0 : Int)) (.int .u64 (limb (powm p a (top b k)) 1 : Int)) (.int .u64 (limb (powm p a (top b k)) 2 : Int)) (.int .u64 (limb (powm p a (top b k)) 3 : Int))
        have h_a := h_a.other4 (c := w.heap.size + 1 + 1 + 1 + 1 + 1) (by omega) (.int .u64 (limb (powm p a (top b k)) 0 : Int)) (.int .u64 (limb (powm p a (top b k)) 1 : Int)) (.int .u64 (limb (powm p a (top b k)) 2 : Int)) (.int .u64 (limb (powm p a (top b k)) 3 : Int))
        have h_b := h_b.other4 (c := w.heap.size + 1 + 1 + 1 + 1 + 1) (by omega) (.int .u64 (limb (powm p a (top b k)) 0 : Int)) (.int .u64 (limb (powm p a (top b k)) 1 : Int)) (.int .u64 (limb (powm p a (top b k)) 2 : Int)) (.int .u64 (limb (powm p a (top b k)) 3 : Int))
        have h_r := h_r.other4 (c := w.heap.size + 1 + 1 + 1 + 1 + 1) (by omega) (.int .u64 (limb (powm p a (top b k)) 0 : Int)) (.int .u64 (limb (powm p a (top b k)) 1 : Int)) (.int .u64 (limb (powm p a (top b k)) 2 : Int)) (.int .u64 (limb (powm p a (top b k)) 3 : Int))
        have h_o := h_o.set4 (.int .u64 (limb (powm p a (top b k)) 0 : Int)) (.int .u64 (limb (powm p a (top b k)) 1 : Int)) (.int .u64 (limb (powm p a (top b k)) 2 : Int)) (.int .u64 (limb (powm p a (top b k)) 3 : Int))
        go_roundw
        case rel => exact ⟨k, by omega, by go_num, by go_grown, h_p, h_a, h_b, h_r, h_o⟩
        case measure => simp [intOf] <;> omega
      · have d1 : ((bit b k : Int) == 1) = false := by simp; omega
        have g0 : bit b k = 0 := by have := bit_le b k; omega
        have G := hid g
        have G0 := hid g0
        clear g g0
        have B0 : Below w.heap.size w wr := hB
        have z_p := h_p.lt
        have c_p0 := h_p.cell (i := 0) rfl
        have c_p1 := h_p.cell (i := 1) rfl
        have c_p2 := h_p.cell (i := 2) rfl
        have c_p3 := h_p.cell (i := 3) rfl
        have z_a := h_a.lt
        have z_b := h_b.lt
        have z_r := h_r.lt
        have z_o := h_o.lt
        have c_o0 := h_o.cell (i := 0) rfl
        have c_o1 := h_o.cell (i := 1) rfl
        have c_o2 := h_o.cell (i := 2) rfl
        have c_o3 := h_o.cell (i := 3) rfl
        go_wp2_with fail
        refine (rmul_any p (powm p a (top b (k + 1))) (powm p a (top b (k + 1))) hp (powm_lt _ _ (by omega)) (Nat.lt_trans (powm_lt _ _ (by omega)) hp) _).mono ?_
        rintro e w1 ⟨rfl, hb1⟩
        clear z_p c_p0 c_p1 c_p2 c_p3 z_a z_b z_r z_o c_o0 c_o1 c_o2 c_o3
        replace h_p := Blk.keep (h_p) hb1
        replace h_a := Blk.keep (h_a) hb1
        replace h_b := Blk.keep (h_b) hb1
        replace h_r := Blk.keep (h_r) hb1
        replace h_o := Blk.keep (h_o) hb1
        have B1 : Below w.heap.size w w1 := Below.call (by go_grown) hb1
        have zB1 := B1.size
        rw [pow_bit0 p a b k G0.out]
        have z_p := h_p.lt
        have z_a := h_a.lt
        have z_b := h_b.lt
        have c_b0 := h_b.cell (i := 0) rfl
        have c_b1 := h_b.cell (i := 1) rfl
        have c_b2 := h_b.cell (i := 2) rfl
        have c_b3 := h_b.cell (i := 3) rfl
        have z_r := h_r.lt
        have z_o := h_o.lt
        have c_o0 := h_o.cell (i := 0) rfl
        have c_o1 := h_o.cell (i := 1) rfl
        have c_o2 := h_o.cell (i := 2) rfl
        have c_o3 := h_o.cell (i := 3) rfl
        have f_o0 := h_o.frozen 0
        have f_o1 := h_o.frozen 1
        have f_o2 := h_o.frozen 2
        have f_o3 := h_o.frozen 3
        go_wp2_with fail
        have h_p := h_p.other4 (c := w.heap.size + 1 + 1 + 1 + 1 + 1) (by omega) (.int .u64 (limb (powm p a (top b k)) 0 : Int)) (.int .u64 (limb (powm p a (top b k)) 1 : Int)) (.int .u64 (limb (powm p a (top b k)) 2 : Int)) (.int .u64 (limb (powm p a (top b k)) 3 : Int))
        have h_a := h_a.other4 (c := w.heap.size + 1 + 1 + 1 + 1 + 1) (by omega) (.int .u64 (limb (powm p a (top b k)) 0 : Int)) (.int .u64 (limb (powm p a (top b k)) 1 : Int)) (.int .u64 (limb (powm p a (top b k)) 2 : Int)) (.int .u64 (limb (powm p a (top b k)) 3 : Int))
        have h_b := h_b.other4 (c := w.heap.size + 1 + 1 + 1 + 1 + 1) (by omega) (.int .u64 (limb (powm p a (top b k)) 0 : Int)) (.int .u64 (limb (powm p a (top b k)) 1 : Int)) (.int .u64 (limb (powm p a (top b k)) 2 : Int)) (.int .u64 (limb (powm p a (top b k)) 3 : Int))
        have h_r := h_r.other4 (c := w.heap.size + 1 + 1 + 1 + 1 + 1) (by omega) (.int .u64 (limb (powm p a (top b k)) 0 : Int)) (.int .u64 (limb (powm p a (top b k)) 1 : Int)) (.int .u64 (limb (powm p a (top b k)) 2 : Int)) (.int .u64 (limb (powm p a (top b k)) 3 : Int))
        have h_o := h_o.set4 (.int .u64 (limb (powm p a (top b k)) 0 : Int)) (.int .u64 (limb (powm p a (top b k)) 1 : Int)) (.int .u64 (limb (powm p a (top b k)) 2 : Int)) (.int .u64 (limb (powm p a (top b k)) 3 : Int))
        refine (rbit_low b k (by omega) _).mono ?_
        rintro e w2 ⟨rfl, hb2⟩
        clear z_p z_a z_b c_b0 c_b1 c_b2 c_b3 z_r z_o c_o0 c_o1 c_o2 c_o3 f_o0 f_o1 f_o2 f_o3
        replace h_p := Blk.keep (h_p) hb2
        replace h_a := Blk.keep (h_a) hb2
        replace h_b := Blk.keep (h_b) hb2
        replace h_r := Blk.keep (h_r) hb2
        replace h_o := Blk.keep (h_o) hb2
        have B2 : Below w.heap.size w w2 := Below.call (by go_grown) hb2
        have zB2 := B2.size
        have z_p := h_p.lt
        have z_a := h_a.lt
        have z_b := h_b.lt
        have z_r := h_r.lt
        have z_o := h_o.lt
        go_wp2
        go_roundw
        case rel => exact ⟨k, by omega, by go_num, by go_grown, h_p, h_a, h_b, h_r, h_o⟩
        case measure => simp [intOf] <;> omega

set_option maxHeartbeats 1000000 in
theorem rinv_any (p a : Nat) (hp : p < B256) (h1 : 1 < p) (ha : a < p) (w : World) :
    Calls Tryd.prog 77 #[vec p, vec a] w (Ret (vec (powm p a (p - 2))) w) := by
  go_enter Tryd.func77, Tryd.ntmps77
  go_wp2_with fail
  rw [vec_two]
  refine (rsub_any p 2 hp (by decide) _).mono ?_
  rintro e w1 ⟨rfl, hb1⟩
  have h_p : Blk w1 (w.heap.size) 28 [.int .u64 (limb p 0 : Int), .int .u64 (limb p 1 : Int), .int .u64 (limb p 2 : Int), .int .u64 (limb p 3 : Int)] := Blk.keep (Blk.alloc (Blk.alloc (Blk.new (by simp)) _) _) hb1
  have h_a : Blk w1 (w.heap.size + 1) 28 [.int .u64 (limb a 0 : Int), .int .u64 (limb a 1 : Int), .int .u64 (limb a 2 : Int), .int .u64 (limb a 3 : Int)] := Blk.keep (Blk.alloc (Blk.new (by simp)) _) hb1
  have h_r : Blk w1 (w.heap.size + 1 + 1) 28 [.int .u64 0, .int .u64 0, .int .u64 0, .int .u64 0] := Blk.keep (Blk.new (by simp)) hb1
  have B1 : Below w.heap.size w w1 := Below.call (by go_grown) hb1
  have zB1 := B1.size
  rw [dif_le hp (by omega)]
  have z_p := h_p.lt
  have c_p0 := h_p.cell (i := 0) rfl
  have c_p1 := h_p.cell (i := 1) rfl
  have c_p2 := h_p.cell (i := 2) rfl
  have c_p3 := h_p.cell (i := 3) rfl
  have z_a := h_a.lt
  have c_a0 := h_a.cell (i := 0) rfl
  have c_a1 := h_a.cell (i := 1) rfl
  have c_a2 := h_a.cell (i := 2) rfl
  have c_a3 := h_a.cell (i := 3) rfl
  have z_r := h_r.lt
  go_wp2_with fail
  refine (rpow_any p a (p - 2) hp h1 ha (by omega) _).mono ?_
  rintro e w2 ⟨rfl, hb2⟩
  clear z_p c_p0 c_p1 c_p2 c_p3 z_a c_a0 c_a1 c_a2 c_a3 z_r
  replace h_p := Blk.keep (Blk.alloc (h_p) _) hb2
  replace h_a := Blk.keep (Blk.alloc (h_a) _) hb2
  replace h_r := Blk.keep (Blk.alloc (h_r) _) hb2
  have h_s : Blk w2 (w1.heap.size) 28 [.int .u64 (limb (p - 2) 0 : Int), .int .u64 (limb (p - 2) 1 : Int), .int .u64 (limb (p - 2) 2 : Int), .int .u64 (limb (p - 2) 3 : Int)] := Blk.keep (Blk.new (by simp)) hb2
  have B2 : Below w.heap.size w w2 := Below.call (by go_grown) hb2
  have zB2 := B2.size
  have z_p := h_p.lt
  have z_a := h_a.lt
  have z_r := h_r.lt
  have c_r0 := h_r.cell (i := 0) rfl
  have c_r1 := h_r.cell (i := 1) rfl
  have c_r2 := h_r.cell (i := 2) rfl
  have c_r3 := h_r.cell (i := 3) rfl
  have f_r0 := h_r.frozen 0
  have f_r1 := h_r.frozen 1
  have f_r2 := h_r.frozen 2
  have f_r3 := h_r.frozen 3
  have z_s := h_s.lt
  go_wp2
  refine bodyPost_ret (by simp only [results, Tryd.results77]; go_simp; try rfl) rfl ?_
  exact ⟨rfl, by go_grown⟩
end Go.Proofs.YtogenbggjodcnaaDoor
/-
  The reference's Form.
-/
namespace Go.Proofs.YtogenbggjodcnaaDoor
open Go.RowKit

set_option maxRecDepth 100000 in
set_option maxHeartbeats 1000000 in
theorem rform_any (p v : Nat) (hp : p < B256) (h1 : 1 < p) (hv : v < B256) (w : World) : Calls Tryd.prog 22 #[vec p, vec v] w (Ret (vec (frm p v)) w) := by
  have EQ := hid (form_eq (p := p) v)
  have HP := hid hp
  have H1 := hid h1
  have HV := hid hv
  clear hp h1 hv
  go_enter Tryd.func22, Tryd.ntmps22
  go_wp2
  go_region_held3 (fun w' => w'.cell? ⟨w.heap.size, 0, none⟩ = some (.int .u64 (limb p 0 : Int)) ∧ w'.cell? ⟨w.heap.size, 1, none⟩ = some (.int .u64 (limb p 1 : Int)) ∧ w'.cell? ⟨w.heap.size, 2, none⟩ = some (.int .u64 (limb p 2 : Int)) ∧ w'.cell? ⟨w.heap.size, 3, none⟩ = some (.int .u64 (limb p 3 : Int)) ∧ w'.cell? ⟨w.heap.size + 1, 0, none⟩ = some (.int .u64 (limb v 0 : Int)) ∧ w'.cell? ⟨w.heap.size + 1, 1, none⟩ = some (.int .u64 (limb v 1 : Int)) ∧ w'.cell? ⟨w.heap.size + 1, 2, none⟩ = some (.int .u64 (limb v 2 : Int)) ∧ w'.cell? ⟨w.heap.size + 1, 3, none⟩ = some (.int .u64 (limb v 3 : Int))) ((first | (go_simp; done) | go_keep)) (first | (go_at_call 54; refine (rmul_any p (powm p 2 256) v HP.out (powm_lt _ _ (by have := H1.out; omega)) HV.out _).mono ?_; rintro e w2 ⟨rfl, hb2⟩; have B2 : Below w.heap.size w w2 := Below.call (by go_grown) hb2; have zB2 := B2.size; have y2_0 : w.heap.size < w2.heap.size := (by have this := hb2.size; (try simp at this); omega); have y2_1 : w.heap.size + 1 < w2.heap.size := (by have this := hb2.size; (try simp at this); omega); have hc2 := bcell hb2; have h_r : Blk w2 (w.heap.size + 1 + 1) 28 [.int .u64 0, .int .u64 0, .int .u64 0, .int .u64 0] := Blk.keep (Blk.keep (Blk.drew (Blk.new (by simp))) hb1) hb2; have ch_r0 := h_r.cell (i := 0) rfl; have fh_r0 := h_r.frozen 0; have ch_r1 := h_r.cell (i := 1) rfl; have fh_r1 := h_r.frozen 1; have ch_r2 := h_r.cell (i := 2) rfl; have fh_r2 := h_r.frozen 2; have ch_r3 := h_r.cell (i := 3) rfl; have fh_r3 := h_r.frozen 3; have zr := h_r.lt) | (go_at_call 52; refine (rradix_any p HP.out H1.out _).mono ?_; rintro e w1 ⟨rfl, hb1⟩; have B1 : Below w.heap.size w w1 := Below.call (by go_grown) hb1; have zB1 := B1.size; have y1_0 : w.heap.size < w1.heap.size := (by have this := hb1.size; (try simp at this); omega); have y1_1 : w.heap.size + 1 < w1.heap.size := (by have this := hb1.size; (try simp at this); omega); have hc1 := bcell hb1))
  all_goals go_wp2
  all_goals refine bodyPost_ret (by simp only [results, Tryd.results22]; go_simp; try rfl) rfl ?_
  all_goals exact ⟨by rw [EQ.out], by go_grown⟩
end Go.Proofs.YtogenbggjodcnaaDoor
/-
  The reference's halve and Value.
-/
namespace Go.Proofs.YtogenbggjodcnaaDoor
open Go.RowKit

set_option maxRecDepth 100000 in
set_option maxHeartbeats 2000000 in
theorem rhalve_any (p a : Nat) (hp : p < B256) (ha : a < B256) (w : World) : Calls Tryd.prog 83 #[vec p, vec a] w (Ret (vec (hlf p a)) w) := by
  by_cases hd : limb a 0 % 2 = 1
  · have hi : (limb a 0 : Int) % 2 = 1 := by omega
    have ht : Int.tmod (limb a 0 : Int) 2 = 1 := by rw [Int.tmod_eq_emod_of_nonneg (by omega)]; exact hi
    have EQ := hid (hlf_odd (by rw [← limb_par]; exact hd) hp ha)
    have hA := sum_lt a p
    have htop := cry_le ha hp
    go_enter Tryd.func83, Tryd.ntmps83
    go_wp2_with (go_at_call 67; refine (rsum_any a p ha hp _).mono ?_; rintro e w1 ⟨rfl, hb1⟩; have h_a := Blk.keep (b := w.heap.size + 1) (t := 28) (xs := [.int .u64 (limb a 0 : Int), .int .u64 (limb a 1 : Int), .int .u64 (limb a 2 : Int), .int .u64 (limb a 3 : Int)]) (Blk.alloc (Blk.new (by simp)) _) hb1; have h_p := Blk.keep (b := w.heap.size) (t := 28) (xs := [.int .u64 (limb p 0 : Int), .int .u64 (limb p 1 : Int), .int .u64 (limb p 2 : Int), .int .u64 (limb p 3 : Int)]) (Blk.alloc (Blk.alloc (Blk.new (by simp)) _) _) hb1; have h_r := Blk.keep (b := w.heap.size + 1 + 1) (t := 28) (xs := [.int .u64 0, .int .u64 0, .int .u64 0, .int .u64 0]) (Blk.new (by simp)) hb1; have a0 := h_a.cell (i := 0) rfl; have g0 := h_a.frozen 0; have a1 := h_a.cell (i := 1) rfl; have g1 := h_a.frozen 1; have a2 := h_a.cell (i := 2) rfl; have g2 := h_a.frozen 2; have a3 := h_a.cell (i := 3) rfl; have g3 := h_a.frozen 3; have za := h_a.lt; have B1 : Below w.heap.size w w1 := Below.call (by go_grown) hb1)
    have B0 : Below w.heap.size w (((((w1.setCell ⟨w.heap.size + 1, 0, none⟩ (.int .u64 (limb (sum a p) 0 : Int))).setCell ⟨w.heap.size + 1, 1, none⟩ (.int .u64 (limb (sum a p) 1 : Int))).setCell ⟨w.heap.size + 1, 2, none⟩ (.int .u64 (limb (sum a p) 2 : Int))).setCell ⟨w.heap.size + 1, 3, none⟩ (.int .u64 (limb (sum a p) 3 : Int))).alloc (.cells #[.int .u64 0, .int .u64 0, .int .u64 0, .int .u64 0] 28)) := by go_grown
    replace h_p := Blk.alloc (h_p.other4 (c := w.heap.size + 1) (by omega) (.int .u64 (limb (sum a p) 0 : Int)) (.int .u64 (limb (sum a p) 1 : Int)) (.int .u64 (limb (sum a p) 2 : Int)) (.int .u64 (limb (sum a p) 3 : Int))) (.cells #[.int .u64 0, .int .u64 0, .int .u64 0, .int .u64 0] 28)
    replace h_r := Blk.alloc (h_r.other4 (c := w.heap.size + 1) (by omega) (.int .u64 (limb (sum a p) 0 : Int)) (.int .u64 (limb (sum a p) 1 : Int)) (.int .u64 (limb (sum a p) 2 : Int)) (.int .u64 (limb (sum a p) 3 : Int))) (.cells #[.int .u64 0, .int .u64 0, .int .u64 0, .int .u64 0] 28)
    replace h_a := Blk.alloc (h_a.set4 (.int .u64 (limb (sum a p) 0 : Int)) (.int .u64 (limb (sum a p) 1 : Int)) (.int .u64 (limb (sum a p) 2 : Int)) (.int .u64 (limb (sum a p) 3 : Int))) (.cells #[.int .u64 0, .int .u64 0, .int .u64 0, .int .u64 0] 28)
    have h_o : Blk (((((w1.setCell ⟨w.heap.size + 1, 0, none⟩ (.int .u64 (limb (sum a p) 0 : Int))).setCell ⟨w.heap.size + 1, 1, none⟩ (.int .u64 (limb (sum a p) 1 : Int))).setCell ⟨w.heap.size + 1, 2, none⟩ (.int .u64 (limb (sum a p) 2 : Int))).setCell ⟨w.heap.size + 1, 3, none⟩ (.int .u64 (limb (sum a p) 3 : Int))).alloc (.cells #[.int .u64 0, .int .u64 0, .int .u64 0, .int .u64 0] 28)) w1.heap.size 28 [.int .u64 0, .int .u64 0, .int .u64 0, .int .u64 0] := Blk.new (by simp)
    have zz : w.heap.size + 1 + 1 < w1.heap.size := by have := hb1.size; simp at this; omega
    clear a0 g0 a1 g1 a2 g2 a3 g3 za hb1 B1 hi ht hd
    go_loopw [7] (fun y wr => ∃ (k : Nat) (o : List Value), k ≤ 4 ∧ y = .int .i64 (k : Int) ∧ Below w.heap.size w wr ∧ Blk wr (w.heap.size) 28 [.int .u64 (limb p 0 : Int), .int .u64 (limb p 1 : Int), .int .u64 (limb p 2 : Int), .int .u64 (limb p 3 : Int)] ∧ Blk wr (w.heap.size + 1) 28 [.int .u64 (limb (sum a p) 0 : Int), .int .u64 (limb (sum a p) 1 : Int), .int .u64 (limb (sum a p) 2 : Int), .int .u64 (limb (sum a p) 3 : Int)] ∧ Blk wr (w.heap.size + 1 + 1) 28 [.int .u64 0, .int .u64 0, .int .u64 0, .int .u64 0] ∧ Blk wr (w1.heap.size) 28 o ∧ o.length = 4 ∧ ∀ j, j < k → o[j]? = some (.int .u64 (hwd (sum a p) (cry a p) j : Int))) (fun y _ => 4 - (intOf y).toNat)
    case atStart => exact ⟨0, [.int .u64 0, .int .u64 0, .int .u64 0, .int .u64 0], by omega, rfl, B0, h_p, h_a, h_r, h_o, rfl, fun j hj => by omega⟩
    case round =>
      clear B0 h_p h_a h_r h_o
      obtain ⟨k, o, hk, rfl, hB, h_p, h_a, h_r, h_o, ho, hj⟩ := hrel
      by_cases hlt : k < 4
      · obtain ⟨ok, hok⟩ : ∃ v, o[k]? = some v := ⟨o[k], by simp⟩
        have ca := h_a.cell (limbs_get (sum a p) hlt)
        have co := h_o.cell hok
        have fo := h_o.frozen k
        have zo := h_o.lt
        have la : limb (sum a p) k < 18446744073709551616 := limb_lt _ _
        have HO := hid ho
        have HJ := hid hj
        clear ho hj hok
        by_cases h3 : k < 3
        · have cb := h_a.cell (limbs_get (sum a p) (show k + 1 < 4 by omega))
          have z4 : (k : Int) + 1 < 4 := by omega
          have z4n : k + 1 < 4 := by omega
          have lm : limb (sum a p) k / 2 + limb (sum a p) (k + 1) % 2 * 9223372036854775808 < 18446744073709551616 := by omega
          have lq : limb (sum a p) (k + 1) % 2 * 9223372036854775808 < 18446744073709551616 := by omega
          go_wp2
          go_roundw
          case rel => exact ⟨k + 1, o.set k _, by omega, by go_num, by go_grown, h_p.other _ _ (by dsimp only; omega), h_a.other _ _ (by dsimp only; omega), h_r.other _ _ (by dsimp only; omega), h_o.set k _, by simp [HO.out], row_set HJ.out HO.out hlt (by rw [hwd_eq, if_pos h3]; rfl)⟩
          case measure => simp [intOf]; omega
        · have lm : limb (sum a p) k / 2 + (cry a p) * 9223372036854775808 < 18446744073709551616 := by omega
          have lq : (cry a p) * 9223372036854775808 < 18446744073709551616 := by omega
          go_wp2
          go_roundw
          case rel => exact ⟨k + 1, o.set k _, by omega, by go_num, by go_grown, h_p.other _ _ (by dsimp only; omega), h_a.other _ _ (by dsimp only; omega), h_r.other _ _ (by dsimp only; omega), h_o.set k _, by simp [HO.out], row_set HJ.out HO.out hlt (by rw [hwd_eq, if_neg h3]; rfl)⟩
          case measure => simp [intOf]; omega
      · obtain rfl : k = 4 := by omega
        obtain rfl := row_four hj ho
        have HE := hid (show (.agg #[.int .u64 (hwd (sum a p) (cry a p) 0 : Int), .int .u64 (hwd (sum a p) (cry a p) 1 : Int), .int .u64 (hwd (sum a p) (cry a p) 2 : Int), .int .u64 (hwd (sum a p) (cry a p) 3 : Int)] : Value) = vec (hlf p a) by rw [vec_words (hwd_lt _ _ htop) (hwd_lt _ _ htop) (hwd_lt _ _ htop) (hwd_lt _ _ htop), hwd_num hA htop, EQ.out])
        have c0 := h_o.cell (i := 0) rfl
        have r0 := h_r.cell (i := 0) rfl
        have f0 := h_r.frozen 0
        have c1 := h_o.cell (i := 1) rfl
        have r1 := h_r.cell (i := 1) rfl
        have f1 := h_r.frozen 1
        have c2 := h_o.cell (i := 2) rfl
        have r2 := h_r.cell (i := 2) rfl
        have f2 := h_r.frozen 2
        have c3 := h_o.cell (i := 3) rfl
        have r3 := h_r.cell (i := 3) rfl
        have f3 := h_r.frozen 3
        have zr := h_r.lt
        clear hj ho
        go_wp2
        refine bodyPost_ret (by simp only [results, Tryd.results83]; go_simp; try rfl) rfl ?_
        exact ⟨by rw [HE.out], by go_grown⟩

  · have hi : (limb a 0 : Int) % 2 = 0 := by omega
    have ht : Int.tmod (limb a 0 : Int) 2 = 0 := by rw [Int.tmod_eq_emod_of_nonneg (by omega)]; exact hi
    have EQ := hid (hlf_even (p := p) (by rw [← limb_par]; exact hd))
    have hA := ha
    have htop : 0 ≤ 1 := by omega
    go_enter Tryd.func83, Tryd.ntmps83
    go_wp2
    have B0 : Below w.heap.size w ((((w.alloc (.cells #[.int .u64 (limb p 0 : Int), .int .u64 (limb p 1 : Int), .int .u64 (limb p 2 : Int), .int .u64 (limb p 3 : Int)] 28)).alloc (.cells #[.int .u64 (limb a 0 : Int), .int .u64 (limb a 1 : Int), .int .u64 (limb a 2 : Int), .int .u64 (limb a 3 : Int)] 28)).alloc (.cells #[.int .u64 0, .int .u64 0, .int .u64 0, .int .u64 0] 28)).alloc (.cells #[.int .u64 0, .int .u64 0, .int .u64 0, .int .u64 0] 28)) := by go_grown
    have h_p : Blk ((((w.alloc (.cells #[.int .u64 (limb p 0 : Int), .int .u64 (limb p 1 : Int), .int .u64 (limb p 2 : Int), .int .u64 (limb p 3 : Int)] 28)).alloc (.cells #[.int .u64 (limb a 0 : Int), .int .u64 (limb a 1 : Int), .int .u64 (limb a 2 : Int), .int .u64 (limb a 3 : Int)] 28)).alloc (.cells #[.int .u64 0, .int .u64 0, .int .u64 0, .int .u64 0] 28)).alloc (.cells #[.int .u64 0, .int .u64 0, .int .u64 0, .int .u64 0] 28)) w.heap.size 28 [.int .u64 (limb p 0 : Int), .int .u64 (limb p 1 : Int), .int .u64 (limb p 2 : Int), .int .u64 (limb p 3 : Int)] := Blk.alloc (Blk.alloc (Blk.alloc (Blk.new (by simp)) _) _) _
    have h_a : Blk ((((w.alloc (.cells #[.int .u64 (limb p 0 : Int), .int .u64 (limb p 1 : Int), .int .u64 (limb p 2 : Int), .int .u64 (limb p 3 : Int)] 28)).alloc (.cells #[.int .u64 (limb a 0 : Int), .int .u64 (limb a 1 : Int), .int .u64 (limb a 2 : Int), .int .u64 (limb a 3 : Int)] 28)).alloc (.cells #[.int .u64 0, .int .u64 0, .int .u64 0, .int .u64 0] 28)).alloc (.cells #[.int .u64 0, .int .u64 0, .int .u64 0, .int .u64 0] 28)) (w.heap.size + 1) 28 [.int .u64 (limb a 0 : Int), .int .u64 (limb a 1 : Int), .int .u64 (limb a 2 : Int), .int .u64 (limb a 3 : Int)] := Blk.alloc (Blk.alloc (Blk.new (by simp)) _) _
    have h_r : Blk ((((w.alloc (.cells #[.int .u64 (limb p 0 : Int), .int .u64 (limb p 1 : Int), .int .u64 (limb p 2 : Int), .int .u64 (limb p 3 : Int)] 28)).alloc (.cells #[.int .u64 (limb a 0 : Int), .int .u64 (limb a 1 : Int), .int .u64 (limb a 2 : Int), .int .u64 (limb a 3 : Int)] 28)).alloc (.cells #[.int .u64 0, .int .u64 0, .int .u64 0, .int .u64 0] 28)).alloc (.cells #[.int .u64 0, .int .u64 0, .int .u64 0, .int .u64 0] 28)) (w.heap.size + 1 + 1) 28 [.int .u64 0, .int .u64 0, .int .u64 0, .int .u64 0] := Blk.alloc (Blk.new (by simp)) _
    have h_o : Blk ((((w.alloc (.cells #[.int .u64 (limb p 0 : Int), .int .u64 (limb p 1 : Int), .int .u64 (limb p 2 : Int), .int .u64 (limb p 3 : Int)] 28)).alloc (.cells #[.int .u64 (limb a 0 : Int), .int .u64 (limb a 1 : Int), .int .u64 (limb a 2 : Int), .int .u64 (limb a 3 : Int)] 28)).alloc (.cells #[.int .u64 0, .int .u64 0, .int .u64 0, .int .u64 0] 28)).alloc (.cells #[.int .u64 0, .int .u64 0, .int .u64 0, .int .u64 0] 28)) (w.heap.size + 1 + 1 + 1) 28 [.int .u64 0, .int .u64 0, .int .u64 0, .int .u64 0] := Blk.new (by simp)
    clear hi ht hd
    go_loopw [7] (fun y wr => ∃ (k : Nat) (o : List Value), k ≤ 4 ∧ y = .int .i64 (k : Int) ∧ Below w.heap.size w wr ∧ Blk wr (w.heap.size) 28 [.int .u64 (limb p 0 : Int), .int .u64 (limb p 1 : Int), .int .u64 (limb p 2 : Int), .int .u64 (limb p 3 : Int)] ∧ Blk wr (w.heap.size + 1) 28 [.int .u64 (limb a 0 : Int), .int .u64 (limb a 1 : Int), .int .u64 (limb a 2 : Int), .int .u64 (limb a 3 : Int)] ∧ Blk wr (w.heap.size + 1 + 1) 28 [.int .u64 0, .int .u64 0, .int .u64 0, .int .u64 0] ∧ Blk wr (w.heap.size + 1 + 1 + 1) 28 o ∧ o.length = 4 ∧ ∀ j, j < k → o[j]? = some (.int .u64 (hwd (a) (0) j : Int))) (fun y _ => 4 - (intOf y).toNat)
    case atStart => exact ⟨0, [.int .u64 0, .int .u64 0, .int .u64 0, .int .u64 0], by omega, rfl, B0, h_p, h_a, h_r, h_o, rfl, fun j hj => by omega⟩
    case round =>
      clear B0 h_p h_a h_r h_o
      obtain ⟨k, o, hk, rfl, hB, h_p, h_a, h_r, h_o, ho, hj⟩ := hrel
      by_cases hlt : k < 4
      · obtain ⟨ok, hok⟩ : ∃ v, o[k]? = some v := ⟨o[k], by simp⟩
        have ca := h_a.cell (limbs_get (a) hlt)
        have co := h_o.cell hok
        have fo := h_o.frozen k
        have zo := h_o.lt
        have la : limb (a) k < 18446744073709551616 := limb_lt _ _
        have HO := hid ho
        have HJ := hid hj
        clear ho hj hok
        by_cases h3 : k < 3
        · have cb := h_a.cell (limbs_get (a) (show k + 1 < 4 by omega))
          have z4 : (k : Int) + 1 < 4 := by omega
          have z4n : k + 1 < 4 := by omega
          have lm : limb (a) k / 2 + limb (a) (k + 1) % 2 * 9223372036854775808 < 18446744073709551616 := by omega
          have lq : limb (a) (k + 1) % 2 * 9223372036854775808 < 18446744073709551616 := by omega
          go_wp2
          go_roundw
          case rel => exact ⟨k + 1, o.set k _, by omega, by go_num, by go_grown, h_p.other _ _ (by dsimp only; omega), h_a.other _ _ (by dsimp only; omega), h_r.other _ _ (by dsimp only; omega), h_o.set k _, by simp [HO.out], row_set HJ.out HO.out hlt (by rw [hwd_eq, if_pos h3]; rfl)⟩
          case measure => simp [intOf]; omega
        · have lm : limb a k / 2 < 18446744073709551616 := by omega
          go_wp2
          go_roundw
          case rel => exact ⟨k + 1, o.set k _, by omega, by go_num, by go_grown, h_p.other _ _ (by dsimp only; omega), h_a.other _ _ (by dsimp only; omega), h_r.other _ _ (by dsimp only; omega), h_o.set k _, by simp [HO.out], row_set HJ.out HO.out hlt (by rw [hwd_eq, if_neg h3, Nat.zero_mul, Nat.add_zero]; rfl)⟩
          case measure => simp [intOf]; omega
      · obtain rfl : k = 4 := by omega
        obtain rfl := row_four hj ho
        have HE := hid (show (.agg #[.int .u64 (hwd (a) (0) 0 : Int), .int .u64 (hwd (a) (0) 1 : Int), .int .u64 (hwd (a) (0) 2 : Int), .int .u64 (hwd (a) (0) 3 : Int)] : Value) = vec (hlf p a) by rw [vec_words (hwd_lt _ _ htop) (hwd_lt _ _ htop) (hwd_lt _ _ htop) (hwd_lt _ _ htop), hwd_num hA htop, EQ.out])
        have c0 := h_o.cell (i := 0) rfl
        have r0 := h_r.cell (i := 0) rfl
        have f0 := h_r.frozen 0
        have c1 := h_o.cell (i := 1) rfl
        have r1 := h_r.cell (i := 1) rfl
        have f1 := h_r.frozen 1
        have c2 := h_o.cell (i := 2) rfl
        have r2 := h_r.cell (i := 2) rfl
        have f2 := h_r.frozen 2
        have c3 := h_o.cell (i := 3) rfl
        have r3 := h_r.cell (i := 3) rfl
        have f3 := h_r.frozen 3
        have zr := h_r.lt
        clear hj ho
        go_wp2
        refine bodyPost_ret (by simp only [results, Tryd.results83]; go_simp; try rfl) rfl ?_
        exact ⟨by rw [HE.out], by go_grown⟩


set_option maxRecDepth 100000 in
set_option maxHeartbeats 1000000 in
theorem rvalue_any (p a : Nat) (hp : p < B256) (hodd : p % 2 = 1) (hy : ∃ y, B256 * y % p = 1) (ha : a < p) (w : World) : Calls Tryd.prog 43 #[vec p, vec a] w (Ret (vec (valm p a)) w) := by
  have EQ := hid (hv_value hodd hy ha)
  have HL := hid (fun k => hv_lt hodd ha k)
  clear hodd hy ha
  go_enter Tryd.func43, Tryd.ntmps43
  go_wp2
  go_loopw [5] (fun i wr => ∃ k : Nat, k ≤ 256 ∧ i = .int .i64 (k : Int) ∧ Below w.heap.size w wr ∧ Blk wr (w.heap.size) 28 [.int .u64 (limb p 0 : Int), .int .u64 (limb p 1 : Int), .int .u64 (limb p 2 : Int), .int .u64 (limb p 3 : Int)] ∧ Blk wr (w.heap.size + 1) 28 [.int .u64 (limb (hv p a k) 0 : Int), .int .u64 (limb (hv p a k) 1 : Int), .int .u64 (limb (hv p a k) 2 : Int), .int .u64 (limb (hv p a k) 3 : Int)] ∧ Blk wr (w.heap.size + 1 + 1) 28 [.int .u64 0, .int .u64 0, .int .u64 0, .int .u64 0]) (fun i _ => 256 - (intOf i).toNat)
  case atStart => exact ⟨0, by omega, rfl, by go_grown, Blk.alloc (Blk.alloc (Blk.new (by simp)) _) _, Blk.alloc (Blk.new (by simp)) _, Blk.new (by simp)⟩
  case round =>
    obtain ⟨k, hk, rfl, hB, h_p, h_a, h_r⟩ := hrel
    have zB := hB.size
    by_cases hlt : k < 256
    · have B0 : Below w.heap.size w wr := hB
      have z_p := h_p.lt
      have c_p0 := h_p.cell (i := 0) rfl
      have c_p1 := h_p.cell (i := 1) rfl
      have c_p2 := h_p.cell (i := 2) rfl
      have c_p3 := h_p.cell (i := 3) rfl
      have f_p0 := h_p.frozen 0
      have f_p1 := h_p.frozen 1
      have f_p2 := h_p.frozen 2
      have f_p3 := h_p.frozen 3
      have z_a := h_a.lt
      have c_a0 := h_a.cell (i := 0) rfl
      have c_a1 := h_a.cell (i := 1) rfl
      have c_a2 := h_a.cell (i := 2) rfl
      have c_a3 := h_a.cell (i := 3) rfl
      have f_a0 := h_a.frozen 0
      have f_a1 := h_a.frozen 1
      have f_a2 := h_a.frozen 2
      have f_a3 := h_a.frozen 3
      have z_r := h_r.lt
      have c_r0 := h_r.cell (i := 0) rfl
      have c_r1 := h_r.cell (i := 1) rfl
      have c_r2 := h_r.cell (i := 2) rfl
      have c_r3 := h_r.cell (i := 3) rfl
      have f_r0 := h_r.frozen 0
      have f_r1 := h_r.frozen 1
      have f_r2 := h_r.frozen 2
      have f_r3 := h_r.frozen 3
      go_wp2_with fail
      refine (rhalve_any p (hv p a k) hp (by have := HL.out k; omega) _).mono ?_
      rintro e w1 ⟨rfl, hb1⟩
      clear z_p c_p0 c_p1 c_p2 c_p3 f_p0 f_p1 f_p2 f_p3 z_a c_a0 c_a1 c_a2 c_a3 f_a0 f_a1 f_a2 f_a3 z_r c_r0 c_r1 c_r2 c_r3 f_r0 f_r1 f_r2 f_r3
      replace h_p := Blk.keep (h_p) hb1
      replace h_a := Blk.keep (h_a) hb1
      replace h_r := Blk.keep (h_r) hb1
      have B1 : Below w.heap.size w w1 := Below.call (by go_grown) hb1
      have zB1 := B1.size
      have z_p := h_p.lt
      have c_p0 := h_p.cell (i := 0) rfl
      have c_p1 := h_p.cell (i := 1) rfl
      have c_p2 := h_p.cell (i := 2) rfl
      have c_p3 := h_p.cell (i := 3) rfl
      have f_p0 := h_p.frozen 0
      have f_p1 := h_p.frozen 1
      have f_p2 := h_p.frozen 2
      have f_p3 := h_p.frozen 3
      have z_a := h_a.lt
      have c_a0 := h_a.cell (i := 0) rfl
      have c_a1 := h_a.cell (i := 1) rfl
      have c_a2 := h_a.cell (i := 2) rfl
      have c_a3 := h_a.cell (i := 3) rfl
      have f_a0 := h_a.frozen 0
      have f_a1 := h_a.frozen 1
      have f_a2 := h_a.frozen 2
      have f_a3 := h_a.frozen 3
      have z_r := h_r.lt
      have c_r0 := h_r.cell (i := 0) rfl
      have c_r1 := h_r.cell (i := 1) rfl
      have c_r2 := h_r.cell (i := 2) rfl
      have c_r3 := h_r.cell (i := 3) rfl
      have f_r0 := h_r.frozen 0
      have f_r1 := h_r.frozen 1
      have f_r2 := h_r.frozen 2
      have f_r3 := h_r.frozen 3
      go_wp2
      have h_p := h_p.other4 (c := w.heap.size + 1) (by omega) (.int .u64 (limb (hv p a (k + 1)) 0 : Int)) (.int .u64 (limb (hv p a (k + 1)) 1 : Int)) (.int .u64 (limb (hv p a (k + 1)) 2 : Int)) (.int .u64 (limb (hv p a (k + 1)) 3 : Int))
      have h_a := h_a.set4 (.int .u64 (limb (hv p a (k + 1)) 0 : Int)) (.int .u64 (limb (hv p a (k + 1)) 1 : Int)) (.int .u64 (limb (hv p a (k + 1)) 2 : Int)) (.int .u64 (limb (hv p a (k + 1)) 3 : Int))
      have h_r := h_r.other4 (c := w.heap.size + 1) (by omega) (.int .u64 (limb (hv p a (k + 1)) 0 : Int)) (.int .u64 (limb (hv p a (k + 1)) 1 : Int)) (.int .u64 (limb (hv p a (k + 1)) 2 : Int)) (.int .u64 (limb (hv p a (k + 1)) 3 : Int))
      go_roundw
      case rel => exact ⟨k + 1, by omega, by go_num, by go_grown, h_p, h_a, h_r⟩
      case measure => simp [intOf] <;> omega
    · obtain rfl : k = 256 := by omega
      have z_p := h_p.lt
      have c_p0 := h_p.cell (i := 0) rfl
      have c_p1 := h_p.cell (i := 1) rfl
      have c_p2 := h_p.cell (i := 2) rfl
      have c_p3 := h_p.cell (i := 3) rfl
      have f_p0 := h_p.frozen 0
      have f_p1 := h_p.frozen 1
      have f_p2 := h_p.frozen 2
      have f_p3 := h_p.frozen 3
      have z_a := h_a.lt
      have c_a0 := h_a.cell (i := 0) rfl
      have c_a1 := h_a.cell (i := 1) rfl
      have c_a2 := h_a.cell (i := 2) rfl
      have c_a3 := h_a.cell (i := 3) rfl
      have f_a0 := h_a.frozen 0
      have f_a1 := h_a.frozen 1
      have f_a2 := h_a.frozen 2
      have f_a3 := h_a.frozen 3
      have z_r := h_r.lt
      have c_r0 := h_r.cell (i := 0) rfl
      have c_r1 := h_r.cell (i := 1) rfl
      have c_r2 := h_r.cell (i := 2) rfl
      have c_r3 := h_r.cell (i := 3) rfl
      have f_r0 := h_r.frozen 0
      have f_r1 := h_r.frozen 1
      have f_r2 := h_r.frozen 2
      have f_r3 := h_r.frozen 3
      go_wp2
      refine bodyPost_ret (by simp only [results, Tryd.results43]; go_simp; try rfl) rfl ?_
      exact ⟨by rw [← EQ.out], by go_grown⟩
end Go.Proofs.YtogenbggjodcnaaDoor
/-
  Two numbers of four words, compared by Go's ==.
-/
namespace Go.Proofs.YtogenbggjodcnaaDoor
open Go.RowKit

theorem run_eq4 (t : TypeId) (hu : Tryd.prog.underlying t = some (.array 4 27)) (a0 a1 a2 a3 b0 b1 b2 b3 : Int) (w : World) :
    (Op.equalIn 10000 t (.agg #[.int .u64 a0, .int .u64 a1, .int .u64 a2, .int .u64 a3]) (.agg #[.int .u64 b0, .int .u64 b1, .int .u64 b2, .int .u64 b3])).run Tryd.prog w =
      .ok (a0 == b0 && (a1 == b1 && (a2 == b2 && a3 == b3))) w := by
  obtain ⟨i, hi⟩ := info_of_underlying Tryd.underlying27
  have hc : Tryd.prog.cellsOf 27 = 1 := by kernel_rfl
  rw [run_equalIn_array w 9999 _ _ hu hi, hc]
  have hr : List.range 4 = [0, 1, 2, 3] := by decide
  rw [hr]
  simp [Op.eqItems, go_sem]
  by_cases h0 : a0 = b0 <;> by_cases h1 : a1 = b1 <;> by_cases h2 : a2 = b2 <;> by_cases h3 : a3 = b3 <;> simp [h0, h1, h2, h3]
theorem run_eq_vec (a0 a1 a2 a3 b0 b1 b2 b3 : Int) (w : World) :
    (Op.equalIn 10000 28 (.agg #[.int .u64 a0, .int .u64 a1, .int .u64 a2, .int .u64 a3]) (.agg #[.int .u64 b0, .int .u64 b1, .int .u64 b2, .int .u64 b3])).run Tryd.prog w =
      .ok (a0 == b0 && (a1 == b1 && (a2 == b2 && a3 == b3))) w := run_eq4 28 Tryd.underlying28 _ _ _ _ _ _ _ _ w
theorem run_eq_elem (a0 a1 a2 a3 b0 b1 b2 b3 : Int) (w : World) :
    (Op.equalIn 10000 29 (.agg #[.int .u64 a0, .int .u64 a1, .int .u64 a2, .int .u64 a3]) (.agg #[.int .u64 b0, .int .u64 b1, .int .u64 b2, .int .u64 b3])).run Tryd.prog w =
      .ok (a0 == b0 && (a1 == b1 && (a2 == b2 && a3 == b3))) w := run_eq4 29 Tryd.underlying29 _ _ _ _ _ _ _ _ w
/-- What the comparison of two numbers comes to. -/
theorem eq4_vec {a b : Nat} (ha : a < B256) (hb : b < B256) : ((limb a 0 : Int) == (limb b 0 : Int) && ((limb a 1 : Int) == (limb b 1 : Int) && ((limb a 2 : Int) == (limb b 2 : Int) && (limb a 3 : Int) == (limb b 3 : Int)))) = decide (a = b) := by
  by_cases h : a = b
  · subst h; simp
  · rw [decide_eq_false h]
    refine Bool.eq_false_iff.2 (fun e => h ?_)
    simp only [Bool.and_eq_true, beq_iff_eq, Int.ofNat_inj] at e
    exact vec_inj ha hb e.1 e.2.1 e.2.2.1 e.2.2.2
theorem eqv_vec {a b : Nat} (ha : a < B256) (hb : b < B256) (w : World) :
    (Op.equalIn 10000 28 (vec a) (vec b)).run Tryd.prog w = .ok (decide (a = b)) w := by rw [vec, vec, run_eq_vec, eq4_vec ha hb]
theorem eqz_vec {a : Nat} (ha : a < B256) (w : World) :
    (Op.equalIn 10000 28 (vec a) (.agg #[.int .u64 0, .int .u64 0, .int .u64 0, .int .u64 0])).run Tryd.prog w = .ok (decide (a = 0)) w := by rw [vec_zero]; exact eqv_vec ha (by decide) w
theorem eq1_vec {a : Nat} (ha : a < B256) (w : World) :
    (Op.equalIn 10000 28 (vec a) (.agg #[.int .u64 1, .int .u64 0, .int .u64 0, .int .u64 0])).run Tryd.prog w = .ok (decide (a = 1)) w := by rw [vec_one]; exact eqv_vec ha (by decide) w
theorem eqv_elem {a b : Nat} (ha : a < B256) (hb : b < B256) (w : World) :
    (Op.equalIn 10000 29 (vec a) (vec b)).run Tryd.prog w = .ok (decide (a = b)) w := by rw [vec, vec, run_eq_elem, eq4_vec ha hb]
end Go.Proofs.YtogenbggjodcnaaDoor
