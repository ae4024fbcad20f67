/-
  The reference of layer 4: what its functions on four words come to.
-/
import Derived.Test.YtfaicnileghjiaaDoorBase
import Derived.LoopN
import Derived.Deep.RegionHeld3
import Derived.Outline
import Derived.BigQuiet
import Derived.Deep.QuietTactic
namespace Go.Proofs.YtfaicnileghjiaaDoor
open Go.RowKit

theorem rsub_word (x y c : Nat) (hx : x < B64) (hy : y < B64) (hc : c ≤ 1) : IntKind.u64.wrap (IntKind.u64.wrap ((x : Int) - (y : Int)) - (c : Int)) = (nsd x y c : Int) := by
  unfold B64 at *
  rw [IntKind.wrap_u64, IntKind.wrap_u64, nsd_eq]
  omega

set_option maxHeartbeats 1000000 in
theorem rsub_any (a b : Nat) (ha : a < B256) (hb : b < B256) (w : World) :
    Calls Tryd.prog 44 #[vec a, vec b] w (Ret (.tuple #[vec (dif a b), .int .u64 (brw a b : Int)]) w) := by
  go_enter Tryd.func44, Tryd.ntmps44
  go_wp2
  go_loopw [7, 8] (fun c i wr => ∃ (k : Nat) (o : List Value), k ≤ 4 ∧ i = .int .i64 k ∧ c = .int .u64 (bor (limb a) (limb b) k : Int) ∧ Below w.heap.size w wr ∧
      Blk wr w.heap.size 24 (limbs a) ∧ Blk wr (w.heap.size + 1) 24 (limbs b) ∧ Blk wr (w.heap.size + 1 + 1) 24 [.int .u64 0, .int .u64 0, .int .u64 0, .int .u64 0] ∧
      Blk wr (w.heap.size + 1 + 1 + 1) 24 o ∧ o.length = 4 ∧ ∀ j, j < k → o[j]? = some (.int .u64 (nsd (limb a j) (limb b j) (bor (limb a) (limb b) j) : Int)))
    (fun _ i _ => 4 - (intOf i).toNat)
  case atStart => exact ⟨0, [.int .u64 0, .int .u64 0, .int .u64 0, .int .u64 0], by omega, rfl, rfl, by go_grown, (((Blk.new (by simp)).alloc _).alloc _).alloc _, ((Blk.new (by simp)).alloc _).alloc _, (Blk.new (by simp)).alloc _, Blk.new (by simp), rfl, fun j hj => by omega⟩
  case round =>
    obtain ⟨k, o, hk, rfl, rfl, hB, h0, h1, h2, h3, ho, hj⟩ := hrel
    by_cases hlt : k < 4
    · have ca := h0.cell (limbs_get a hlt)
      have cb := h1.cell (limbs_get b hlt)
      obtain ⟨ok, hok⟩ : ∃ v, o[k]? = some v := ⟨o[k], by simp⟩
      have co := h3.cell hok
      have fo := h3.frozen k
      have hbk := bor_le (limb a) (limb b) k
      have HW := hid (rsub_word (limb a k) (limb b k) (bor (limb a) (limb b) k) (limb_lt _ _) (limb_lt _ _) hbk)
      have HJ := hid hj; clear hj
      have HO := hid hok; clear hok
      have HL := hid ho; clear ho
      clear ha hb
      by_cases g1 : limb a k < limb b k
      · go_wp2
        go_region_held3 (fun w' => w'.cell? ⟨w.heap.size, k, none⟩ = some (.int .u64 (limb a k : Int)) ∧ w'.cell? ⟨w.heap.size + 1, k, none⟩ = some (.int .u64 (limb b k : Int))) ((first | (go_simp; done) | go_keep)) (fail)
        go_wp2
        go_quiet (fail)
        go_wp2
        go_roundw
        case rel => exact ⟨k + 1, o.set k (.int .u64 (IntKind.u64.wrap (IntKind.u64.wrap ((limb a k : Int) - (limb b k : Int)) - (bor (limb a) (limb b) k : Int)))), by omega, by go_num, by rw [bor, nsb_eq, if_pos (by omega)]; rfl, Below.drewN' (by go_grown) _, h0.other _ _ (by dsimp only; omega), h1.other _ _ (by dsimp only; omega), h2.other _ _ (by dsimp only; omega), h3.set k _, by simp [HL.out], row_set HJ.out HL.out hlt (by rw [HW.out])⟩
        case measure => simp [intOf]; omega
      · by_cases g2 : limb a k = limb b k
        · by_cases g3 : bor (limb a) (limb b) k = 1
          · have d1 : decide (limb a k < limb b k) = false := by simp [g1]
            have d2 : ((limb a k : Int) == (limb b k : Int)) = true := by simp [g2]
            have d3 : ((bor (limb a) (limb b) k : Int) == 1) = true := by simp [g3]
            have G2 := hid g2; clear g2
            have G3 := hid g3; clear g3
            go_wp2
            go_region_held3 (fun w' => w'.cell? ⟨w.heap.size, k, none⟩ = some (.int .u64 (limb a k : Int)) ∧ w'.cell? ⟨w.heap.size + 1, k, none⟩ = some (.int .u64 (limb b k : Int))) ((first | (go_simp; done) | go_keep)) (fail)
            go_wp2
            go_quiet (fail)
            go_wp2
            go_roundw
            case rel => exact ⟨k + 1, o.set k (.int .u64 (IntKind.u64.wrap (IntKind.u64.wrap ((limb a k : Int) - (limb b k : Int)) - (bor (limb a) (limb b) k : Int)))), by omega, by go_num, by rw [bor, nsb_eq, if_pos (by rw [G2.out, G3.out]; omega)]; rfl, Below.drewN' (by go_grown) _, h0.other _ _ (by dsimp only; omega), h1.other _ _ (by dsimp only; omega), h2.other _ _ (by dsimp only; omega), h3.set k _, by simp [HL.out], row_set HJ.out HL.out hlt (by rw [HW.out])⟩
            case measure => simp [intOf]; omega
          · have d1 : decide (limb a k < limb b k) = false := by simp [g1]
            have d2 : ((limb a k : Int) == (limb b k : Int)) = true := by simp [g2]
            have d3 : ((bor (limb a) (limb b) k : Int) == 1) = false := by simp; omega
            have G2 := hid g2; clear g2
            go_wp2
            go_region_held3 (fun w' => w'.cell? ⟨w.heap.size, k, none⟩ = some (.int .u64 (limb a k : Int)) ∧ w'.cell? ⟨w.heap.size + 1, k, none⟩ = some (.int .u64 (limb b k : Int))) ((first | (go_simp; done) | go_keep)) (fail)
            go_wp2
            go_quiet (fail)
            go_wp2
            go_roundw
            case rel => exact ⟨k + 1, o.set k (.int .u64 (IntKind.u64.wrap (IntKind.u64.wrap ((limb a k : Int) - (limb b k : Int)) - (bor (limb a) (limb b) k : Int)))), by omega, by go_num, by rw [bor, nsb_eq, if_neg (by rw [G2.out]; omega)]; rfl, Below.drewN' (by go_grown) _, h0.other _ _ (by dsimp only; omega), h1.other _ _ (by dsimp only; omega), h2.other _ _ (by dsimp only; omega), h3.set k _, by simp [HL.out], row_set HJ.out HL.out hlt (by rw [HW.out])⟩
            case measure => simp [intOf]; omega
        · have d1 : decide (limb a k < limb b k) = false := by simp [g1]
          have d2 : ((limb a k : Int) == (limb b k : Int)) = false := by simp; omega
          go_wp2
          go_region_held3 (fun w' => w'.cell? ⟨w.heap.size, k, none⟩ = some (.int .u64 (limb a k : Int)) ∧ w'.cell? ⟨w.heap.size + 1, k, none⟩ = some (.int .u64 (limb b k : Int))) ((first | (go_simp; done) | go_keep)) (fail)
          go_wp2
          go_quiet (fail)
          go_wp2
          go_roundw
          case rel => exact ⟨k + 1, o.set k (.int .u64 (IntKind.u64.wrap (IntKind.u64.wrap ((limb a k : Int) - (limb b k : Int)) - (bor (limb a) (limb b) k : Int)))), by omega, by go_num, by rw [bor, nsb_eq, if_neg (by omega)]; rfl, Below.drewN' (by go_grown) _, h0.other _ _ (by dsimp only; omega), h1.other _ _ (by dsimp only; omega), h2.other _ _ (by dsimp only; omega), h3.set k _, by simp [HL.out], row_set HJ.out HL.out hlt (by rw [HW.out])⟩
          case measure => simp [intOf]; omega
    · obtain rfl : k = 4 := by omega
      obtain rfl := row_four hj ho
      have hv := hid (vec_dif ha hb)
      have hc := hid (dif_words ha hb).2
      have q := h2.set4 (.int .u64 (nsd (limb a 0) (limb b 0) (bor (limb a) (limb b) 0) : Int)) (.int .u64 (nsd (limb a 1) (limb b 1) (bor (limb a) (limb b) 1) : Int)) (.int .u64 (nsd (limb a 2) (limb b 2) (bor (limb a) (limb b) 2) : Int)) (.int .u64 (nsd (limb a 3) (limb b 3) (bor (limb a) (limb b) 3) : Int))
      have c0 := h3.cell (i := 0) rfl
      have c1 := h3.cell (i := 1) rfl
      have c2 := h3.cell (i := 2) rfl
      have c3 := h3.cell (i := 3) rfl
      have r0 := h2.cell (i := 0) rfl
      have f0 := h2.frozen 0
      have r1 := h2.cell (i := 1) rfl
      have f1 := h2.frozen 1
      have r2 := h2.cell (i := 2) rfl
      have f2 := h2.frozen 2
      have r3 := h2.cell (i := 3) rfl
      have f3 := h2.frozen 3
      have q0 := q.cell (i := 0) rfl
      have q1 := q.cell (i := 1) rfl
      have q2 := q.cell (i := 2) rfl
      have q3 := q.cell (i := 3) rfl
      clear hj ho ha hb
      go_wp2
      refine bodyPost_ret (by simp only [results, Tryd.results44]; simp [go_sem, q0, q1, q2, q3]; try rfl) rfl ?_
      exact ⟨by rw [hv.out, hc.out], by go_grown⟩

theorem rsum_word (x c : Nat) : IntKind.u64.wrap ((x : Int) + (c : Int)) = (nas x c 0 : Int) := by
  rw [IntKind.wrap_u64, nas_eq]; omega
theorem nas_nas (x y c : Nat) : nas (nas x c 0) y 0 = nas x y c := by
  rw [nas_eq, nas_eq, nas_eq]; omega
theorem nac_cases (x y c : Nat) (hx : x < B64) (hy : y < B64) (hc : c ≤ 1) :
    (nas x c 0 < c ∧ ¬ nas x y c < nas x c 0 ∧ nac x y c = 1) ∨ (¬ nas x c 0 < c ∧ nas x y c < nas x c 0 ∧ nac x y c = 1) ∨ (¬ nas x c 0 < c ∧ ¬ nas x y c < nas x c 0 ∧ nac x y c = 0) := by
  rw [nas_eq, nas_eq, nac_eq]; unfold B64 at *; omega
set_option maxHeartbeats 1000000 in
theorem rsum_any (a b : Nat) (ha : a < B256) (hb : b < B256) (w : World) :
    Calls Tryd.prog 45 #[vec a, vec b] w (Ret (.tuple #[vec (sum a b), .int .u64 (cry a b : Int)]) w) := by
  go_enter Tryd.func45, Tryd.ntmps45
  go_wp2
  go_loopw [7, 8, 9, 10] (fun c i _ _ wr => ∃ (k : Nat) (o : List Value), k ≤ 4 ∧ i = .int .i64 k ∧ c = .int .u64 (car (limb a) (limb b) k : Int) ∧ Below w.heap.size w wr ∧
      Blk wr w.heap.size 24 (limbs a) ∧ Blk wr (w.heap.size + 1) 24 (limbs b) ∧ Blk wr (w.heap.size + 1 + 1) 24 [.int .u64 0, .int .u64 0, .int .u64 0, .int .u64 0] ∧
      Blk wr (w.heap.size + 1 + 1 + 1) 24 o ∧ o.length = 4 ∧ ∀ j, j < k → o[j]? = some (.int .u64 (nas (limb a j) (limb b j) (car (limb a) (limb b) j) : Int)))
    (fun _ i _ _ _ => 4 - (intOf i).toNat)
  case atStart => exact ⟨0, [.int .u64 0, .int .u64 0, .int .u64 0, .int .u64 0], by omega, rfl, rfl, by go_grown, (((Blk.new (by simp)).alloc _).alloc _).alloc _, ((Blk.new (by simp)).alloc _).alloc _, (Blk.new (by simp)).alloc _, Blk.new (by simp), rfl, fun j hj => by omega⟩
  case round =>
    obtain ⟨k, o, hk, rfl, rfl, hB, h0, h1, h2, h3, ho, hj⟩ := hrel
    by_cases hlt : k < 4
    · have ca := h0.cell (limbs_get a hlt)
      have cb := h1.cell (limbs_get b hlt)
      obtain ⟨ok, hok⟩ : ∃ v, o[k]? = some v := ⟨o[k], by simp⟩
      have co := h3.cell hok
      have fo := h3.frozen k
      have hs := rsum_word (limb a k) (car (limb a) (limb b) k)
      have ho2 : IntKind.u64.wrap ((nas (limb a k) (car (limb a) (limb b) k) 0 : Int) + (limb b k : Int)) = (nas (limb a k) (limb b k) (car (limb a) (limb b) k) : Int) := by rw [rsum_word, nas_nas]
      have hcs := nac_cases (limb a k) (limb b k) (car (limb a) (limb b) k) (limb_lt _ _) (limb_lt _ _) (car_le (limb_lt _) (limb_lt _) k)
      have HJ := hid hj; clear hj
      have HO := hid hok; clear hok
      have HL := hid ho; clear ho
      clear ha hb
      rcases hcs with ⟨g1, g2, g3⟩ | ⟨g1, g2, g3⟩ | ⟨g1, g2, g3⟩
      · have G3 := hid g3; clear g3
        have d1 : decide (nas (limb a k) (car (limb a) (limb b) k) 0 < car (limb a) (limb b) k) = true := by simp [g1]
        have d2 : decide (nas (limb a k) (limb b k) (car (limb a) (limb b) k) < nas (limb a k) (car (limb a) (limb b) k) 0) = false := by simp [g2]
        go_wp2
        go_roundw
        case rel => exact ⟨k + 1, o.set k (.int .u64 (nas (limb a k) (limb b k) (car (limb a) (limb b) k) : Int)), by omega, by go_num, by rw [car, G3.out]; rfl, by go_grown, h0.other _ _ (by dsimp only; omega), h1.other _ _ (by dsimp only; omega), h2.other _ _ (by dsimp only; omega), h3.set k _, by simp [HL.out], row_set HJ.out HL.out hlt rfl⟩
        case measure => simp [intOf]; omega
      · have G3 := hid g3; clear g3
        have d1 : decide (nas (limb a k) (car (limb a) (limb b) k) 0 < car (limb a) (limb b) k) = false := by simp [g1]
        have d2 : decide (nas (limb a k) (limb b k) (car (limb a) (limb b) k) < nas (limb a k) (car (limb a) (limb b) k) 0) = true := by simp [g2]
        go_wp2
        go_roundw
        case rel => exact ⟨k + 1, o.set k (.int .u64 (nas (limb a k) (limb b k) (car (limb a) (limb b) k) : Int)), by omega, by go_num, by rw [car, G3.out]; rfl, by go_grown, h0.other _ _ (by dsimp only; omega), h1.other _ _ (by dsimp only; omega), h2.other _ _ (by dsimp only; omega), h3.set k _, by simp [HL.out], row_set HJ.out HL.out hlt rfl⟩
        case measure => simp [intOf]; omega
      · have G3 := hid g3; clear g3
        have d1 : decide (nas (limb a k) (car (limb a) (limb b) k) 0 < car (limb a) (limb b) k) = false := by simp [g1]
        have d2 : decide (nas (limb a k) (limb b k) (car (limb a) (limb b) k) < nas (limb a k) (car (limb a) (limb b) k) 0) = false := by simp [g2]
        go_wp2
        go_roundw
        case rel => exact ⟨k + 1, o.set k (.int .u64 (nas (limb a k) (limb b k) (car (limb a) (limb b) k) : Int)), by omega, by go_num, by rw [car, G3.out]; rfl, by go_grown, h0.other _ _ (by dsimp only; omega), h1.other _ _ (by dsimp only; omega), h2.other _ _ (by dsimp only; omega), h3.set k _, by simp [HL.out], row_set HJ.out HL.out hlt rfl⟩
        case measure => simp [intOf]; omega
    · obtain rfl : k = 4 := by omega
      obtain rfl := row_four hj ho
      have hv := hid (vec_sum ha hb)
      have hc := hid (sum_words ha hb).2
      have q := h2.set4 (.int .u64 (nas (limb a 0) (limb b 0) (car (limb a) (limb b) 0) : Int)) (.int .u64 (nas (limb a 1) (limb b 1) (car (limb a) (limb b) 1) : Int)) (.int .u64 (nas (limb a 2) (limb b 2) (car (limb a) (limb b) 2) : Int)) (.int .u64 (nas (limb a 3) (limb b 3) (car (limb a) (limb b) 3) : Int))
      have c0 := h3.cell (i := 0) rfl
      have c1 := h3.cell (i := 1) rfl
      have c2 := h3.cell (i := 2) rfl
      have c3 := h3.cell (i := 3) rfl
      have r0 := h2.cell (i := 0) rfl
      have f0 := h2.frozen 0
      have r1 := h2.cell (i := 1) rfl
      have f1 := h2.frozen 1
      have r2 := h2.cell (i := 2) rfl
      have f2 := h2.frozen 2
      have r3 := h2.cell (i := 3) rfl
      have f3 := h2.frozen 3
      have q0 := q.cell (i := 0) rfl
      have q1 := q.cell (i := 1) rfl
      have q2 := q.cell (i := 2) rfl
      have q3 := q.cell (i := 3) rfl
      clear hj ho ha hb
      go_wp2
      refine bodyPost_ret (by simp only [results, Tryd.results45]; simp [go_sem, q0, q1, q2, q3]; try rfl) rfl ?_
      exact ⟨by rw [hv.out, hc.out], by go_grown⟩
end Go.Proofs.YtfaicnileghjiaaDoor
