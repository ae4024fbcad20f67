/-
  The reference of layer 3: the sum.
-/
import Derived.Test.YthmhdhamhlomoaaDoorRef3
namespace Go.Proofs.YthmhdhamhlomoaaDoor
open Go.RowKit

set_option maxRecDepth 100000 in
set_option maxHeartbeats 4000000 in
theorem r3add_any (a b : Nat) (ha : a < B256) (hb : b < B256) (w : World) :
    Calls Tryd.prog 21 #[vec a, vec b] w (Ret (.tuple #[vec (sum a b), .int .u64 (cry a b : Int)]) w) := by
  go_enter Tryd.func21, Tryd.ntmps21
  go_wp2_with fail
  refine (digits_any a _).mono ?_
  rintro e w1 ⟨v1, rfl, hown1, hb1⟩
  obtain ⟨g1, cap1, rest1, rfl, hg1, hc1, hx1⟩ := owns_blk hown1 (by omega)
  have B1 : Below w.heap.size w w1 := Below.call (by go_grown) hb1
  have zB1 := B1.size
  have zg1 : w.heap.size + 1 + 1 + 1 ≤ g1 := by simpa using hg1
  have h_b : Blk w1 (w.heap.size + 1) 23 (limbs b) := Blk.keep (Blk.alloc (Blk.new (by simp)) _) hb1
  have h_r : Blk w1 (w.heap.size + 1 + 1) 23 [.int .u64 0, .int .u64 0, .int .u64 0, .int .u64 0] := Blk.keep (Blk.new (by simp)) hb1
  have c0 := h_b.cell (i := 0) rfl
  have c1 := h_b.cell (i := 1) rfl
  have c2 := h_b.cell (i := 2) rfl
  have c3 := h_b.cell (i := 3) rfl
  clear hown1 hg1
  go_wp2_with fail
  refine (digits_any b _).mono ?_
  rintro e w2 ⟨v2, rfl, hown2, hb2⟩
  obtain ⟨g2, cap2, rest2, rfl, hg2, hc2, hx2⟩ := owns_blk hown2 (by omega)
  clear c0 c1 c2 c3 h_b
  have B2 : Below w.heap.size w w2 := Below.call (by go_grown) hb2
  have zB2 := B2.size
  replace h_r := Blk.keep h_r hb2
  have zg2 : g1 < g2 := Nat.lt_of_lt_of_le hx1.lt hg2
  replace hx1 := Blk.keep hx1 hb2
  have zr := h_r.lt
  clear hown2 hg2 hb1 hb2 B1 zB1
  have W2 : 0 ≤ w2.heap.size := Nat.zero_le _
  go_wp2
  go_loopw [8, 9, 10] (fun c i _ wr => ∃ (k : Nat) (o : List Value), k ≤ 16 ∧ i = .int .i64 (k : Int) ∧ c = .int .i64 (car16 (dig a) (dig b) k : Int) ∧ Below w.heap.size w wr ∧
      Blk wr (w.heap.size + 1 + 1) 23 [.int .u64 0, .int .u64 0, .int .u64 0, .int .u64 0] ∧ Blk wr g1 3 o ∧ Blk wr g2 3 (digs (dig b) 16 ++ rest2) ∧ 16 ≤ o.length ∧ (∀ j, j < k → o[j]? = some (.int .i64 (add16 a b j : Int))) ∧ ∀ j, k ≤ j → j < 16 → o[j]? = some (.int .i64 (dig a j : Int)))
    (fun _ i _ _ => 16 - (intOf i).toNat)
  case atStart => exact ⟨0, _, by omega, rfl, rfl, B2, h_r, hx1, hx2, by simp [digs_length], fun j hj => by omega, fun j _ hj => by rw [List.getElem?_append_left (by rw [digs_length]; omega)]; exact digs_get _ hj⟩
  case round =>
    clear B2 zB2 h_r hx1 hx2 zr W2
    obtain ⟨k, o, hk, rfl, rfl, hB, h_r, hx1, hx2, ho, hj, hj2⟩ := hrel
    have zB := hB.size
    by_cases hlt : k < 16
    · have cx := hx1.cell (hj2 k (Nat.le_refl _) hlt)
      have cy := hx2.cell (show (digs (dig b) 16 ++ rest2)[k]? = some (.int .i64 (dig b k : Int)) by rw [List.getElem?_append_left (by rw [digs_length]; omega)]; exact digs_get _ hlt)
      have fx := hx1.frozen k
      have la := dig_lt a k
      have lb := dig_lt b k
      have lc : car16 (dig a) (dig b) k ≤ 1 := by first | exact bor16_le _ _ _ | exact car16_le (dig_lt _) (dig_lt _) _
      have HJ := hid hj
      have HJ2 := hid hj2
      have HO := hid ho
      clear hj hj2 ho ha hb
      have zk : (k : Int) < cap1 := by omega
      have zk2 : (k : Int) < cap2 := by omega
      have x1 : IntKind.i64.wrap ((dig a k : Int) + (dig b k : Int)) = (dig a k : Int) + (dig b k : Int) := IntWalk.i64_in _ (by omega)
      have x2 : IntKind.i64.wrap ((dig a k : Int) + (dig b k : Int) + (car16 (dig a) (dig b) k : Int)) = (dig a k : Int) + (dig b k : Int) + (car16 (dig a) (dig b) k : Int) := IntWalk.i64_in _ (by omega)
      have x3 : 0 ≤ (dig a k : Int) + (dig b k : Int) + (car16 (dig a) (dig b) k : Int) := by omega
      have DV := hid (show (((dig a k : Int) + (dig b k : Int) + (car16 (dig a) (dig b) k : Int)) % 65536 : Int) = (add16 a b k : Int) by rw [add16_eq]; omega)
      go_wp2
      go_quiet (fail)
      go_wp2
      go_roundw
      case rel => exact ⟨k + 1, o.set k (.int .i64 (((dig a k : Int) + (dig b k : Int) + (car16 (dig a) (dig b) k : Int)) % 65536)), by omega, by go_num, by rw [car16]; go_num, Below.setCell (Below.drewN' hB _) (by dsimp only; omega) _, h_r.other _ _ (by dsimp only; omega), hx1.set k _, hx2.other _ _ (by dsimp only; omega), by simp; exact HO.out, fun j hj => by
            by_cases e : j = k
            · subst e; rw [List.getElem?_set_self (by have := HO.out; omega), DV.out]
            · rw [List.getElem?_set_ne (Ne.symm e)]; exact HJ.out j (by omega), fun j h1 h2 => by rw [List.getElem?_set_ne (by omega)]; exact HJ2.out j (by omega) h2⟩
      case measure => simp [intOf]; omega
    · obtain rfl : k = 16 := by omega
      have hw := hid (add16_words ha hb)
      have r0 := h_r.lt
      clear hj2
      go_wp2_with fail
      refine (rvec_any g1 16 cap1 0 (add16 a b) (add16_lt a b) (by omega) (by omega) _ (fun i hi => by rw [Nat.zero_add]; exact hx1.cell (hj i hi))).mono ?_
      rintro e w3 ⟨rfl, hb3⟩
      have B3 : Below w.heap.size w w3 := Below.call (by go_grown) hb3
      have zB3 := B3.size
      replace h_r := Blk.keep h_r hb3
      rw [hw.out.1, hw.out.2]
      have r0 := h_r.cell (i := 0) rfl
      have f0 := h_r.frozen 0
      have r1 := h_r.cell (i := 1) rfl
      have f1 := h_r.frozen 1
      have r2 := h_r.cell (i := 2) rfl
      have f2 := h_r.frozen 2
      have r3 := h_r.cell (i := 3) rfl
      have f3 := h_r.frozen 3
      have lc := cry_le ha hb
      have hcv : IntKind.u64.wrap (cry a b : Int) = (cry a b : Int) := IntWalk.u64_in _ (by omega)
      clear lc hj ho ha hb
      go_wp2
      refine bodyPost_ret (by simp only [results, Tryd.results21]; go_simp; try rfl) rfl ?_
      exact ⟨rfl, by go_grown⟩
end Go.Proofs.YthmhdhamhlomoaaDoor
