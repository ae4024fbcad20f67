/-
  Montgomery's product: the walk.
-/
import Derived.Test.YtogenbggjodcnaaDoorLimbs
namespace Go.Proofs.YtogenbggjodcnaaDoor
open Go.RowKit

set_option maxRecDepth 100000 in
set_option maxHeartbeats 4000000 in
theorem mmul_any (id : Int) (m inv o s a b : Nat) (hF : FieldOK m inv) (ha : a < B256) (hb : b < B256) (hab : a * b < B256 * m) (w : World) :
    Calls Tryd.prog 95 #[fld id m inv o s, vec a, vec b] w (Ret (vec (mont m a b)) w) := by
  have HF := hid hF
  have HA := hid ha
  have HB9 := hid hb
  have HAB := hid hab
  have hs := run_add64_0
  clear hF ha hb hab
  go_enter Tryd.func95, Tryd.ntmps95
  go_wp2
  go_loopw [15] (fun y wr => ∃ (i : Nat) (t : Nat → Nat) (u : Nat), i ≤ 4 ∧ y = .int .i64 (i : Int) ∧ Below w.heap.size w wr ∧ Blk wr w.heap.size 31 [.int .i64 id, .int .u64 (limb m 0 : Int), .int .u64 (limb m 1 : Int), .int .u64 (limb m 2 : Int), .int .u64 (limb m 3 : Int), .int .u64 (inv : Int), .int .u64 (limb o 0 : Int), .int .u64 (limb o 1 : Int), .int .u64 (limb o 2 : Int), .int .u64 (limb o 3 : Int), .int .u64 (limb s 0 : Int), .int .u64 (limb s 1 : Int), .int .u64 (limb s 2 : Int), .int .u64 (limb s 3 : Int)] ∧ Blk wr (w.heap.size + 1) 29 (limbs a) ∧ Blk wr (w.heap.size + 1 + 1) 29 (limbs b) ∧ Blk wr (w.heap.size + 1 + 1 + 1) 29 [.int .u64 0, .int .u64 0, .int .u64 0, .int .u64 0] ∧ Blk wr (w.heap.size + 1 + 1 + 1 + 1) 171 (six t u) ∧ (∀ k, t k < B64) ∧ Rounds m a b i t) (fun y _ => 4 - (intOf y).toNat)
  case atStart => exact ⟨0, fun _ => 0, 0, by omega, rfl, by go_grown, Blk.alloc (Blk.alloc (Blk.alloc (Blk.alloc (Blk.new (by simp)) _) _) _) _, Blk.alloc (Blk.alloc (Blk.alloc (Blk.new (by simp)) _) _) _, Blk.alloc (Blk.alloc (Blk.new (by simp)) _) _, Blk.alloc (Blk.new (by simp)) _, Blk.new (by simp), fun _ => (by decide : 0 < B64), Rounds.zero m a b⟩
  case round =>
    obtain ⟨i, t, u, hi, rfl, hB, h0, h1, h2, h3, h4, ht, hR⟩ := hrel
    by_cases hlt : i < 4
    · have HT := hid ht
      have HR := hid hR
      have xl := limb_lt b i
      clear ht hR
      go_wp2
      rw [show decide ((i : Int) < 4) = true from decide_eq_true (by omega)]
      go_loopw [18, 9] (fun y c wr => ∃ (j : Nat) (p : List Value), j ≤ 4 ∧ y = .int .i64 (j : Int) ∧ c = .int .u64 (mcar (limb b i) (limb a) t j : Int) ∧ Below w.heap.size w wr ∧ Blk wr w.heap.size 31 [.int .i64 id, .int .u64 (limb m 0 : Int), .int .u64 (limb m 1 : Int), .int .u64 (limb m 2 : Int), .int .u64 (limb m 3 : Int), .int .u64 (inv : Int), .int .u64 (limb o 0 : Int), .int .u64 (limb o 1 : Int), .int .u64 (limb o 2 : Int), .int .u64 (limb o 3 : Int), .int .u64 (limb s 0 : Int), .int .u64 (limb s 1 : Int), .int .u64 (limb s 2 : Int), .int .u64 (limb s 3 : Int)] ∧ Blk wr (w.heap.size + 1) 29 (limbs a) ∧ Blk wr (w.heap.size + 1 + 1) 29 (limbs b) ∧ Blk wr (w.heap.size + 1 + 1 + 1) 29 [.int .u64 0, .int .u64 0, .int .u64 0, .int .u64 0] ∧ Blk wr (w.heap.size + 1 + 1 + 1 + 1) 171 p ∧ p.length = 6 ∧ (∀ l, l < j → p[l]? = some (.int .u64 (mwd (limb b i) (limb a) t l : Int))) ∧ ∀ l, j ≤ l → p[l]? = (six t u)[l]?) (fun y _ _ => 4 - (intOf y).toNat)
      case atStart => exact ⟨0, six t u, by omega, rfl, rfl, hB, h0, h1, h2, h3, h4, rfl, fun l hl => by omega, fun l _ => rfl⟩
      case round =>
        clear hB h0 h1 h2 h3 h4
        obtain ⟨j, p, hj, rfl, rfl, hB, h0, h1, h2, h3, h4, hp, hp1, hp2⟩ := hrel
        by_cases hlj : j < 4
        · have ca := h1.cell (limbs_get a hlj)
          have cb := h2.cell (limbs_get b hlt)
          have ct := h4.cell ((hp2 j (Nat.le_refl _)).trans (six_get t u (by omega)))
          have ft := h4.frozen j
          have zt := h4.lt
          have HP := hid hp
          have HP1 := hid hp1
          have HP2 := hid hp2
          have MA := hid (ma_any (limb a j) (limb b i) (t j) (mcar (limb b i) (limb a) t j) (limb_lt a j) xl (HT.out j) (mcar_lt xl (limb_lt a) HT.out j))
          clear hp hp1 hp2 xl
          have z6 : (j : Int) < 6 := by omega
          have z6n : j < 6 := by omega
          go_wp2
          go_region_with (go_at_call 123; refine (MA.out _).mono ?_; rintro e w' ⟨rfl, rfl⟩)
          all_goals (
            go_wp2
            refine ⟨?_, ?_⟩
            · first
                | ((repeat apply Exists.intro); refine ⟨?_, rfl⟩; exact ⟨j + 1, p.set j (.int .u64 (mwd (limb b i) (limb a) t j : Int)), by omega, by go_num, rfl, by go_grown, h0.other _ _ (by dsimp only; omega), h1.other _ _ (by dsimp only; omega), h2.other _ _ (by dsimp only; omega), h3.other _ _ (by dsimp only; omega), h4.set j _, by simp [HP.out], row_set HP1.out HP.out (by omega) rfl, fun l hl => by rw [List.getElem?_set_ne (by omega)]; exact HP2.out l (by omega)⟩)
                | exact ⟨j + 1, p.set j (.int .u64 (mwd (limb b i) (limb a) t j : Int)), by omega, by go_num, rfl, by go_grown, h0.other _ _ (by dsimp only; omega), h1.other _ _ (by dsimp only; omega), h2.other _ _ (by dsimp only; omega), h3.other _ _ (by dsimp only; omega), h4.set j _, by simp [HP.out], row_set HP1.out HP.out (by omega) rfl, fun l hl => by rw [List.getElem?_set_ne (by omega)]; exact HP2.out l (by omega)⟩
            · simp [intOf]; omega)
        · obtain rfl : j = 4 := by omega
          obtain rfl := row_six (f := fun l => if l < 4 then .int .u64 (mwd (limb b i) (limb a) t l : Int) else if l = 4 then .int .u64 (t 4 : Int) else .int .u64 (u : Int)) (fun l hl => by
            by_cases hl4 : l < 4
            · rw [hp1 l hl4, if_pos hl4]
            · rw [hp2 l (by omega), if_neg hl4]
              by_cases h5 : l = 4
              · subst h5; rfl
              · obtain rfl : l = 5 := by omega
                rfl) hp
          replace h4 : Blk wr (w.heap.size + 1 + 1 + 1 + 1) 171 [.int .u64 (mwd (limb b i) (limb a) t 0 : Int), .int .u64 (mwd (limb b i) (limb a) t 1 : Int), .int .u64 (mwd (limb b i) (limb a) t 2 : Int), .int .u64 (mwd (limb b i) (limb a) t 3 : Int), .int .u64 (t 4 : Int), .int .u64 (u : Int)] := h4
          obtain ⟨N, hN⟩ : ∃ N, mwd (limb b i) (limb a) t = N := ⟨_, rfl⟩
          obtain ⟨C, hC⟩ : ∃ C, mcar (limb b i) (limb a) t 4 = C := ⟨_, rfl⟩
          obtain ⟨Q, hQ⟩ : ∃ Q, mulw (N 0) inv = Q := ⟨_, rfl⟩
          have nl : ∀ k, N k < B64 := fun k => by rw [← hN]; exact mwd_lt _ _ _ _
          have cl : C < B64 := by rw [← hC]; exact mcar_lt xl (limb_lt a) HT.out 4
          have ql : Q < B64 := by rw [← hQ]; exact mulw_lt _ _
          have hq := wrap_mulw (N 0) inv
          rw [hQ] at hq
          rw [hN] at h4
          rw [hC]
          have HN := hid hN
          have HC := hid hC
          have HQ := hid hQ
          have NL := hid nl
          have s5 := nac_le (HT.out 4) cl (Nat.zero_le 1)
          have s6 := nas_lt (t 4) C 0
          unfold B64 at s6
          have MA0 := hid (ma_any Q (limb m 0) (N 0) 0 ql (limb_lt m 0) (nl 0) (by decide))
          have QL := hid ql
          clear hN hC hQ hp hp1 hp2 nl cl ql xl
          have e0 := h4.cell (i := 0) rfl
          have e3 := h4.frozen 3
          have e4 := h4.cell (i := 4) rfl
          have e5 := h4.frozen 4
          have e6 := h4.frozen 5
          have e7 := h4.cell (i := 5) rfl
          have z0 := h0.cell (i := 1) rfl
          have z5 := h0.cell (i := 5) rfl
          have zt := h4.lt
          have zf := h0.lt
          go_wp2_with (go_at_call 123; refine (MA0.out _).mono ?_; rintro e w' ⟨rfl, rfl⟩)
          replace h4 := (h4.set 4 (.int .u64 (nas (t 4) C 0 : Int))).set 5 (.int .u64 (nac (t 4) C 0 : Int))
          replace h0 := (h0.other ⟨(w.heap.size + 1 + 1 + 1 + 1), 4, none⟩ (.int .u64 (nas (t 4) C 0 : Int)) (by dsimp only; omega)).other ⟨(w.heap.size + 1 + 1 + 1 + 1), 5, none⟩ (.int .u64 (nac (t 4) C 0 : Int)) (by dsimp only; omega)
          replace h1 := (h1.other ⟨(w.heap.size + 1 + 1 + 1 + 1), 4, none⟩ (.int .u64 (nas (t 4) C 0 : Int)) (by dsimp only; omega)).other ⟨(w.heap.size + 1 + 1 + 1 + 1), 5, none⟩ (.int .u64 (nac (t 4) C 0 : Int)) (by dsimp only; omega)
          replace h2 := (h2.other ⟨(w.heap.size + 1 + 1 + 1 + 1), 4, none⟩ (.int .u64 (nas (t 4) C 0 : Int)) (by dsimp only; omega)).other ⟨(w.heap.size + 1 + 1 + 1 + 1), 5, none⟩ (.int .u64 (nac (t 4) C 0 : Int)) (by dsimp only; omega)
          replace h3 := (h3.other ⟨(w.heap.size + 1 + 1 + 1 + 1), 4, none⟩ (.int .u64 (nas (t 4) C 0 : Int)) (by dsimp only; omega)).other ⟨(w.heap.size + 1 + 1 + 1 + 1), 5, none⟩ (.int .u64 (nac (t 4) C 0 : Int)) (by dsimp only; omega)
          have hB2 : Below w.heap.size w ((wr.setCell ⟨(w.heap.size + 1 + 1 + 1 + 1), 4, none⟩ (.int .u64 (nas (t 4) C 0 : Int))).setCell ⟨(w.heap.size + 1 + 1 + 1 + 1), 5, none⟩ (.int .u64 (nac (t 4) C 0 : Int))) := (hB.setCell (by dsimp only; omega) _).setCell (by dsimp only; omega) _
          clear hB e0 e3 e4 e5 e6 e7 z0 z5 zt zf hq
          go_loopw [12, 9] (fun y c wr => ∃ (j : Nat) (p : List Value), j ≤ 3 ∧ y = .int .i64 ((j : Int) + 1) ∧ c = .int .u64 (dcar Q (limb m) N (j + 1) : Int) ∧ Below w.heap.size w wr ∧ Blk wr w.heap.size 31 [.int .i64 id, .int .u64 (limb m 0 : Int), .int .u64 (limb m 1 : Int), .int .u64 (limb m 2 : Int), .int .u64 (limb m 3 : Int), .int .u64 (inv : Int), .int .u64 (limb o 0 : Int), .int .u64 (limb o 1 : Int), .int .u64 (limb o 2 : Int), .int .u64 (limb o 3 : Int), .int .u64 (limb s 0 : Int), .int .u64 (limb s 1 : Int), .int .u64 (limb s 2 : Int), .int .u64 (limb s 3 : Int)] ∧ Blk wr (w.heap.size + 1) 29 (limbs a) ∧ Blk wr (w.heap.size + 1 + 1) 29 (limbs b) ∧ Blk wr (w.heap.size + 1 + 1 + 1) 29 [.int .u64 0, .int .u64 0, .int .u64 0, .int .u64 0] ∧ Blk wr (w.heap.size + 1 + 1 + 1 + 1) 171 p ∧ p.length = 6 ∧ (∀ l, l < j → p[l]? = some (.int .u64 (dwd Q (limb m) N (l + 1) : Int))) ∧ ∀ l, j ≤ l → p[l]? = (six (fun k => if k < 4 then N k else nas (t 4) C 0) (nac (t 4) C 0))[l]?) (fun y _ _ => 4 - (intOf y).toNat)
          case atStart => exact ⟨0, _, by omega, rfl, rfl, hB2, h0, h1, h2, h3, h4, rfl, fun l hl => by omega, fun l _ => rfl⟩
          case round =>
            clear hB2 h0 h1 h2 h3 h4
            obtain ⟨j, p, hj, rfl, rfl, hB, h0, h1, h2, h3, h4, hp, hp1, hp2⟩ := hrel
            by_cases hlj : j < 3
            · have cm := h0.cell (i := 1 + (j + 1)) (v := .int .u64 (limb m (j + 1) : Int)) (by
                match j, hlj with
                | 0, _ => rfl
                | 1, _ => rfl
                | 2, _ => rfl)
              have ct := h4.cell ((hp2 (j + 1) (by omega)).trans (six_get _ _ (by omega)))
              rw [if_pos (by omega)] at ct
              have c9 := h4.cell ((hp2 j (Nat.le_refl _)).trans (six_get _ _ (by omega)))
              have ft := h4.frozen j
              have zt := h4.lt
              have HP := hid hp
              have HP1 := hid hp1
              have HP2 := hid hp2
              have MA := hid (ma_any Q (limb m (j + 1)) (N (j + 1)) (dcar Q (limb m) N (j + 1)) QL.out (limb_lt m _) (NL.out _) (dcar_lt QL.out (limb_lt m) NL.out _))
              clear hp hp1 hp2
              have z6 : (j : Int) + 1 < 6 := by omega
              have z6n : j + 1 < 6 := by omega
              go_wp2
              go_region_with (go_at_call 123; refine (MA.out _).mono ?_; rintro e w' ⟨rfl, rfl⟩)
              all_goals (
                go_wp2
                refine ⟨?_, ?_⟩
                · first
                    | ((repeat apply Exists.intro); refine ⟨?_, rfl⟩; exact ⟨j + 1, p.set j (.int .u64 (dwd Q (limb m) N (j + 1) : Int)), by omega, by go_num, rfl, by go_grown, h0.other _ _ (by dsimp only; omega), h1.other _ _ (by dsimp only; omega), h2.other _ _ (by dsimp only; omega), h3.other _ _ (by dsimp only; omega), h4.set j _, by simp [HP.out], row_set HP1.out HP.out (by omega) rfl, fun l hl => by rw [List.getElem?_set_ne (by omega)]; exact HP2.out l (by omega)⟩)
                    | exact ⟨j + 1, p.set j (.int .u64 (dwd Q (limb m) N (j + 1) : Int)), by omega, by go_num, rfl, by go_grown, h0.other _ _ (by dsimp only; omega), h1.other _ _ (by dsimp only; omega), h2.other _ _ (by dsimp only; omega), h3.other _ _ (by dsimp only; omega), h4.set j _, by simp [HP.out], row_set HP1.out HP.out (by omega) rfl, fun l hl => by rw [List.getElem?_set_ne (by omega)]; exact HP2.out l (by omega)⟩
                · simp [intOf]; omega)
            · obtain rfl : j = 3 := by omega
              obtain rfl := row_six (f := fun l => if l < 3 then .int .u64 (dwd Q (limb m) N (l + 1) : Int) else if l = 3 then .int .u64 (N 3 : Int) else if l = 4 then .int .u64 (nas (t 4) C 0 : Int) else .int .u64 (nac (t 4) C 0 : Int)) (fun l hl => by
                by_cases hl3 : l < 3
                · rw [hp1 l hl3, if_pos hl3]
                · rw [hp2 l (by omega), if_neg hl3]
                  have hc : l = 3 ∨ l = 4 ∨ l = 5 := by omega
                  rcases hc with rfl | rfl | rfl <;> rfl) hp
              replace h4 : Blk wr (w.heap.size + 1 + 1 + 1 + 1) 171 [.int .u64 (dwd Q (limb m) N 1 : Int), .int .u64 (dwd Q (limb m) N 2 : Int), .int .u64 (dwd Q (limb m) N 3 : Int), .int .u64 (N 3 : Int), .int .u64 (nas (t 4) C 0 : Int), .int .u64 (nac (t 4) C 0 : Int)] := h4
              have s7 := nac_le (nas_lt (t 4) C 0) (dcar_lt QL.out (limb_lt m) NL.out 4) (Nat.zero_le 1)
              have s8 : nac (t 4) C 0 + nac (nas (t 4) C 0) (dcar Q (limb m) N 4) 0 < 18446744073709551616 := by omega
              have e3 := h4.cell (i := 3) rfl
              have f3 := h4.frozen 3
              have e4 := h4.cell (i := 4) rfl
              have f4 := h4.frozen 4
              have e5 := h4.cell (i := 5) rfl
              have zt := h4.lt
              clear hp hp1 hp2 s7
              go_wp2
              go_roundw
              case rel =>
                have h5 := (h4.set 3 (.int .u64 (nas (nas (t 4) C 0) (dcar Q (limb m) N 4) 0 : Int))).set 4 (.int .u64 ((nac (t 4) C 0 : Int) + (nac (nas (t 4) C 0) (dcar Q (limb m) N 4) 0 : Int)))
                rw [← Int.natCast_add] at h5
                refine ⟨i + 1, rnd (limb b i) inv (limb a) (limb m) t, nac (t 4) C 0, by omega, by go_num, by go_grown, (h0.other _ _ (by dsimp only; omega)).other _ _ (by dsimp only; omega), (h1.other _ _ (by dsimp only; omega)).other _ _ (by dsimp only; omega), (h2.other _ _ (by dsimp only; omega)).other _ _ (by dsimp only; omega), (h3.other _ _ (by dsimp only; omega)).other _ _ (by dsimp only; omega), ?_, fun k => rnd_lt (limb_lt b i) (limb_lt a) (limb_lt m) HT.out k, HR.out.step HF.out.1 HA.out HF.out.2.2.1⟩
                rw [← Int.natCast_add]
                obtain rfl := HN.out
                obtain rfl := HC.out
                obtain rfl := HQ.out
                exact h5
              case measure => simp [intOf]; omega
    · obtain rfl : i = 4 := by omega
      have hfin := hR.fin HF.out HB9.out HAB.out ht
      have SC := fun W => subtract_any (id := id) (i := (inv : Int)) (o0 := (limb o 0 : Int)) (o1 := (limb o 1 : Int)) (o2 := (limb o 2 : Int)) (o3 := (limb o 3 : Int)) (s0 := (limb s 0 : Int)) (s1 := (limb s 1 : Int)) (s2 := (limb s 2 : Int)) (s3 := (limb s 3 : Int)) m (val4 (t 0) (t 1) (t 2) (t 3)) (t 4) HF.out.1 (val4_lt (ht 0) (ht 1) (ht 2) (ht 3)) (ht 4) W
      rw [← vec_words (ht 0) (ht 1) (ht 2) (ht 3), hfin] at SC
      have SC := hid SC
      clear hfin hR ht
      have z0 := h0.cell (i := 0) rfl
      have z1 := h0.cell (i := 1) rfl
      have z2 := h0.cell (i := 2) rfl
      have z3 := h0.cell (i := 3) rfl
      have z4 := h0.cell (i := 4) rfl
      have z5 := h0.cell (i := 5) rfl
      have z6 := h0.cell (i := 6) rfl
      have z7 := h0.cell (i := 7) rfl
      have z8 := h0.cell (i := 8) rfl
      have z9 := h0.cell (i := 9) rfl
      have z10 := h0.cell (i := 10) rfl
      have z11 := h0.cell (i := 11) rfl
      have z12 := h0.cell (i := 12) rfl
      have z13 := h0.cell (i := 13) rfl
      have e0 := h4.cell (i := 0) rfl
      have e1 := h4.cell (i := 1) rfl
      have e2 := h4.cell (i := 2) rfl
      have e3 := h4.cell (i := 3) rfl
      have e4 := h4.cell (i := 4) rfl
      have r0 := h3.cell (i := 0) rfl
      have f0 := h3.frozen 0
      have r1 := h3.cell (i := 1) rfl
      have f1 := h3.frozen 1
      have r2 := h3.cell (i := 2) rfl
      have f2 := h3.frozen 2
      have r3 := h3.cell (i := 3) rfl
      have f3 := h3.frozen 3
      have zt := h4.lt
      have zr := h3.lt
      have ha4 := run_array4
      have hB9 := hid hB
      have zB := hB.size
      clear hB h0 h1 h2 h4
      have h3 := hid h3
      go_wp2
      refine wp_tail 6 (by kernel_rfl) (by kernel_rfl) ?_
      simp only [List.take_succ_cons, List.take_zero, List.drop_succ_cons, List.drop_zero]
      repeat still_step
      refine wpStill_nil ?_
      go_wp2_with fail
      refine (SC.out _).mono ?_
      rintro e w1 ⟨rfl, b1⟩
      have hr := Blk.keep h3.out.drew b1
      have r0 := hr.cell (i := 0) rfl
      have f0 := hr.frozen 0
      have r1 := hr.cell (i := 1) rfl
      have f1 := hr.frozen 1
      have r2 := hr.cell (i := 2) rfl
      have f2 := hr.frozen 2
      have r3 := hr.cell (i := 3) rfl
      have f3 := hr.frozen 3
      have zw := hr.lt
      have B1 : Below w.heap.size w w1 := (Below.drew hB9.out).trans (b1.mono zB)
      go_wp2
      refine bodyPost_ret (by simp only [results, Tryd.results95]; go_simp; try rfl) rfl ?_
      exact ⟨rfl, by go_grown⟩
end Go.Proofs.YtogenbggjodcnaaDoor
