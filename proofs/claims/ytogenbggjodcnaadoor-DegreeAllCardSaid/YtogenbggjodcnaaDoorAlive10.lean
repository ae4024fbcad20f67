/-
  The examples of chapter 10 hold.
-/
import Derived.Test.YtogenbggjodcnaaDoorBel10
import Derived.Test.YtogenbggjodcnaaDoorGet10
import Derived.Test.YtogenbggjodcnaaDoorPrime
import Derived.Deep.RegionHeld3
namespace Go.Proofs.YtogenbggjodcnaaDoor
open Go.RowKit

attribute [local go_sem] Oper.semAt_some
theorem blk_ints {w : World} {b : Nat} {t : TypeId} {xs : List Int} (h : Blk w b t (xs.map fun x => .int .i64 x)) : IntSl w (.slice (some ⟨b, 0, none⟩) xs.length xs.length) xs :=
  ⟨_, _, rfl, .inr ⟨b, 0, rfl, fun j x hj => by rw [Nat.zero_add]; exact h.cell (by rw [List.getElem?_map, hj]; rfl)⟩⟩
theorem big9 (b : Bool) : 255 < fP b := by cases b <;> decide
theorem chk_123 : chkx [1, 2, 3] = 0 := (chkx_nodup (xs := [1, 2, 3]) (by intro x hx; simp at hx; omega)).1 (by simp)
theorem chk_nil : chkx [] = 0 := (chkx_nodup (xs := []) (by intro x hx; cases hx)).1 (by simp)
theorem mem3 {a b c y : Nat} {P : Nat → Prop} (h : y ∈ [a, b, c]) (ha : P a) (hb : P b) (hc : P c) : P y := by
  rcases List.mem_cons.1 h with h | h
  · exact h ▸ ha
  · rcases List.mem_cons.1 h with h | h
    · exact h ▸ hb
    · exact List.mem_singleton.1 h ▸ hc
theorem lt3 {a b c p : Nat} (ha : a < p) (hb : b < p) (hc : c < p) : ∀ y ∈ [a, b, c], y < p := fun _ h => mem3 (P := fun y => y < p) h ha hb hc
theorem lt2 {a b p : Nat} (ha : a < p) (hb : b < p) : ∀ y ∈ [a, b], y < p := fun y h => by
  rcases List.mem_cons.1 h with h | h
  · exact h ▸ ha
  · exact List.mem_singleton.1 h ▸ hb
theorem bmk_yes {cs : List Nat} {k : Int} (h : blw cs k cs.length) : bmk cs k = 18446744073709551615 := by unfold bmk; rw [veil_eq, if_pos h]
theorem bmk_no {cs : List Nat} {k : Int} (h : ¬ blw cs k cs.length) : bmk cs k = 0 := by unfold bmk; rw [veil_eq, if_neg h]
theorem vals3t (b : Bool) {x y z : Nat} (hx : x < 256) (hy : y < 256) (hz : z < 256) : [x, y, z].map (mulm (fP b) 1) = [x, y, z] := by
  have hb := big9 b
  show [mulm (fP b) 1 x, mulm (fP b) 1 y, mulm (fP b) 1 z] = _
  rw [mulm_one' (by omega), mulm_one' (by omega), mulm_one' (by omega)]
theorem itp_579 (b : Bool) : itp (fP b) (pts [1, 2, 3]) [5, 7, 9] 3 = [3, 2, 0] := by
  have hb := big9 b
  refine itp_poly (fer_b b) (fP_two b) (xs := [1, 2, 3]) (ys := [5, 7, 9]) (c := [3, 2]) (lt3 (by omega) (by omega) (by omega)) (by simp) (lt2 (by omega) (by omega)) (by simp) ?_
  intro j hj
  match j, hj with
  | 0, _ => show 5 = evm (fP b) 1 [3, 2]; rw [evm_eq]; exact (Nat.mod_eq_of_lt (a := 5) (by omega)).symm
  | 1, _ => show 7 = evm (fP b) 2 [3, 2]; rw [evm_eq]; exact (Nat.mod_eq_of_lt (a := 7) (by omega)).symm
  | 2, _ => show 9 = evm (fP b) 3 [3, 2]; rw [evm_eq]; exact (Nat.mod_eq_of_lt (a := 9) (by omega)).symm
theorem itp_57 (b : Bool) : itp (fP b) [1, 2] [5, 7] 2 = [3, 2] := by
  have hb := big9 b
  refine itp_poly (fer_b b) (fP_two b) (xs := [1, 2]) (ys := [5, 7]) (c := [3, 2]) (lt2 (by omega) (by omega)) (by simp) (lt2 (by omega) (by omega)) (by simp) ?_
  intro j hj
  match j, hj with
  | 0, _ => show 5 = evm (fP b) 1 [3, 2]; rw [evm_eq]; exact (Nat.mod_eq_of_lt (a := 5) (by omega)).symm
  | 1, _ => show 7 = evm (fP b) 2 [3, 2]; rw [evm_eq]; exact (Nat.mod_eq_of_lt (a := 7) (by omega)).symm
theorem fit_yes (b : Bool) : bmk (itp (fP b) (pts [1, 2, 3]) [5, 7, 9] 3) 2 = 18446744073709551615 := by
  rw [itp_579]
  refine bmk_yes fun i hi hk => ?_
  match i, hi with
  | 0, _ => omega
  | 1, _ => omega
  | 2, _ => rfl
theorem fit_no (b : Bool) : bmk (itp (fP b) (pts [1, 2, 3]) [5, 7, 10] 3) 2 = 0 := by
  have hb := big9 b
  have h := fits_iff (fer_b b) (fP_two b) (xs := [1, 2, 3]) (ys := [5, 7, 10]) (lt3 (by omega) (by omega) (by omega)) (by simp) (lt3 (by omega) (by omega) (by omega)) rfl (k := 2) (by simp)
  have hl : (itp (fP b) (pts [1, 2, 3]) [5, 7, 10] 3).length = 3 := itp_len (by omega) [1, 2, 3] [5, 7, 10] 3 (Nat.le_refl _)
  refine bmk_no fun h9 => ?_
  have h2 := h.1 (fun t ht => by
    by_cases e : t < 3
    · exact h9 t (by rw [hl]; exact e) (by omega)
    · exact getD_none (by have : (itp (fP b) [1, 2, 3] [5, 7, 10] [1, 2, 3].length).length = 3 := hl; omega)) 2 (by simp)
  rw [show ([1, 2, 3] : List Nat).take 2 = [1, 2] from rfl, show ([5, 7, 10] : List Nat).take 2 = [5, 7] from rfl, itp_57] at h2
  have h3 : evm (fP b) 3 [3, 2] = 9 := by rw [evm_eq]; exact Nat.mod_eq_of_lt (a := 9) (by omega)
  rw [show ([1, 2, 3] : List Nat).getD 2 0 = 3 from rfl, h3] at h2
  exact absurd h2 (by decide)
theorem bel_3 (b : Bool) : bmk [5, 7, 9] 3 = 18446744073709551615 := bmk_yes fun i hi hk => by simp at hi; omega
theorem bel_2 (b : Bool) : bmk [5, 7, 9] 2 = 0 := bmk_no fun h => absurd (h 2 (by simp) (by omega)) (by decide)
theorem nums579 : nums [5, 7, 9] = [.int .u64 5, .int .u64 0, .int .u64 0, .int .u64 0, .int .u64 7, .int .u64 0, .int .u64 0, .int .u64 0, .int .u64 9, .int .u64 0, .int .u64 0, .int .u64 0] := by simp [nums, limbs_small]
theorem nums5710 : nums [5, 7, 10] = [.int .u64 5, .int .u64 0, .int .u64 0, .int .u64 0, .int .u64 7, .int .u64 0, .int .u64 0, .int .u64 0, .int .u64 10, .int .u64 0, .int .u64 0, .int .u64 0] := by simp [nums, limbs_small]
set_option maxRecDepth 100000 in
set_option maxHeartbeats 2000000 in
theorem all_nil (b : Bool) (w : World) :
    Calls Tryd.prog 21 #[.pointer none, FV b, .slice none 0 0, .slice none 0 0, .int .i64 0] w (Ret (.tuple #[.int .u64 18446744073709551615, .int .i64 0]) w) := by
  have BW := hid (Below.refl w.heap.size w)
  have CK := hid (fun W : World => lcheck_any (.slice none 0 0) [] W ⟨none, 0, rfl, .inl rfl⟩ (by simp))
  rw [chk_nil] at CK
  have FBC := hid (fun W : World => (fromBit_any 1 (by decide) W).mono (R' := Ret (.int .u64 (msk 1 : Int)) W) (by rintro e w' ⟨rfl, rfl⟩; exact ⟨rfl, Below.refl _ _⟩))
  rw [show (msk 1 : Int) = 18446744073709551615 by rw [msk_eq]; rfl] at FBC
  go_enter Tryd.func21, Tryd.ntmps21
  go_wp2_with fail
  obtain ⟨v1, hv9⟩ : ∃ v, (((((w.alloc (.cells #[.pointer none] 53)).alloc (.cells #[.int .i64 (fID b), .int .u64 (limb (fP b) 0 : Int), .int .u64 (limb (fP b) 1 : Int), .int .u64 (limb (fP b) 2 : Int), .int .u64 (limb (fP b) 3 : Int), .int .u64 (fI b : Int), .int .u64 (limb (fO b) 0 : Int), .int .u64 (limb (fO b) 1 : Int), .int .u64 (limb (fO b) 2 : Int), .int .u64 (limb (fO b) 3 : Int), .int .u64 (limb (fS b) 0 : Int), .int .u64 (limb (fS b) 1 : Int), .int .u64 (limb (fS b) 2 : Int), .int .u64 (limb (fS b) 3 : Int)] 31)).alloc (.cells #[.slice none 0 0] 22)).alloc (.cells #[.slice none 0 0] 44)).alloc (.cells #[.int .i64 0] 3)) = v := ⟨_, rfl⟩
  have hG9 : Below w.heap.size w v1 := by rw [← hv9]; go_grown
  have X_T : Blk v1 (w.heap.size) 53 [.pointer none] := by rw [← hv9]; exact Blk.alloc (Blk.alloc (Blk.alloc (Blk.alloc (Blk.new rfl) _) _) _) _
  have X_F : Blk v1 (w.heap.size + 1) 31 [.int .i64 (fID b), .int .u64 (limb (fP b) 0 : Int), .int .u64 (limb (fP b) 1 : Int), .int .u64 (limb (fP b) 2 : Int), .int .u64 (limb (fP b) 3 : Int), .int .u64 (fI b : Int), .int .u64 (limb (fO b) 0 : Int), .int .u64 (limb (fO b) 1 : Int), .int .u64 (limb (fO b) 2 : Int), .int .u64 (limb (fO b) 3 : Int), .int .u64 (limb (fS b) 0 : Int), .int .u64 (limb (fS b) 1 : Int), .int .u64 (limb (fS b) 2 : Int), .int .u64 (limb (fS b) 3 : Int)] := by rw [← hv9]; exact Blk.alloc (Blk.alloc (Blk.alloc (Blk.new (by simp)) _) _) _
  have X_X : Blk v1 (w.heap.size + 1 + 1) 22 [.slice none 0 0] := by rw [← hv9]; exact Blk.alloc (Blk.alloc (Blk.new (by simp)) _) _
  have X_Y : Blk v1 (w.heap.size + 1 + 1 + 1) 44 [.slice none 0 0] := by rw [← hv9]; exact Blk.alloc (Blk.new (by simp)) _
  have X_K : Blk v1 (w.heap.size + 1 + 1 + 1 + 1) 3 [.int .i64 0] := by rw [← hv9]; exact Blk.new (by simp)
  obtain ⟨bT, hb9⟩ : ∃ k, w.heap.size = k := ⟨_, rfl⟩
  rw [hb9] at X_T
  rw [hb9] at X_F
  rw [hb9] at X_X
  rw [hb9] at X_Y
  rw [hb9] at X_K
  have g_bT : w.heap.size ≤ bT := by rw [← hb9]; exact BW.out.size
  replace BW := hid (BW.out.trans (hG9.mono BW.out.size))
  clear hG9
  rw [hv9]
  try rw [hb9]
  clear hv9 hb9
  refine (CK.out _).mono ?_
  rintro e v2 ⟨rfl, b9⟩
  replace X_T := X_T.keep b9
  replace X_F := X_F.keep b9
  replace X_X := X_X.keep b9
  replace X_Y := X_Y.keep b9
  replace X_K := X_K.keep b9
  replace BW := hid (BW.out.trans (b9.mono BW.out.size))
  clear b9
  have z_Y := X_Y.lt
  have c_Y0 := X_Y.cell (i := 0) rfl
  go_wp2
  clear z_Y c_Y0
  go_loopw [25] (fun ix wr => ∃ q : Nat, q ≤ 0 ∧ ix = .int .i64 (q : Int) ∧ Blk wr (bT) 53 [.pointer none] ∧ Blk wr (bT + 1) 31 [.int .i64 (fID b), .int .u64 (limb (fP b) 0 : Int), .int .u64 (limb (fP b) 1 : Int), .int .u64 (limb (fP b) 2 : Int), .int .u64 (limb (fP b) 3 : Int), .int .u64 (fI b : Int), .int .u64 (limb (fO b) 0 : Int), .int .u64 (limb (fO b) 1 : Int), .int .u64 (limb (fO b) 2 : Int), .int .u64 (limb (fO b) 3 : Int), .int .u64 (limb (fS b) 0 : Int), .int .u64 (limb (fS b) 1 : Int), .int .u64 (limb (fS b) 2 : Int), .int .u64 (limb (fS b) 3 : Int)] ∧ Blk wr (bT + 1 + 1) 22 [.slice none 0 0] ∧ Blk wr (bT + 1 + 1 + 1) 44 [.slice none 0 0] ∧ Blk wr (bT + 1 + 1 + 1 + 1) 3 [.int .i64 0] ∧ Below w.heap.size w wr) (fun ix _ => 0 - (intOf ix).toNat)
  case atStart => exact ⟨0, Nat.zero_le _, rfl, X_T, X_F, X_X, X_Y, X_K, BW.out⟩
  case round =>
    clear X_T X_F X_X X_Y X_K BW
    obtain ⟨q, hk_q, rfl, X_T, X_F, X_X, X_Y, X_K, b9⟩ := hrel
    obtain ⟨v3, hv9⟩ : ∃ v, v = wr := ⟨_, rfl⟩
    subst hv9
    have BW := hid b9
    clear b9
    by_cases hq : q < 0
    · skip
      exact absurd hq (Nat.not_lt_zero _)
    · skip
      have e_q : q = 0 := by omega
      clear hq
      subst e_q
      go_wp2_with fail
      refine (FBC.out _).mono ?_
      rintro e v4 ⟨rfl, b9⟩
      replace X_T := X_T.keep b9
      replace X_F := X_F.keep b9
      replace X_X := X_X.keep b9
      replace X_Y := X_Y.keep b9
      replace X_K := X_K.keep b9
      replace BW := hid (BW.out.trans (b9.mono BW.out.size))
      clear b9
      have z_Y := X_Y.lt
      have c_Y0 := X_Y.cell (i := 0) rfl
      go_wp2
      obtain ⟨v5, hv9⟩ : ∃ v, (v4.alloc (.cells #[.int .u64 18446744073709551615] 27)) = v := ⟨_, rfl⟩
      have hG9 : Below v4.heap.size v4 v5 := by rw [← hv9]; go_grown
      have X_A : Blk v5 (v4.heap.size) 27 [.int .u64 18446744073709551615] := by rw [← hv9]; exact Blk.new rfl
      obtain ⟨bA, hb9⟩ : ∃ k, v4.heap.size = k := ⟨_, rfl⟩
      rw [hb9] at X_A
      have g_bA : w.heap.size ≤ bA := by rw [← hb9]; exact BW.out.size
      have q_T_bA : bT < bA := by rw [← hb9]; exact X_T.lt
      have q_F_bA : bT + 1 < bA := by rw [← hb9]; exact X_F.lt
      have q_X_bA : bT + 1 + 1 < bA := by rw [← hb9]; exact X_X.lt
      have q_Y_bA : bT + 1 + 1 + 1 < bA := by rw [← hb9]; exact X_Y.lt
      have q_K_bA : bT + 1 + 1 + 1 + 1 < bA := by rw [← hb9]; exact X_K.lt
      clear z_Y c_Y0
      replace X_T := X_T.keep hG9
      replace X_F := X_F.keep hG9
      replace X_X := X_X.keep hG9
      replace X_Y := X_Y.keep hG9
      replace X_K := X_K.keep hG9
      replace BW := hid (BW.out.trans (hG9.mono BW.out.size))
      clear hG9
      rw [hv9]
      try rw [hb9]
      clear hv9 hb9
      go_loopw [39] (fun ix wr => ∃ q : Nat, q ≤ 0 ∧ ix = .int .i64 (q : Int) ∧ Blk wr (bT) 53 [.pointer none] ∧ Blk wr (bT + 1) 31 [.int .i64 (fID b), .int .u64 (limb (fP b) 0 : Int), .int .u64 (limb (fP b) 1 : Int), .int .u64 (limb (fP b) 2 : Int), .int .u64 (limb (fP b) 3 : Int), .int .u64 (fI b : Int), .int .u64 (limb (fO b) 0 : Int), .int .u64 (limb (fO b) 1 : Int), .int .u64 (limb (fO b) 2 : Int), .int .u64 (limb (fO b) 3 : Int), .int .u64 (limb (fS b) 0 : Int), .int .u64 (limb (fS b) 1 : Int), .int .u64 (limb (fS b) 2 : Int), .int .u64 (limb (fS b) 3 : Int)] ∧ Blk wr (bT + 1 + 1) 22 [.slice none 0 0] ∧ Blk wr (bT + 1 + 1 + 1) 44 [.slice none 0 0] ∧ Blk wr (bT + 1 + 1 + 1 + 1) 3 [.int .i64 0] ∧ Blk wr (bA) 27 [.int .u64 18446744073709551615] ∧ Below w.heap.size w wr) (fun ix _ => 0 - (intOf ix).toNat)
      case atStart => exact ⟨0, Nat.zero_le _, rfl, X_T, X_F, X_X, X_Y, X_K, X_A, BW.out⟩
      case round =>
        clear X_T X_F X_X X_Y X_K X_A BW
        obtain ⟨q, hk_q, rfl, X_T, X_F, X_X, X_Y, X_K, X_A, b9⟩ := hrel
        obtain ⟨v6, hv9⟩ : ∃ v, v = wr := ⟨_, rfl⟩
        subst hv9
        have BW := hid b9
        clear b9
        by_cases hq : q < 0
        · skip
          exact absurd hq (Nat.not_lt_zero _)
        · skip
          have e_q : q = 0 := by omega
          clear hq
          subst e_q
          have z_A := X_A.lt
          have c_A0 := X_A.cell (i := 0) rfl
          go_wp2
          refine bodyPost_ret (by simp only [results, Tryd.results21]; go_simp; try rfl) rfl ?_
          exact ⟨rfl, BW.out⟩
set_option maxRecDepth 100000 in
set_option maxHeartbeats 4000000 in
theorem alive10_any (w : World) (hT : Tab w) :
    Calls Tryd.prog 14 #[] w (Ret (.bool true) w) := by
  have BW := hid (Below.refl w.heap.size w)
  have T := hid hT
  clear hT
  obtain ⟨b, GC⟩ : ∃ b, Hid (∀ W : World, Tab W → Calls Tryd.prog 15 #[.bool true] W (Ret (.tuple #[FV b, vec (fP b)]) W)) := ⟨true, hid (fun W h => get10_any true W h)⟩
  have hp2 := fP_two b
  have hpb := fP_lt b
  have h255 := big9 b
  have V1 := hid (fun (W : World) (v : Value) (h : NumSl W v [5, 7, 9]) => values_any (fP b) v [5, 7, 9] W hpb (by omega) h (by simp))
  have V2 := hid (fun (W : World) (v : Value) (h : NumSl W v [5, 7, 10]) => values_any (fP b) v [5, 7, 10] W hpb (by omega) h (by simp))
  unfold RetVals at V1 V2
  rw [vals3t b (by decide) (by decide) (by decide)] at V1 V2
  have F1 := hid (fun (W : World) (v u : Value) (h : IntSl W v [1, 2, 3]) (h2 : NumSl W u ([5, 7, 9].map (frm (fP b)))) => fits_ok b v u [1, 2, 3] [5, 7, 9] 2 W h h2 (by simp) chk_123 rfl)
  rw [show bmk (itp (fP b) (pts [1, 2, 3]) [5, 7, 9] ([1, 2, 3] : List Int).length) 2 = 18446744073709551615 from fit_yes b] at F1
  have F2 := hid (fun (W : World) (v u : Value) (h : IntSl W v [1, 2, 3]) (h2 : NumSl W u ([5, 7, 10].map (frm (fP b)))) => fits_ok b v u [1, 2, 3] [5, 7, 10] 2 W h h2 (by simp) chk_123 rfl)
  rw [show bmk (itp (fP b) (pts [1, 2, 3]) [5, 7, 10] ([1, 2, 3] : List Int).length) 2 = 0 from fit_no b] at F2
  have AC := hid (fun W : World => all_nil b W)
  have hl579 : ∀ y ∈ [5, 7, 9], y < fP b := lt3 (by omega) (by omega) (by omega)
  have B3 := hid (fun (W : World) (v : Value) (h : NumSl W v ([5, 7, 9].map (frm (fP b)))) => below_any v ([5, 7, 9].map (frm (fP b))) 3 W h (by simp))
  rw [bmk_forms b _ hl579, bel_3 b] at B3
  have B2 := hid (fun (W : World) (v : Value) (h : NumSl W v ([5, 7, 9].map (frm (fP b)))) => below_any v ([5, 7, 9].map (frm (fP b))) 2 W h (by simp))
  rw [bmk_forms b _ hl579, bel_2 b] at B2
  rw [show ((18446744073709551615 : Nat) : Int) = 18446744073709551615 from rfl] at F1 B3
  rw [show ((0 : Nat) : Int) = 0 from rfl] at F2 B2
  clear h255 hl579
  go_enter Tryd.func14, Tryd.ntmps14
  go_wp2_with fail
  refine (GC.out _ T.out).mono ?_
  rintro e v1 ⟨rfl, b9⟩
  replace T := hid (T.out.keep b9)
  replace BW := hid (BW.out.trans (b9.mono BW.out.size))
  clear b9
  go_wp2_with fail
  obtain ⟨v2, hv9⟩ : ∃ v, (((v1.alloc (.cells #[.int .i64 (fID b), .int .u64 (limb (fP b) 0 : Int), .int .u64 (limb (fP b) 1 : Int), .int .u64 (limb (fP b) 2 : Int), .int .u64 (limb (fP b) 3 : Int), .int .u64 (fI b : Int), .int .u64 (limb (fO b) 0 : Int), .int .u64 (limb (fO b) 1 : Int), .int .u64 (limb (fO b) 2 : Int), .int .u64 (limb (fO b) 3 : Int), .int .u64 (limb (fS b) 0 : Int), .int .u64 (limb (fS b) 1 : Int), .int .u64 (limb (fS b) 2 : Int), .int .u64 (limb (fS b) 3 : Int)] 31)).alloc (.cells #[.int .u64 (limb (fP b) 0 : Int), .int .u64 (limb (fP b) 1 : Int), .int .u64 (limb (fP b) 2 : Int), .int .u64 (limb (fP b) 3 : Int)] 28)).alloc (.cells #[.int .u64 5, .int .u64 0, .int .u64 0, .int .u64 0, .int .u64 7, .int .u64 0, .int .u64 0, .int .u64 0, .int .u64 9, .int .u64 0, .int .u64 0, .int .u64 0] 28)) = v := ⟨_, rfl⟩
  have hG9 : Below v1.heap.size v1 v2 := by rw [← hv9]; go_grown
  have X_F : Blk v2 (v1.heap.size) 31 [.int .i64 (fID b), .int .u64 (limb (fP b) 0 : Int), .int .u64 (limb (fP b) 1 : Int), .int .u64 (limb (fP b) 2 : Int), .int .u64 (limb (fP b) 3 : Int), .int .u64 (fI b : Int), .int .u64 (limb (fO b) 0 : Int), .int .u64 (limb (fO b) 1 : Int), .int .u64 (limb (fO b) 2 : Int), .int .u64 (limb (fO b) 3 : Int), .int .u64 (limb (fS b) 0 : Int), .int .u64 (limb (fS b) 1 : Int), .int .u64 (limb (fS b) 2 : Int), .int .u64 (limb (fS b) 3 : Int)] := by rw [← hv9]; exact Blk.alloc (Blk.alloc (Blk.new rfl) _) _
  have X_P : Blk v2 (v1.heap.size + 1) 28 [.int .u64 (limb (fP b) 0 : Int), .int .u64 (limb (fP b) 1 : Int), .int .u64 (limb (fP b) 2 : Int), .int .u64 (limb (fP b) 3 : Int)] := by rw [← hv9]; exact Blk.alloc (Blk.new (by simp)) _
  have X_L0 : Blk v2 (v1.heap.size + 1 + 1) 28 [.int .u64 5, .int .u64 0, .int .u64 0, .int .u64 0, .int .u64 7, .int .u64 0, .int .u64 0, .int .u64 0, .int .u64 9, .int .u64 0, .int .u64 0, .int .u64 0] := by rw [← hv9]; exact Blk.new (by simp)
  obtain ⟨bF, hb9⟩ : ∃ k, v1.heap.size = k := ⟨_, rfl⟩
  rw [hb9] at X_F
  rw [hb9] at X_P
  rw [hb9] at X_L0
  have g_bF : w.heap.size ≤ bF := by rw [← hb9]; exact BW.out.size
  replace T := hid (T.out.keep hG9)
  replace BW := hid (BW.out.trans (hG9.mono BW.out.size))
  clear hG9
  rw [hv9]
  try rw [hb9]
  clear hv9 hb9
  refine (V1.out _ _ (blk_nums (xs := [5, 7, 9]) (by rw [nums579]; exact X_L0) (lt3 (by decide) (by decide) (by decide)))).mono ?_
  rintro e v3 ⟨vv, vx, rfl, ho, ho2, b9⟩
  clear X_L0
  obtain ⟨aa, ca, rfl, _, _, _⟩ := owns_form ho2
  have N_a := hid (nums_own (xs := [5, 7, 9].map (frm (fP b))) ho2 (small9 (forms9 b _)))
  clear ho ho2
  replace X_F := X_F.keep b9
  replace X_P := X_P.keep b9
  replace T := hid (T.out.keep b9)
  replace BW := hid (BW.out.trans (b9.mono BW.out.size))
  clear b9
  have z_P := X_P.lt
  have c_P0 := X_P.cell (i := 0) rfl
  have c_P1 := X_P.cell (i := 1) rfl
  have c_P2 := X_P.cell (i := 2) rfl
  have c_P3 := X_P.cell (i := 3) rfl
  go_wp2_with fail
  obtain ⟨v4, hv9⟩ : ∃ v, (v3.alloc (.cells #[.int .u64 5, .int .u64 0, .int .u64 0, .int .u64 0, .int .u64 7, .int .u64 0, .int .u64 0, .int .u64 0, .int .u64 10, .int .u64 0, .int .u64 0, .int .u64 0] 28)) = v := ⟨_, rfl⟩
  have hG9 : Below v3.heap.size v3 v4 := by rw [← hv9]; go_grown
  have X_L1 : Blk v4 (v3.heap.size) 28 [.int .u64 5, .int .u64 0, .int .u64 0, .int .u64 0, .int .u64 7, .int .u64 0, .int .u64 0, .int .u64 0, .int .u64 10, .int .u64 0, .int .u64 0, .int .u64 0] := by rw [← hv9]; exact Blk.new rfl
  obtain ⟨bL1, hb9⟩ : ∃ k, v3.heap.size = k := ⟨_, rfl⟩
  rw [hb9] at X_L1
  have g_bL1 : w.heap.size ≤ bL1 := by rw [← hb9]; exact BW.out.size
  have q_F_bL1 : bF < bL1 := by rw [← hb9]; exact X_F.lt
  have q_P_bL1 : bF + 1 < bL1 := by rw [← hb9]; exact X_P.lt
  clear z_P c_P0 c_P1 c_P2 c_P3
  replace X_F := X_F.keep hG9
  replace X_P := X_P.keep hG9
  replace N_a := hid (N_a.out.below hG9)
  replace T := hid (T.out.keep hG9)
  replace BW := hid (BW.out.trans (hG9.mono BW.out.size))
  clear hG9
  rw [hv9]
  try rw [hb9]
  clear hv9 hb9
  refine (V2.out _ _ (blk_nums (xs := [5, 7, 10]) (by rw [nums5710]; exact X_L1) (lt3 (by decide) (by decide) (by decide)))).mono ?_
  rintro e v5 ⟨vv, vx, rfl, ho, ho2, b9⟩
  clear X_L1
  obtain ⟨ac, cc, rfl, _, _, _⟩ := owns_form ho2
  have N_c := hid (nums_own (xs := [5, 7, 10].map (frm (fP b))) ho2 (small9 (forms9 b _)))
  clear ho ho2
  replace X_F := X_F.keep b9
  replace X_P := X_P.keep b9
  replace N_a := hid (N_a.out.below b9)
  replace T := hid (T.out.keep b9)
  replace BW := hid (BW.out.trans (b9.mono BW.out.size))
  clear b9
  have z_F := X_F.lt
  have c_F0 := X_F.cell (i := 0) rfl
  have c_F1 := X_F.cell (i := 1) rfl
  have c_F2 := X_F.cell (i := 2) rfl
  have c_F3 := X_F.cell (i := 3) rfl
  have c_F4 := X_F.cell (i := 4) rfl
  have c_F5 := X_F.cell (i := 5) rfl
  have c_F6 := X_F.cell (i := 6) rfl
  have c_F7 := X_F.cell (i := 7) rfl
  have c_F8 := X_F.cell (i := 8) rfl
  have c_F9 := X_F.cell (i := 9) rfl
  have c_F10 := X_F.cell (i := 10) rfl
  have c_F11 := X_F.cell (i := 11) rfl
  have c_F12 := X_F.cell (i := 12) rfl
  have c_F13 := X_F.cell (i := 13) rfl
  go_wp2_with fail
  obtain ⟨v6, hv9⟩ : ∃ v, (v5.alloc (.cells #[.int .i64 1, .int .i64 2, .int .i64 3] 3)) = v := ⟨_, rfl⟩
  have hG9 : Below v5.heap.size v5 v6 := by rw [← hv9]; go_grown
  have X_I0 : Blk v6 (v5.heap.size) 3 [.int .i64 1, .int .i64 2, .int .i64 3] := by rw [← hv9]; exact Blk.new rfl
  obtain ⟨bI0, hb9⟩ : ∃ k, v5.heap.size = k := ⟨_, rfl⟩
  rw [hb9] at X_I0
  have g_bI0 : w.heap.size ≤ bI0 := by rw [← hb9]; exact BW.out.size
  have q_F_bI0 : bF < bI0 := by rw [← hb9]; exact X_F.lt
  have q_P_bI0 : bF + 1 < bI0 := by rw [← hb9]; exact X_P.lt
  clear z_F c_F0 c_F1 c_F2 c_F3 c_F4 c_F5 c_F6 c_F7 c_F8 c_F9 c_F10 c_F11 c_F12 c_F13
  replace X_F := X_F.keep hG9
  replace X_P := X_P.keep hG9
  replace N_a := hid (N_a.out.below hG9)
  replace N_c := hid (N_c.out.below hG9)
  replace T := hid (T.out.keep hG9)
  replace BW := hid (BW.out.trans (hG9.mono BW.out.size))
  clear hG9
  rw [hv9]
  try rw [hb9]
  clear hv9 hb9
  refine (F1.out _ _ _ (blk_ints (xs := [1, 2, 3]) X_I0) N_a.out).mono ?_
  rintro e v7 ⟨rfl, b9⟩
  clear X_I0
  replace X_F := X_F.keep b9
  replace X_P := X_P.keep b9
  replace N_a := hid (N_a.out.below b9)
  replace N_c := hid (N_c.out.below b9)
  replace T := hid (T.out.keep b9)
  replace BW := hid (BW.out.trans (b9.mono BW.out.size))
  clear b9
  have z_F := X_F.lt
  have c_F0 := X_F.cell (i := 0) rfl
  have c_F1 := X_F.cell (i := 1) rfl
  have c_F2 := X_F.cell (i := 2) rfl
  have c_F3 := X_F.cell (i := 3) rfl
  have c_F4 := X_F.cell (i := 4) rfl
  have c_F5 := X_F.cell (i := 5) rfl
  have c_F6 := X_F.cell (i := 6) rfl
  have c_F7 := X_F.cell (i := 7) rfl
  have c_F8 := X_F.cell (i := 8) rfl
  have c_F9 := X_F.cell (i := 9) rfl
  have c_F10 := X_F.cell (i := 10) rfl
  have c_F11 := X_F.cell (i := 11) rfl
  have c_F12 := X_F.cell (i := 12) rfl
  have c_F13 := X_F.cell (i := 13) rfl
  go_wp2_with fail
  obtain ⟨v8, hv9⟩ : ∃ v, (v7.alloc (.cells #[.int .i64 1, .int .i64 2, .int .i64 3] 3)) = v := ⟨_, rfl⟩
  have hG9 : Below v7.heap.size v7 v8 := by rw [← hv9]; go_grown
  have X_I1 : Blk v8 (v7.heap.size) 3 [.int .i64 1, .int .i64 2, .int .i64 3] := by rw [← hv9]; exact Blk.new rfl
  obtain ⟨bI1, hb9⟩ : ∃ k, v7.heap.size = k := ⟨_, rfl⟩
  rw [hb9] at X_I1
  have g_bI1 : w.heap.size ≤ bI1 := by rw [← hb9]; exact BW.out.size
  have q_F_bI1 : bF < bI1 := by rw [← hb9]; exact X_F.lt
  have q_P_bI1 : bF + 1 < bI1 := by rw [← hb9]; exact X_P.lt
  clear z_F c_F0 c_F1 c_F2 c_F3 c_F4 c_F5 c_F6 c_F7 c_F8 c_F9 c_F10 c_F11 c_F12 c_F13
  replace X_F := X_F.keep hG9
  replace X_P := X_P.keep hG9
  replace N_a := hid (N_a.out.below hG9)
  replace N_c := hid (N_c.out.below hG9)
  replace T := hid (T.out.keep hG9)
  replace BW := hid (BW.out.trans (hG9.mono BW.out.size))
  clear hG9
  rw [hv9]
  try rw [hb9]
  clear hv9 hb9
  refine (F2.out _ _ _ (blk_ints (xs := [1, 2, 3]) X_I1) N_c.out).mono ?_
  rintro e v9 ⟨rfl, b9⟩
  clear X_I1
  replace X_F := X_F.keep b9
  replace X_P := X_P.keep b9
  replace N_a := hid (N_a.out.below b9)
  replace N_c := hid (N_c.out.below b9)
  replace T := hid (T.out.keep b9)
  replace BW := hid (BW.out.trans (b9.mono BW.out.size))
  clear b9
  have z_F := X_F.lt
  have c_F0 := X_F.cell (i := 0) rfl
  have c_F1 := X_F.cell (i := 1) rfl
  have c_F2 := X_F.cell (i := 2) rfl
  have c_F3 := X_F.cell (i := 3) rfl
  have c_F4 := X_F.cell (i := 4) rfl
  have c_F5 := X_F.cell (i := 5) rfl
  have c_F6 := X_F.cell (i := 6) rfl
  have c_F7 := X_F.cell (i := 7) rfl
  have c_F8 := X_F.cell (i := 8) rfl
  have c_F9 := X_F.cell (i := 9) rfl
  have c_F10 := X_F.cell (i := 10) rfl
  have c_F11 := X_F.cell (i := 11) rfl
  have c_F12 := X_F.cell (i := 12) rfl
  have c_F13 := X_F.cell (i := 13) rfl
  go_wp2_with fail
  refine (AC.out _).mono ?_
  rintro e v10 ⟨rfl, b9⟩
  clear z_F c_F0 c_F1 c_F2 c_F3 c_F4 c_F5 c_F6 c_F7 c_F8 c_F9 c_F10 c_F11 c_F12 c_F13
  replace X_F := X_F.keep b9
  replace X_P := X_P.keep b9
  replace N_a := hid (N_a.out.below b9)
  replace N_c := hid (N_c.out.below b9)
  replace T := hid (T.out.keep b9)
  replace BW := hid (BW.out.trans (b9.mono BW.out.size))
  clear b9
  go_wp2_with fail
  refine (B3.out _ _ N_a.out).mono ?_
  rintro e v11 ⟨rfl, b9⟩
  replace X_F := X_F.keep b9
  replace X_P := X_P.keep b9
  replace N_a := hid (N_a.out.below b9)
  replace N_c := hid (N_c.out.below b9)
  replace T := hid (T.out.keep b9)
  replace BW := hid (BW.out.trans (b9.mono BW.out.size))
  clear b9
  go_wp2_with fail
  refine (B2.out _ _ N_a.out).mono ?_
  rintro e v12 ⟨rfl, b9⟩
  replace X_F := X_F.keep b9
  replace X_P := X_P.keep b9
  replace N_a := hid (N_a.out.below b9)
  replace N_c := hid (N_c.out.below b9)
  replace T := hid (T.out.keep b9)
  replace BW := hid (BW.out.trans (b9.mono BW.out.size))
  clear b9
  go_wp2
  go_ret
  exact ⟨rfl, BW.out⟩
end Go.Proofs.YtogenbggjodcnaaDoor
