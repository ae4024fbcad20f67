/-
  Whether the coefficients from an index on are zero: Below and Fits.
-/
import Derived.Test.YtogenbggjodcnaaDoorItp9
import Derived.Test.YtogenbggjodcnaaDoorIsz
import Derived.Deep.RegionHeld3
namespace Go.Proofs.YtogenbggjodcnaaDoor
open Go.RowKit

attribute [local go_sem] Oper.semAt_some
/-- The numbers from k on are zero. -/
def blw (cs : List Nat) (k : Int) (n : Nat) : Prop := ∀ i, i < n → k ≤ (i : Int) → cs.getD i 0 = 0
noncomputable def bmk (cs : List Nat) (k : Int) : Nat := open Classical in veil (if blw cs k cs.length then 18446744073709551615 else 0)
theorem bmk_zmk {cs : List Nat} {k : Int} {u : Nat} (h : u = 0 ↔ blw cs k cs.length) : zmk u = bmk cs k := by
  unfold bmk
  rw [zmk_eq, veil_eq]
  by_cases e : u = 0
  · rw [if_pos e, if_pos (h.1 e)]
  · rw [if_neg e, if_neg (fun h9 => e (h.2 h9))]
theorem blw_zero (cs : List Nat) (k : Int) : blw cs k 0 := fun i h => absurd h (Nat.not_lt_zero _)
theorem blw_skip {cs : List Nat} {k : Int} {n : Nat} (h : (n : Int) < k) : blw cs k (n + 1) ↔ blw cs k n :=
  ⟨fun h1 i hi hk => h1 i (by omega) hk, fun h1 i hi hk => by
    by_cases e : i = n
    · subst e; omega
    · exact h1 i (by omega) hk⟩
theorem blw_next {cs : List Nat} {k : Int} {n : Nat} (h : ¬ (n : Int) < k) : blw cs k (n + 1) ↔ blw cs k n ∧ cs.getD n 0 = 0 :=
  ⟨fun h1 => ⟨fun i hi hk => h1 i (by omega) hk, h1 n (by omega) (by omega)⟩, fun h1 i hi hk => by
    by_cases e : i = n
    · subst e; exact h1.2
    · exact h1.1 i (by omega) hk⟩
/-- The first q words are zero. -/
def lzr (c : Nat) (q : Nat) : Prop := ∀ j, j < q → limb c j = 0
theorem lzr_zero (c : Nat) : lzr c 0 := fun j h => absurd h (Nat.not_lt_zero _)
theorem lzr_next (c q : Nat) : lzr c (q + 1) ↔ lzr c q ∧ limb c q = 0 :=
  ⟨fun h => ⟨fun j hj => h j (by omega), h q (by omega)⟩, fun h j hj => by
    by_cases e : j = q
    · subst e; exact h.2
    · exact h.1 j (by omega)⟩
theorem lzr_four {c : Nat} (hc : c < B256) : lzr c 4 ↔ c = 0 := by
  constructor
  · intro h
    have h0 := h 0 (by omega); have h1 := h 1 (by omega); have h2 := h 2 (by omega); have h3 := h 3 (by omega)
    exact vec_inj hc (by decide) (by rw [h0, limb_eq]; simp) (by rw [h1, limb_eq]; simp) (by rw [h2, limb_eq]; simp) (by rw [h3, limb_eq]; simp)
  · rintro rfl j _; rw [limb_eq]; simp
theorem or_step {u x : Nat} {A B : Prop} (h : u = 0 ↔ A) (hx : x = 0 ↔ B) : u ||| x = 0 ↔ A ∧ B := by rw [or_zero, h, hx]
set_option maxRecDepth 100000 in
set_option maxHeartbeats 2000000 in
theorem below_any (v : Value) (cs : List Nat) (k : Int) (w : World) (hS : NumSl w v cs) (hl : cs.length < 1000000) :
    Calls Tryd.prog 29 #[.pointer none, v, .int .i64 k] w (Ret (.int .u64 (bmk cs k : Int)) w) := by
  have BW := hid (Below.refl w.heap.size w)
  have HB256 := hid hS.lt
  have HS := hid hS
  obtain ⟨a, cap, rfl, _, _⟩ := hS
  obtain ⟨n, hn⟩ : ∃ n, cs.length = n := ⟨_, rfl⟩
  rw [hn] at hl HS ⊢
  have HN := hid hn
  clear hn
  go_enter Tryd.func29, Tryd.ntmps29
  go_wp2
  go_loopw [7, 13] (fun y ix wr => ∃ i : Nat, i ≤ n ∧ ix = .int .i64 (i : Int) ∧ Below w.heap.size w wr ∧ ∃ u : Nat, (.int .u64 (u : Int)) = y ∧ u < B64 ∧ (u = 0 ↔ blw cs k i)) (fun _ ix _ => n - (intOf ix).toNat)
  case atStart => exact ⟨0, Nat.zero_le _, rfl, BW.out, 0, rfl, by decide, ⟨fun _ => blw_zero cs k, fun _ => rfl⟩⟩
  case round =>
    clear BW
    obtain ⟨i, hk_i, rfl, b9, hm_i⟩ := hrel
    obtain ⟨v1, hv9⟩ : ∃ v, v = wr := ⟨_, rfl⟩
    subst hv9
    have BW := hid b9
    clear b9
    have HM_i := hid hm_i
    clear hm_i
    by_cases hi : i < n
    · skip
      obtain ⟨u, rfl, hu, HU⟩ := HM_i.out
      have HU := hid HU
      clear HM_i
      have hi0 : (0 : Int) ≤ (i : Int) := by omega
      have hin : (i : Int) < (n : Int) := by omega
      by_cases hik : (i : Int) < k
      · skip
        go_wp2
        go_roundw
        case rel => exact ⟨i + 1, by omega, by go_num, BW.out, u, rfl, hu, HU.out.trans (blw_skip hik).symm⟩
        case measure => simp [intOf]; omega
      · skip
        obtain ⟨c, hc⟩ : ∃ x, cs[i]? = some x := ⟨cs[i]'(by rw [HN.out]; exact hi), List.getElem?_eq_getElem _⟩
        obtain ⟨g, off, rfl, hg, d0, d1, d2, d3⟩ := (HS.out.below BW.out).at4 hc
        have HC := hid (getD_some hc)
        have HCL := hid (HB256.out c (List.mem_of_getElem? hc))
        clear hc
        go_wp2_with (go_at_call 64; refine (note_nil _ _ _ _).mono ?_; rintro e w' ⟨rfl, rfl⟩)
        go_loopw [7, 26] (fun y ix wr => ∃ q : Nat, q ≤ 4 ∧ ix = .int .i64 (q : Int) ∧ Below w.heap.size w wr ∧ ∃ u2 : Nat, (.int .u64 (u2 : Int)) = y ∧ u2 < B64 ∧ (u2 = 0 ↔ blw cs k i ∧ lzr c q)) (fun _ ix _ => 4 - (intOf ix).toNat)
        case atStart => exact ⟨0, Nat.zero_le _, rfl, BW.out, u, rfl, hu, by rw [HU.out]; exact ⟨fun h => ⟨h, lzr_zero c⟩, fun h => h.1⟩⟩
        case round =>
          clear BW
          obtain ⟨q, hk_q, rfl, b9, hm_q⟩ := hrel
          obtain ⟨v2, hv9⟩ : ∃ v, v = wr := ⟨_, rfl⟩
          subst hv9
          have BW := hid b9
          clear b9
          have HM_q := hid hm_q
          clear hm_q
          by_cases hq : q < 4
          · skip
            obtain ⟨u2, rfl, hu2, H2⟩ := HM_q.out
            have H2 := hid H2
            clear HM_q d0 d1 d2 d3
            match q, hq with
            | 0, _ =>
              have hix : ∀ w, (Instr.index 29 (.agg #[.int .u64 (limb c 0 : Int), .int .u64 (limb c 1 : Int), .int .u64 (limb c 2 : Int), .int .u64 (limb c 3 : Int)]) (.int .i64 ((0 : Nat) : Int))).run Tryd.prog w = .ok (.int .u64 (limb c 0 : Int)) w := fun _ => by kernel_rfl
              have hiy : ∀ w, (Instr.index 29 (.agg #[.int .u64 (limb c 0 : Int), .int .u64 (limb c 1 : Int), .int .u64 (limb c 2 : Int), .int .u64 (limb c 3 : Int)]) (.int .i64 0)).run Tryd.prog w = .ok (.int .u64 (limb c 0 : Int)) w := fun _ => by kernel_rfl
              have hor := bits_or_nat u2 (limb c 0) hu2 (limb_lt c 0)
              have HX := hid (or_step H2.out (Iff.refl (limb c 0 = 0)))
              have hul := Nat.or_lt_two_pow (n := 64) hu2 (limb_lt c 0)
              obtain ⟨u3, hu3⟩ : ∃ z, u2 ||| limb c 0 = z := ⟨_, rfl⟩
              rw [hu3] at hor HX hul
              clear hu3
              go_wp2
              go_roundw
              case rel => exact ⟨1, by omega, by go_num, BW.out, u3, by first | rfl | rw [hor], hul, by rw [HX.out, lzr_next c 0, and_assoc]⟩
              case measure => simp [intOf]
            | 1, _ =>
              have hix : ∀ w, (Instr.index 29 (.agg #[.int .u64 (limb c 0 : Int), .int .u64 (limb c 1 : Int), .int .u64 (limb c 2 : Int), .int .u64 (limb c 3 : Int)]) (.int .i64 ((1 : Nat) : Int))).run Tryd.prog w = .ok (.int .u64 (limb c 1 : Int)) w := fun _ => by kernel_rfl
              have hiy : ∀ w, (Instr.index 29 (.agg #[.int .u64 (limb c 0 : Int), .int .u64 (limb c 1 : Int), .int .u64 (limb c 2 : Int), .int .u64 (limb c 3 : Int)]) (.int .i64 1)).run Tryd.prog w = .ok (.int .u64 (limb c 1 : Int)) w := fun _ => by kernel_rfl
              have hor := bits_or_nat u2 (limb c 1) hu2 (limb_lt c 1)
              have HX := hid (or_step H2.out (Iff.refl (limb c 1 = 0)))
              have hul := Nat.or_lt_two_pow (n := 64) hu2 (limb_lt c 1)
              obtain ⟨u3, hu3⟩ : ∃ z, u2 ||| limb c 1 = z := ⟨_, rfl⟩
              rw [hu3] at hor HX hul
              clear hu3
              go_wp2
              go_roundw
              case rel => exact ⟨2, by omega, by go_num, BW.out, u3, by first | rfl | rw [hor], hul, by rw [HX.out, lzr_next c 1, and_assoc]⟩
              case measure => simp [intOf]
            | 2, _ =>
              have hix : ∀ w, (Instr.index 29 (.agg #[.int .u64 (limb c 0 : Int), .int .u64 (limb c 1 : Int), .int .u64 (limb c 2 : Int), .int .u64 (limb c 3 : Int)]) (.int .i64 ((2 : Nat) : Int))).run Tryd.prog w = .ok (.int .u64 (limb c 2 : Int)) w := fun _ => by kernel_rfl
              have hiy : ∀ w, (Instr.index 29 (.agg #[.int .u64 (limb c 0 : Int), .int .u64 (limb c 1 : Int), .int .u64 (limb c 2 : Int), .int .u64 (limb c 3 : Int)]) (.int .i64 2)).run Tryd.prog w = .ok (.int .u64 (limb c 2 : Int)) w := fun _ => by kernel_rfl
              have hor := bits_or_nat u2 (limb c 2) hu2 (limb_lt c 2)
              have HX := hid (or_step H2.out (Iff.refl (limb c 2 = 0)))
              have hul := Nat.or_lt_two_pow (n := 64) hu2 (limb_lt c 2)
              obtain ⟨u3, hu3⟩ : ∃ z, u2 ||| limb c 2 = z := ⟨_, rfl⟩
              rw [hu3] at hor HX hul
              clear hu3
              go_wp2
              go_roundw
              case rel => exact ⟨3, by omega, by go_num, BW.out, u3, by first | rfl | rw [hor], hul, by rw [HX.out, lzr_next c 2, and_assoc]⟩
              case measure => simp [intOf]
            | 3, _ =>
              have hix : ∀ w, (Instr.index 29 (.agg #[.int .u64 (limb c 0 : Int), .int .u64 (limb c 1 : Int), .int .u64 (limb c 2 : Int), .int .u64 (limb c 3 : Int)]) (.int .i64 ((3 : Nat) : Int))).run Tryd.prog w = .ok (.int .u64 (limb c 3 : Int)) w := fun _ => by kernel_rfl
              have hiy : ∀ w, (Instr.index 29 (.agg #[.int .u64 (limb c 0 : Int), .int .u64 (limb c 1 : Int), .int .u64 (limb c 2 : Int), .int .u64 (limb c 3 : Int)]) (.int .i64 3)).run Tryd.prog w = .ok (.int .u64 (limb c 3 : Int)) w := fun _ => by kernel_rfl
              have hor := bits_or_nat u2 (limb c 3) hu2 (limb_lt c 3)
              have HX := hid (or_step H2.out (Iff.refl (limb c 3 = 0)))
              have hul := Nat.or_lt_two_pow (n := 64) hu2 (limb_lt c 3)
              obtain ⟨u3, hu3⟩ : ∃ z, u2 ||| limb c 3 = z := ⟨_, rfl⟩
              rw [hu3] at hor HX hul
              clear hu3
              go_wp2
              go_roundw
              case rel => exact ⟨4, by omega, by go_num, BW.out, u3, by first | rfl | rw [hor], hul, by rw [HX.out, lzr_next c 3, and_assoc]⟩
              case measure => simp [intOf]
          · skip
            have e_q : q = 4 := by omega
            clear hq
            subst e_q
            obtain ⟨u2, rfl, hu2, H2⟩ := HM_q.out
            have H2 := hid H2
            clear HM_q
            go_wp2
            go_roundw
            case rel => exact ⟨i + 1, by omega, by go_num, BW.out, u2, rfl, hu2, by rw [H2.out, blw_next (show ¬ (i : Int) < k by omega), HC.out, lzr_four HCL.out]⟩
            case measure => simp [intOf]; omega
    · skip
      obtain rfl : n = i := by omega
      clear hi
      obtain ⟨u, rfl, hu, HU⟩ := HM_i.out
      have HU := hid HU
      clear HM_i
      have hor : orl [u] = u := by have := orl_snoc [] u; rw [orl_nil, Nat.zero_or] at this; exact this
      have HI := hid (fun (W : World) (v : Value) (h : WordSl W v [u]) => (isz_any v _ W h (by simp)).mono (R' := Ret (.int .u64 (zmk (orl [u]) : Int)) W) (by rintro e w' ⟨rfl, rfl⟩; exact ⟨rfl, Below.refl _ _⟩))
      rw [hor, bmk_zmk (by rw [HN.out]; exact HU.out)] at HI
      clear hor
      have HUL := hid hu
      go_wp2_with fail
      obtain ⟨v3, hv9⟩ : ∃ v, (v1.alloc (.cells #[.int .u64 (u : Int)] 27)) = v := ⟨_, rfl⟩
      have hG9 : Below v1.heap.size v1 v3 := by rw [← hv9]; go_grown
      have X_U : Blk v3 (v1.heap.size) 27 [.int .u64 (u : Int)] := by rw [← hv9]; exact Blk.new rfl
      obtain ⟨bU, hb9⟩ : ∃ k, v1.heap.size = k := ⟨_, rfl⟩
      rw [hb9] at X_U
      have g_bU : w.heap.size ≤ bU := by rw [← hb9]; exact BW.out.size
      replace BW := hid (BW.out.trans (hG9.mono BW.out.size))
      clear hG9
      rw [hv9]
      try rw [hb9]
      clear hv9 hb9
      refine (HI.out _ _ ⟨_, _, rfl, by simp, .inr ⟨_, _, rfl, fun j y hy => ?_⟩⟩).mono ?_
      · match j, hy with
        | 0, hy => cases hy; exact ⟨HUL.out, X_U.cell (i := 0) rfl⟩
      rintro e v4 ⟨rfl, b9⟩
      replace X_U := X_U.keep b9
      replace BW := hid (BW.out.trans (b9.mono BW.out.size))
      clear b9
      go_wp2
      refine bodyPost_ret (by simp only [results, Tryd.results29]; go_simp; try rfl) rfl ?_
      exact ⟨rfl, BW.out⟩
set_option maxRecDepth 100000 in
set_option maxHeartbeats 2000000 in
theorem fits_bad (b : Bool) (v u : Value) (xs : List Int) (ys : List Nat) (k : Int) (w : World) (hS : IntSl w v xs) (hU : NumSl w u (ys.map (frm (fP b)))) (hl : xs.length < 1000000) (hc : chkx xs ≠ 0) :
    Calls Tryd.prog 17 #[.pointer none, FV b, v, u, .int .i64 k] w (Ret (.tuple #[.int .u64 0, .int .i64 (chkx xs)]) w) := by
  have BW := hid (Below.refl w.heap.size w)
  have HS := hid hS
  have HU := hid hU
  have IC := hid (fun (W : World) (h : IntSl W v xs) (h2 : NumSl W u (ys.map (frm (fP b)))) => itp_bad b v u xs ys W h h2 hl hc)
  obtain ⟨c, hc9⟩ : ∃ c, chkx xs = c := ⟨_, rfl⟩
  rw [hc9] at hc IC ⊢
  clear hc9
  have hd : (c != 0) = true := by simp [hc]
  go_enter Tryd.func17, Tryd.ntmps17
  go_wp2_with fail
  obtain ⟨v1, hv9⟩ : ∃ v, (w.alloc (.cells #[.int .i64 (fID b), .int .u64 (limb (fP b) 0 : Int), .int .u64 (limb (fP b) 1 : Int), .int .u64 (limb (fP b) 2 : Int), .int .u64 (limb (fP b) 3 : Int), .int .u64 (fI b : Int), .int .u64 (limb (fO b) 0 : Int), .int .u64 (limb (fO b) 1 : Int), .int .u64 (limb (fO b) 2 : Int), .int .u64 (limb (fO b) 3 : Int), .int .u64 (limb (fS b) 0 : Int), .int .u64 (limb (fS b) 1 : Int), .int .u64 (limb (fS b) 2 : Int), .int .u64 (limb (fS b) 3 : Int)] 31)) = v := ⟨_, rfl⟩
  have hG9 : Below w.heap.size w v1 := by rw [← hv9]; go_grown
  have X_F : Blk v1 (w.heap.size) 31 [.int .i64 (fID b), .int .u64 (limb (fP b) 0 : Int), .int .u64 (limb (fP b) 1 : Int), .int .u64 (limb (fP b) 2 : Int), .int .u64 (limb (fP b) 3 : Int), .int .u64 (fI b : Int), .int .u64 (limb (fO b) 0 : Int), .int .u64 (limb (fO b) 1 : Int), .int .u64 (limb (fO b) 2 : Int), .int .u64 (limb (fO b) 3 : Int), .int .u64 (limb (fS b) 0 : Int), .int .u64 (limb (fS b) 1 : Int), .int .u64 (limb (fS b) 2 : Int), .int .u64 (limb (fS b) 3 : Int)] := by rw [← hv9]; exact Blk.new rfl
  obtain ⟨bF, hb9⟩ : ∃ k, w.heap.size = k := ⟨_, rfl⟩
  rw [hb9] at X_F
  have g_bF : w.heap.size ≤ bF := by rw [← hb9]; exact BW.out.size
  replace BW := hid (BW.out.trans (hG9.mono BW.out.size))
  clear hG9
  rw [hv9]
  try rw [hb9]
  clear hv9 hb9
  refine (IC.out _ (HS.out.below BW.out) (HU.out.below BW.out)).mono ?_
  rintro e v2 ⟨rfl, b9⟩
  replace X_F := X_F.keep b9
  replace BW := hid (BW.out.trans (b9.mono BW.out.size))
  clear b9
  go_wp2
  refine bodyPost_ret (by simp only [results, Tryd.results17]; go_simp; try rfl) rfl ?_
  exact ⟨rfl, BW.out⟩
set_option maxRecDepth 100000 in
set_option maxHeartbeats 2000000 in
theorem fits_len (b : Bool) (v u : Value) (xs : List Int) (ys : List Nat) (k : Int) (w : World) (hS : IntSl w v xs) (hU : NumSl w u (ys.map (frm (fP b)))) (hl : xs.length < 1000000) (hc : chkx xs = 0) (hne : xs.length ≠ ys.length) (hl2 : ys.length < 1000000) :
    Calls Tryd.prog 17 #[.pointer none, FV b, v, u, .int .i64 k] w (Ret (.tuple #[.int .u64 0, .int .i64 8]) w) := by
  have BW := hid (Below.refl w.heap.size w)
  have HS := hid hS
  have HU := hid hU
  have IC := hid (fun (W : World) (h : IntSl W v xs) (h2 : NumSl W u (ys.map (frm (fP b)))) => itp_len9 b v u xs ys W h h2 hl hc hne hl2)
  go_enter Tryd.func17, Tryd.ntmps17
  go_wp2_with fail
  obtain ⟨v1, hv9⟩ : ∃ v, (w.alloc (.cells #[.int .i64 (fID b), .int .u64 (limb (fP b) 0 : Int), .int .u64 (limb (fP b) 1 : Int), .int .u64 (limb (fP b) 2 : Int), .int .u64 (limb (fP b) 3 : Int), .int .u64 (fI b : Int), .int .u64 (limb (fO b) 0 : Int), .int .u64 (limb (fO b) 1 : Int), .int .u64 (limb (fO b) 2 : Int), .int .u64 (limb (fO b) 3 : Int), .int .u64 (limb (fS b) 0 : Int), .int .u64 (limb (fS b) 1 : Int), .int .u64 (limb (fS b) 2 : Int), .int .u64 (limb (fS b) 3 : Int)] 31)) = v := ⟨_, rfl⟩
  have hG9 : Below w.heap.size w v1 := by rw [← hv9]; go_grown
  have X_F : Blk v1 (w.heap.size) 31 [.int .i64 (fID b), .int .u64 (limb (fP b) 0 : Int), .int .u64 (limb (fP b) 1 : Int), .int .u64 (limb (fP b) 2 : Int), .int .u64 (limb (fP b) 3 : Int), .int .u64 (fI b : Int), .int .u64 (limb (fO b) 0 : Int), .int .u64 (limb (fO b) 1 : Int), .int .u64 (limb (fO b) 2 : Int), .int .u64 (limb (fO b) 3 : Int), .int .u64 (limb (fS b) 0 : Int), .int .u64 (limb (fS b) 1 : Int), .int .u64 (limb (fS b) 2 : Int), .int .u64 (limb (fS b) 3 : Int)] := by rw [← hv9]; exact Blk.new rfl
  obtain ⟨bF, hb9⟩ : ∃ k, w.heap.size = k := ⟨_, rfl⟩
  rw [hb9] at X_F
  have g_bF : w.heap.size ≤ bF := by rw [← hb9]; exact BW.out.size
  replace BW := hid (BW.out.trans (hG9.mono BW.out.size))
  clear hG9
  rw [hv9]
  try rw [hb9]
  clear hv9 hb9
  refine (IC.out _ (HS.out.below BW.out) (HU.out.below BW.out)).mono ?_
  rintro e v2 ⟨rfl, b9⟩
  replace X_F := X_F.keep b9
  replace BW := hid (BW.out.trans (b9.mono BW.out.size))
  clear b9
  go_wp2
  refine bodyPost_ret (by simp only [results, Tryd.results17]; go_simp; try rfl) rfl ?_
  exact ⟨rfl, BW.out⟩
theorem blw_forms (b : Bool) (l : List Nat) (hl : ∀ y ∈ l, y < fP b) (k : Int) (n : Nat) : blw (l.map (frm (fP b))) k n ↔ blw l k n := by
  have key : ∀ i, (l.map (frm (fP b))).getD i 0 = 0 ↔ l.getD i 0 = 0 := fun i => by
    rw [getD_frm]
    exact frm_eq_zero (fP_inv b) (getD_lt (by have := fP_two b; omega) hl i)
  exact ⟨fun h i hi hk => (key i).1 (h i hi hk), fun h i hi hk => (key i).2 (h i hi hk)⟩
theorem bmk_forms (b : Bool) (l : List Nat) (hl : ∀ y ∈ l, y < fP b) (k : Int) : bmk (l.map (frm (fP b))) k = bmk l k := by
  unfold bmk
  rw [veil_eq, veil_eq]
  by_cases h : blw l k l.length
  · rw [if_pos h, if_pos (by rw [List.length_map]; exact (blw_forms b l hl k _).2 h)]
  · rw [if_neg h, if_neg (fun h9 => h (by rw [List.length_map] at h9; exact (blw_forms b l hl k _).1 h9))]
set_option maxRecDepth 100000 in
set_option maxHeartbeats 2000000 in
theorem fits_ok (b : Bool) (v u : Value) (xs : List Int) (ys : List Nat) (k : Int) (w : World) (hS : IntSl w v xs) (hU : NumSl w u (ys.map (frm (fP b)))) (hl : xs.length < 10000) (hc : chkx xs = 0) (he : xs.length = ys.length) :
    Calls Tryd.prog 17 #[.pointer none, FV b, v, u, .int .i64 k] w (Ret (.tuple #[.int .u64 (bmk (itp (fP b) (pts xs) ys xs.length) k : Int), .int .i64 0]) w) := by
  have BW := hid (Below.refl w.heap.size w)
  have HS := hid hS
  have HU := hid hU
  have IC := hid (fun (W : World) (h : IntSl W v xs) (h2 : NumSl W u (ys.map (frm (fP b)))) => itp_ok b v u xs ys W h h2 hl hc he)
  unfold RetE at IC
  have hp2 := fP_two b
  have HIL := hid (itp_lt (p := fP b) (by omega) (pts xs) ys xs.length)
  have HLN : Hid ((itp (fP b) (pts xs) ys xs.length).length < 1000000) := hid (by rw [itp_len (by omega) (pts xs) ys _ (by rw [pts_len]; exact Nat.le_refl _), pts_len]; omega)
  obtain ⟨ui, hui⟩ : ∃ z, itp (fP b) (pts xs) ys xs.length = z := ⟨_, rfl⟩
  rw [hui] at IC HIL HLN ⊢
  clear hui
  have BC := hid (fun (W : World) (v : Value) (h : NumSl W v (ui.map (frm (fP b)))) => below_any v (ui.map (frm (fP b))) k W h (by rw [List.length_map]; exact HLN.out))
  rw [bmk_forms b ui HIL.out] at BC
  go_enter Tryd.func17, Tryd.ntmps17
  go_wp2_with fail
  obtain ⟨v1, hv9⟩ : ∃ v, (w.alloc (.cells #[.int .i64 (fID b), .int .u64 (limb (fP b) 0 : Int), .int .u64 (limb (fP b) 1 : Int), .int .u64 (limb (fP b) 2 : Int), .int .u64 (limb (fP b) 3 : Int), .int .u64 (fI b : Int), .int .u64 (limb (fO b) 0 : Int), .int .u64 (limb (fO b) 1 : Int), .int .u64 (limb (fO b) 2 : Int), .int .u64 (limb (fO b) 3 : Int), .int .u64 (limb (fS b) 0 : Int), .int .u64 (limb (fS b) 1 : Int), .int .u64 (limb (fS b) 2 : Int), .int .u64 (limb (fS b) 3 : Int)] 31)) = v := ⟨_, rfl⟩
  have hG9 : Below w.heap.size w v1 := by rw [← hv9]; go_grown
  have X_F : Blk v1 (w.heap.size) 31 [.int .i64 (fID b), .int .u64 (limb (fP b) 0 : Int), .int .u64 (limb (fP b) 1 : Int), .int .u64 (limb (fP b) 2 : Int), .int .u64 (limb (fP b) 3 : Int), .int .u64 (fI b : Int), .int .u64 (limb (fO b) 0 : Int), .int .u64 (limb (fO b) 1 : Int), .int .u64 (limb (fO b) 2 : Int), .int .u64 (limb (fO b) 3 : Int), .int .u64 (limb (fS b) 0 : Int), .int .u64 (limb (fS b) 1 : Int), .int .u64 (limb (fS b) 2 : Int), .int .u64 (limb (fS b) 3 : Int)] := by rw [← hv9]; exact Blk.new rfl
  obtain ⟨bF, hb9⟩ : ∃ k, w.heap.size = k := ⟨_, rfl⟩
  rw [hb9] at X_F
  have g_bF : w.heap.size ≤ bF := by rw [← hb9]; exact BW.out.size
  replace BW := hid (BW.out.trans (hG9.mono BW.out.size))
  clear hG9
  rw [hv9]
  try rw [hb9]
  clear hv9 hb9
  refine (IC.out _ (HS.out.below BW.out) (HU.out.below BW.out)).mono ?_
  rintro e v2 ⟨vi, rfl, ho, b9⟩
  have N_i := hid (nums_own (xs := ui.map (frm (fP b))) ho (small9 (forms9 b _)))
  clear ho
  replace X_F := X_F.keep b9
  replace BW := hid (BW.out.trans (b9.mono BW.out.size))
  clear b9
  go_wp2_with fail
  refine (BC.out _ _ N_i.out).mono ?_
  rintro e v3 ⟨rfl, b9⟩
  replace X_F := X_F.keep b9
  replace N_i := hid (N_i.out.below b9)
  replace BW := hid (BW.out.trans (b9.mono BW.out.size))
  clear b9
  go_wp2
  refine bodyPost_ret (by simp only [results, Tryd.results17]; go_simp; try rfl) rfl ?_
  exact ⟨rfl, BW.out⟩
end Go.Proofs.YtogenbggjodcnaaDoor
