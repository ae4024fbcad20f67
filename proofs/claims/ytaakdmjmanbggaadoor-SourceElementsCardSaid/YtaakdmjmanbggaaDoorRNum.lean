/-
  The reference: the number that 32 bytes represent.
-/
import Derived.Test.YtaakdmjmanbggaaDoorElems
import Derived.Deep.QuietTactic
namespace Go.Proofs.YtaakdmjmanbggaaDoor
open Go.RowKit

/-- 256 to the k. -/
noncomputable def up (k : Nat) : Nat := veil (256 ^ k)
theorem up_eq (k : Nat) : up k = 256 ^ k := veil_eq _
theorem up_zero : up 0 = 1 := up_eq 0
theorem up_mul {k : Nat} (hk : k < 7) : IntKind.u64.wrap ((up k : Int) * 256) = (up (k + 1) : Int) := by
  have h1 : 256 ^ (k + 1) ≤ 256 ^ 7 := Nat.pow_le_pow_right (by decide) hk
  have h2 : (256 : Nat) ^ 7 = 72057594037927936 := by decide
  have h3 := Nat.pow_succ 256 k
  rw [up_eq, up_eq, IntKind.wrap_u64]
  generalize 256 ^ k = x at *
  generalize 256 ^ (k + 1) = y at *
  omega
theorem up_byte {x r : Nat} (hx : x < 256) (hr : r < 8) : IntKind.u64.wrap ((x : Int) * (up r : Int)) = ((x * 256 ^ r : Nat) : Int) := by
  have h := byte_pow hx hr
  rw [up_eq, IntKind.wrap_u64, ← Int.natCast_mul]
  unfold B64 at h
  omega
theorem wd_plus {l : List Nat} (h : Byt l) (o : Nat) {r : Nat} (hr : r < 8) : IntKind.u64.wrap ((wd l o r : Int) + ((l.getD (o + r) 0 * 256 ^ r : Nat) : Int)) = (wd l o (r + 1) : Int) := by
  have h1 := wd_lt h o (k := r + 1) (by omega)
  have h2 := wd_add l o r
  rw [IntKind.wrap_u64]
  unfold B64 at h1
  omega
theorem wrap_byte {x : Nat} (h : x < 256) : IntKind.u64.wrap (x : Int) = (x : Int) := by rw [IntKind.wrap_u64]; omega
theorem wrap_q4 {q : Nat} (h : q < 4) : IntKind.i64.wrap (q : Int) = (q : Int) := by rw [IntKind.wrap_i64]; omega
theorem div8 {k q : Nat} (h : k / 8 = q) : (k : Int) / 8 = (q : Int) := by omega
theorem mod8 {k r : Nat} (h : k % 8 = r) : (k : Int) % 8 = (r : Int) := by omega
theorem clip_same {k q : Nat} (h : k / 8 = q) : min 8 (k - 8 * q) = k % 8 ∧ min 8 (k + 1 - 8 * q) = k % 8 + 1 := by omega
theorem clip_other {k q j : Nat} (h : k / 8 = q) (hj : j ≠ q) : min 8 (k + 1 - 8 * j) = min 8 (k - 8 * j) := by omega
set_option maxRecDepth 100000 in
set_option maxHeartbeats 4000000 in
theorem rnumber_any (v : Value) (l : List Nat) (hl : l.length = 32) (w : World) (hS : ByteSl w v l) :
    Calls Tryd.prog 36 #[v] w (Ret (vec (num l)) w) := by
  have BW := hid (Below.refl w.heap.size w)
  have N_b := hid hS
  have HBT := hid hS.byt
  obtain ⟨a, cap, rfl, hcap, _⟩ := id hS
  obtain ⟨g, off, rfl⟩ := hS.ptr (by omega)
  have HV := hid (num_vec hS.byt)
  have HLN := hid hl
  rw [hl] at N_b ⊢
  clear hS hl hcap
  go_enter Tryd.func36, Tryd.ntmps36
  go_wp2_with fail
  obtain ⟨v1, hv9⟩ : ∃ v, ((w.alloc (.cells #[.int .u64 0, .int .u64 0, .int .u64 0, .int .u64 0] 41)).alloc (.cells #[.int .u64 0, .int .u64 0, .int .u64 0, .int .u64 0] 41)) = v := ⟨_, rfl⟩
  have hG9 : Below w.heap.size w v1 := by rw [← hv9]; go_grown
  have X_R : Blk v1 (w.heap.size) 41 [.int .u64 0, .int .u64 0, .int .u64 0, .int .u64 0] := by rw [← hv9]; exact Blk.alloc (Blk.new rfl) _
  have X_O : Blk v1 (w.heap.size + 1) 41 [.int .u64 0, .int .u64 0, .int .u64 0, .int .u64 0] := by rw [← hv9]; exact Blk.new (by simp)
  obtain ⟨bR, hb9⟩ : ∃ k, w.heap.size = k := ⟨_, rfl⟩
  rw [hb9] at X_R
  rw [hb9] at X_O
  have g_bR : w.heap.size ≤ bR := by rw [← hb9]; exact BW.out.size
  replace N_b := hid (N_b.out.below hG9)
  replace BW := hid (BW.out.trans (hG9.mono BW.out.size))
  clear hG9
  rw [hv9]
  try rw [hb9]
  clear hv9 hb9
  go_loopw [4] (fun i wr => ∃ (k : Nat) (zs : List Value), k ≤ 32 ∧ i = .int .i64 (k : Int) ∧ Blk wr (bR + 1) 41 zs ∧ zs.length = 4 ∧ (∀ q, q < 4 → zs[q]? = some (.int .u64 (wd l (8 * q) (min 8 (k - 8 * q)) : Int))) ∧ Only (fun j => j = bR + 1) v1 wr) (fun i _ => 32 - (intOf i).toNat)
  case atStart => exact ⟨0, _, Nat.zero_le _, rfl, X_O, rfl, fun q hq => by rw [Nat.zero_sub, Nat.min_zero, wd_zero]; match q, hq with | 0, _ => rfl | 1, _ => rfl | 2, _ => rfl | 3, _ => rfl, Only.refl _ _⟩
  case round =>
    obtain ⟨k, zs, hk, rfl, hX, hz4, hz, hO⟩ := hrel
    have HX := hid hX
    have HZ4 := hid hz4
    have HZ := hid hz
    have ON := hid hO
    have zO := hX.lt
    have hBB := N_b.out.only ON.out (fun k o x hk => by subst hk; exact X_O.nobyte (words_nobyte 0 0 0 0) o x)
    have N_c := hid hBB
    clear hX hz4 hz hO hBB
    by_cases hlt : k < 32
    · skip
      obtain ⟨q, hq⟩ : ∃ q, k / 8 = q := ⟨_, rfl⟩
      obtain ⟨r, hr⟩ : ∃ r, k % 8 = r := ⟨_, rfl⟩
      have zq := div8 hq
      have zr := mod8 hr
      obtain ⟨e1, e2⟩ := clip_same hq
      have hq4 : q < 4 := by omega
      have hr8 : r < 8 := by omega
      have hqr : 8 * q + r = k := by omega
      rw [hr] at e1 e2
      have hzq := HZ.out q hq4
      rw [e1] at hzq
      have HZQ := hid hzq
      have HE2 := hid e2
      have HQ := hid hq
      have HQR := hid hqr
      clear e1 e2 hq hr hzq hqr
      obtain ⟨wo, hwo⟩ : ∃ v, v = wr := ⟨_, rfl⟩
      subst hwo
      go_wp2_with fail
      go_loopw [5, 6] (fun u i wy => ∃ j : Nat, j ≤ r ∧ i = .int .i64 (j : Int) ∧ u = .int .u64 (up j : Int) ∧ Below wo.heap.size wo wy) (fun _ i _ => r - (intOf i).toNat)
      case atStart => exact ⟨0, Nat.zero_le _, rfl, by rw [up_zero]; rfl, Below.refl _ _⟩
      case round =>
        obtain ⟨j, hj, rfl, rfl, hB⟩ := hrel
        have BY := hid hB
        clear hB
        by_cases hjr : j < r
        · skip
          have E := hid (up_mul (k := j) (by omega))
          go_wp2
          go_roundw
          case rel => exact ⟨j + 1, by omega, by go_num, by rw [E.out], BY.out⟩
          case measure => simp [intOf]; omega
        · skip
          obtain rfl : r = j := by omega
          have XO := HX.out.keep BY.out
          have cO := XO.cell HZQ.out
          have fO := XO.frozen q
          have zO2 := XO.lt
          have HXO := hid XO
          have N_d := hid (N_c.out.below BY.out)
          have cB := N_d.out.at (j := k) (by rw [HLN.out]; exact hlt)
          have zB := N_d.out.lt (by rw [HLN.out]; decide)
          have hx := HBT.out.getD k
          obtain ⟨x, hx9⟩ : ∃ x, l.getD k 0 = x := ⟨_, rfl⟩
          have E1 := up_byte hx hr8
          have E2 := wd_plus HBT.out (8 * q) hr8
          rw [HQR.out] at E2
          rw [hx9] at cB E1 E2 hx
          have zx : IntKind.u64.wrap (x : Int) = (x : Int) := wrap_byte hx
          obtain ⟨m, hm⟩ : ∃ m, x * 256 ^ r = m := ⟨_, rfl⟩
          rw [hm] at E1 E2
          obtain ⟨y, hy⟩ : ∃ y, wd l (8 * q) r = y := ⟨_, rfl⟩
          rw [hy] at cO E2
          obtain ⟨z, hz⟩ : ∃ z, wd l (8 * q) (r + 1) = z := ⟨_, rfl⟩
          rw [hz] at E2
          have hqi : (q : Int) < 4 := by omega
          have zqw : IntKind.i64.wrap (q : Int) = (q : Int) := wrap_q4 hq4
          have X_Z := HXO.out
          have hq0 : (0 : Int) ≤ (q : Int) := by omega
          have hki : (k : Int) < 32 := by omega
          have hk0 : (0 : Int) ≤ (k : Int) := by omega
          have HZZ := hid hz
          clear hx9 hm hy hz XO hx
          go_wp2_with fail
          refine wp_region_soft (C := fun W' => Below wr.heap.size wr W') 13 (by kernel_rfl) (by kernel_rfl) ((Below.refl _ _).drew) ?_
          simp only [List.take_succ_cons, List.take_zero, List.drop_succ_cons, List.drop_zero]
          refine wpQuiet_step (fun K hK => ?_)
          rw [if_pos (by rfl)]
          refine ⟨.int .i64 (k : Int), fun W' hW => ?_, hK _ ?_⟩
          · go_simp
          clear hK K
          simp only [Act.put, List.setIfInBounds_toArray, List.set_cons_zero, List.set_cons_succ]
          refine wpQuiet_step (fun K hK => ?_)
          rw [if_pos (by rfl)]
          refine ⟨.int .i64 (q : Int), fun W' hW => ?_, hK _ ?_⟩
          · go_simp
          clear hK K
          simp only [Act.put, List.setIfInBounds_toArray, List.set_cons_zero, List.set_cons_succ]
          refine wpQuiet_step (fun K hK => ?_)
          rw [if_pos (by rfl)]
          refine ⟨.pointer (some ⟨bR + 1, q, none⟩), fun W' hW => ?_, hK _ ?_⟩
          · go_simp
          clear hK K
          simp only [Act.put, List.setIfInBounds_toArray, List.set_cons_zero, List.set_cons_succ]
          refine wpQuiet_step (fun K hK => ?_)
          rw [if_pos (by rfl)]
          refine ⟨.int .u64 (y : Int), fun W' hW => ?_, hK _ ?_⟩
          · have e_0 := (hW.cell (p := ⟨bR + 1, q, none⟩) zO2).trans cO
            go_simp
          clear hK K
          simp only [Act.put, List.setIfInBounds_toArray, List.set_cons_zero, List.set_cons_succ]
          refine wpQuiet_step (fun K hK => ?_)
          rw [if_pos (by rfl)]
          refine ⟨.slice (some ⟨g, off, none⟩) 32 cap, fun W' hW => ?_, hK _ ?_⟩
          · go_simp
          clear hK K
          simp only [Act.put, List.setIfInBounds_toArray, List.set_cons_zero, List.set_cons_succ]
          refine wpQuiet_step (fun K hK => ?_)
          rw [if_pos (by rfl)]
          refine ⟨.int .i64 (k : Int), fun W' hW => ?_, hK _ ?_⟩
          · go_simp
          clear hK K
          simp only [Act.put, List.setIfInBounds_toArray, List.set_cons_zero, List.set_cons_succ]
          refine wpQuiet_step (fun K hK => ?_)
          rw [if_pos (by rfl)]
          refine ⟨.pointer (some ⟨g, off + k, none⟩), fun W' hW => ?_, hK _ ?_⟩
          · go_simp
          clear hK K
          simp only [Act.put, List.setIfInBounds_toArray, List.set_cons_zero, List.set_cons_succ]
          refine wpQuiet_step (fun K hK => ?_)
          rw [if_pos (by rfl)]
          refine ⟨.int .u8 (x : Int), fun W' hW => ?_, hK _ ?_⟩
          · have e_0 := (hW.cell (p := ⟨g, off + k, none⟩) zB).trans cB
            go_simp
          clear hK K
          simp only [Act.put, List.setIfInBounds_toArray, List.set_cons_zero, List.set_cons_succ]
          refine wpQuiet_step (fun K hK => ?_)
          rw [if_pos (by rfl)]
          refine ⟨.int .u64 (x : Int), fun W' hW => ?_, hK _ ?_⟩
          · go_simp
          clear hK K
          simp only [Act.put, List.setIfInBounds_toArray, List.set_cons_zero, List.set_cons_succ]
          refine wpQuiet_step (fun K hK => ?_)
          rw [if_pos (by rfl)]
          refine ⟨.int .u64 (up r : Int), fun W' hW => ?_, hK _ ?_⟩
          · go_simp
          clear hK K
          simp only [Act.put, List.setIfInBounds_toArray, List.set_cons_zero, List.set_cons_succ]
          refine wpQuiet_step (fun K hK => ?_)
          rw [if_pos (by rfl)]
          refine ⟨.int .u64 (m : Int), fun W' hW => ?_, hK _ ?_⟩
          · go_simp
          clear hK K
          simp only [Act.put, List.setIfInBounds_toArray, List.set_cons_zero, List.set_cons_succ]
          refine wpQuiet_step (fun K hK => ?_)
          rw [if_pos (by rfl)]
          refine ⟨.int .u64 (z : Int), fun W' hW => ?_, hK _ ?_⟩
          · go_simp
          clear hK K
          simp only [Act.put, List.setIfInBounds_toArray, List.set_cons_zero, List.set_cons_succ]
          refine wpQuiet_step (fun K hK => ?_)
          rw [if_pos (by rfl)]
          refine ⟨.pointer (some ⟨bR + 1, q, none⟩), fun W' hW => ?_, hK _ ?_⟩
          · go_simp
          clear hK K
          simp only [Act.put, List.setIfInBounds_toArray, List.set_cons_zero, List.set_cons_succ]
          refine wpQuiet_nil ?_
          intro ws0 hW9
          replace X_Z := X_Z.keep hW9
          replace BY := hid (BY.out.trans (hW9.mono BY.out.size))
          clear hW9
          clear cO fO zO2 cB zB
          have cO := X_Z.cell HZQ.out
          have fO := X_Z.frozen q
          have zO2 := X_Z.lt
          go_wp2
          go_roundw
          case rel => exact ⟨k + 1, _, by omega, by go_num, X_Z.set q _, by rw [List.length_set]; exact HZ4.out, fun j hj => by
            by_cases e : j = q
            · subst e
              rw [List.getElem?_set_self (by rw [HZ4.out]; exact hj), HE2.out, HZZ.out]
            · rw [List.getElem?_set_ne (Ne.symm e), clip_other HQ.out e]
              exact HZ.out j hj, (ON.out.call BY.out).setCell (p := ⟨bR + 1, q, none⟩) (.inl rfl) _⟩
          case measure => simp [intOf]; omega
    · skip
      obtain rfl : k = 32 := by omega
      obtain rfl := row_four (f := fun q => .int .u64 (wd l (8 * q) 8 : Int)) (fun q hq => by have := HZ.out q hq; rw [show min 8 (32 - 8 * q) = 8 by omega] at this; exact this) HZ4.out
      have XO := HX.out
      have XR := X_R.only ON.out (by omega)
      have zR := XR.lt
      have hB := BW.out.trans (ON.out.below (n := w.heap.size) (fun q e => by subst e; omega) BW.out.size)
      have zB := hB.size
      have cO0 := XO.cell (i := 0) rfl
      have cO1 := XO.cell (i := 1) rfl
      have cO2 := XO.cell (i := 2) rfl
      have cO3 := XO.cell (i := 3) rfl
      have cR0 := XR.cell (i := 0) rfl
      have cR1 := XR.cell (i := 1) rfl
      have cR2 := XR.cell (i := 2) rfl
      have cR3 := XR.cell (i := 3) rfl
      have fR0 := XR.frozen 0
      have fR1 := XR.frozen 1
      have fR2 := XR.frozen 2
      have fR3 := XR.frozen 3
      go_wp2
      refine bodyPost_ret (by simp only [results, Tryd.results36]; go_simp; try rfl) rfl ?_
      exact ⟨congrArg _ HV.out, by go_grown⟩
end Go.Proofs.YtaakdmjmanbggaaDoor
