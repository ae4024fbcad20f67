/-
  The entry of a table with an index.
-/
import Derived.Test.YtogenbggjodcnaaDoorPowT
import Derived.Test.YtogenbggjodcnaaDoorSet4
namespace Go.Proofs.YtogenbggjodcnaaDoor
open Go.RowKit

theorem nums_take {l : List Nat} {k z : Nat} (h : l[k]? = some z) : List.take 4 (List.drop (k * 4) (nums l)) = limbs z := by
  refine List.ext_getElem? fun i => ?_
  by_cases hi : i < 4
  · rw [List.getElem?_take_of_lt hi, List.getElem?_drop, nums_get l k z h i hi, limbs_get z hi]
  · rw [List.getElem?_eq_none (by simp; omega), List.getElem?_eq_none (by simp; omega)]
theorem run_index_tbl {l : List Nat} {k z : Nat} (hk : k < 16) (hz : l[k]? = some z) (w : World) :
    (Instr.index 192 (.agg (nums l).toArray) (.int .i64 (k : Int))).run Tryd.prog w = .ok (vec z) w := by
  have h1 : (0 : Int) ≤ (k : Int) ∧ (k : Int) < ((16 : Nat) : Int) := by omega
  simp [Instr.index, run_underlying Tryd.underlying192, asIntOf, h1, part, go_sem]
  rw [if_pos hk, nums_take hz]
theorem run_conv_u64 (k : Nat) (hk : k < 16) : IntKind.u64.wrap (k : Int) = (k : Int) := by rw [IntKind.wrap_u64]; omega
set_option maxRecDepth 100000 in
set_option maxHeartbeats 2000000 in
theorem scan_any (l : List Nat) (i : Nat) (hl : l.length = 16) (hi : i < 16) (w : World) :
    Calls Tryd.prog 151 #[.agg (nums l).toArray, .pointer none, .int .u64 (i : Int)] w (Ret (vec (l.getD i 0)) w) := by
  have BW := hid (Below.refl w.heap.size w)
  have HIX := hid (fun (k z : Nat) (hk : k < 16) (hz : l[k]? = some z) (w : World) => run_index_tbl hk hz w)
  have HLN := hid (show (nums l).length = 64 by rw [nums_len, hl])
  obtain ⟨L, hL⟩ : ∃ L, nums l = L := ⟨_, rfl⟩
  rw [hL] at HIX HLN ⊢
  clear hL
  have HSZ : Hid ((Tryd.prog.info? 192).map (·.size) = some L.length) := hid (by rw [HLN.out]; exact info_tbl)
  have HEL := hid hl
  clear hl
  go_enter Tryd.func151, Tryd.ntmps151
  have HRG : Hid (((w.alloc (.cells L.toArray 192)).alloc (.cells #[.int .u64 0, .int .u64 0, .int .u64 0, .int .u64 0] 29)).rangeAt w.heap.size 0 L) := hid (fun j v h => by rw [Nat.zero_add]; exact Blk.cell (b := w.heap.size) (t := 192) (Blk.alloc (Blk.new rfl) _) h)
  go_wp2_with (refine wpList_load_mid rfl 192 _ rfl w.heap.size 0 rfl L _ HRG.out Tryd.underlying192 rfl HSZ.out ?_)
  obtain ⟨v1, hv9⟩ : ∃ v, (w.alloc (.cells L.toArray 192)).alloc (.cells #[.int .u64 0, .int .u64 0, .int .u64 0, .int .u64 0] 29) = v := ⟨_, rfl⟩
  have B1 : Below w.heap.size w v1 := by rw [← hv9]; go_grown
  have X_r : Blk v1 (w.heap.size + 1) 29 [.int .u64 0, .int .u64 0, .int .u64 0, .int .u64 0] := by rw [← hv9]; exact Blk.new (by simp)
  rw [hv9]
  clear hv9 HRG
  obtain ⟨b, hb⟩ : ∃ b, w.heap.size + 1 = b := ⟨_, rfl⟩
  rw [hb] at X_r ⊢
  have hwb : w.heap.size ≤ b := by omega
  obtain ⟨tc, htc⟩ : ∃ tc, L.toArray = tc := ⟨_, rfl⟩
  rw [htc] at HIX ⊢
  clear htc HSZ HLN hb
  go_loopw [10] (fun q wr => ∃ k : Nat, k ≤ 16 ∧ q = .int .i64 (k : Int) ∧ Blk wr b 29 (limbs (if i < k then l.getD i 0 else 0)) ∧ Below w.heap.size w wr) (fun q _ => 16 - (intOf q).toNat)
  case atStart => exact ⟨0, Nat.zero_le _, rfl, by rw [if_neg (by omega), limbs_0]; exact X_r, B1⟩
  case round =>
    obtain ⟨k, hk, rfl, X, hB⟩ := hrel
    clear X_r B1
    by_cases hlt : k < 16
    · obtain ⟨z, hz⟩ : ∃ z, l[k]? = some z := ⟨l[k]'(by rw [HEL.out]; omega), List.getElem?_eq_getElem _⟩
      have hix := HIX.out k z hlt hz
      have hcv := run_conv_u64 k hlt
      have HGD : Hid (l.getD k 0 = z) := hid (getD_some hz)
      obtain ⟨p, hp⟩ : ∃ p, (if i < k then l.getD i 0 else 0) = p := ⟨_, rfl⟩
      rw [hp] at X
      have HP := hid hp
      have HE := hid (fun W : World => equal_any i k (by unfold B64; omega) (by unfold B64; omega) W)
      have HC := hid (fun W : World => mtake_any (zmk (i ^^^ k)) z p (zmk_lt _) W)
      obtain ⟨r, hr⟩ : ∃ r, pick (zmk (i ^^^ k)) z p = r := ⟨_, rfl⟩
      rw [hr] at HC
      have HR : Hid (r = if i < k + 1 then l.getD i 0 else 0) := hid (by
        rw [← hr, pick_zmk, ← hp]
        by_cases e : i = k
        · rw [if_pos ((xor_zero i k).2 e), if_pos (by omega), e, HGD.out]
        · rw [if_neg (fun h => e ((xor_zero i k).1 h))]
          by_cases l2 : i < k
          · rw [if_pos l2, if_pos (by omega)]
          · rw [if_neg l2, if_neg (by omega)])
      obtain ⟨c, hc⟩ : ∃ c, zmk (i ^^^ k) = c := ⟨_, rfl⟩
      rw [hc] at HE HC
      have hki : (k : Int) < 16 := by omega
      have hki0 : (0 : Int) ≤ (k : Int) := by omega
      have zb := X.lt
      have HB := hid hB
      clear hz hp hr hc hB HGD
      go_wp2_with (go_at_call 64; refine (note_nil _ _ _ _).mono ?_; rintro e w' ⟨rfl, rfl⟩)
      obtain ⟨v2, hv9⟩ : ∃ v, wr.alloc (.cells #[.int .u64 (limb z 0 : Int), .int .u64 (limb z 1 : Int), .int .u64 (limb z 2 : Int), .int .u64 (limb z 3 : Int)] 29) = v := ⟨_, rfl⟩
      have X_z : Blk v2 wr.heap.size 29 [.int .u64 (limb z 0 : Int), .int .u64 (limb z 1 : Int), .int .u64 (limb z 2 : Int), .int .u64 (limb z 3 : Int)] := by rw [← hv9]; exact Blk.new rfl
      have G2 : Below wr.heap.size wr v2 := by rw [← hv9]; go_grown
      have X2 := X.keep G2
      have HB2 := hid (HB.out.trans (G2.mono HB.out.size))
      obtain ⟨bz, hbz⟩ : ∃ b, wr.heap.size = b := ⟨_, rfl⟩
      rw [hbz] at X_z zb
      rw [hv9, hbz]
      clear hv9 hbz G2 X HB
      have zp := X2.lt
      have zz := X_z.lt
      have p0 := X2.cell (i := 0) rfl
      have z0 := X_z.cell (i := 0) rfl
      have p1 := X2.cell (i := 1) rfl
      have z1 := X_z.cell (i := 1) rfl
      have p2 := X2.cell (i := 2) rfl
      have z2 := X_z.cell (i := 2) rfl
      have p3 := X2.cell (i := 3) rfl
      have z3 := X_z.cell (i := 3) rfl
      refine wp_region_soft (C := fun W' => Below v2.heap.size v2 W') 7 (by kernel_rfl) (by kernel_rfl) ((Below.refl _ _).drew) ?_
      simp only [List.take_succ_cons, List.take_zero, List.drop_succ_cons, List.drop_zero]
      refine wpQuiet_step (fun K hK => ?_)
      rw [if_pos (by rfl)]
      refine ⟨.int .u64 (i : Int), fun W' hW => ?_, hK _ ?_⟩
      · go_simp
      clear hK K
      simp only [Act.put, List.setIfInBounds_toArray, List.set_cons_zero, List.set_cons_succ]
      refine wpQuiet_step (fun K hK => ?_)
      rw [if_pos (by rfl)]
      refine ⟨.int .i64 (k : Int), fun W' hW => ?_, hK _ ?_⟩
      · go_simp
      clear hK K
      simp only [Act.put, List.setIfInBounds_toArray, List.set_cons_zero, List.set_cons_succ]
      refine wpQuiet_step (fun K hK => ?_)
      rw [if_pos (by rfl)]
      refine ⟨.int .u64 (k : Int), fun W' hW => ?_, hK _ ?_⟩
      · go_simp
      clear hK K
      simp only [Act.put, List.setIfInBounds_toArray, List.set_cons_zero, List.set_cons_succ]
      refine wpQuiet_step (fun K hK => ?_)
      rw [if_pos (by rfl)]
      refine ⟨.int .u64 (c : Int), fun W' hW => ?_, hK _ ?_⟩
      · go_simp
        refine (HE.out _).mono ?_
        rintro e w' ⟨rfl, b⟩
        exact ⟨rfl, hW.trans (b.mono hW.size)⟩
      clear hK K
      simp only [Act.put, List.setIfInBounds_toArray, List.set_cons_zero, List.set_cons_succ]
      refine wpQuiet_step (fun K hK => ?_)
      rw [if_pos (by rfl)]
      refine ⟨vec z, fun W' hW => ?_, hK _ ?_⟩
      · have e0 := (hW.cell (p := ⟨bz, 0, none⟩) zz).trans z0
        have e1 := (hW.cell (p := ⟨bz, 1, none⟩) zz).trans z1
        have e2 := (hW.cell (p := ⟨bz, 2, none⟩) zz).trans z2
        have e3 := (hW.cell (p := ⟨bz, 3, none⟩) zz).trans z3
        go_simp
      clear hK K
      simp only [Act.put, List.setIfInBounds_toArray, List.set_cons_zero, List.set_cons_succ]
      refine wpQuiet_step (fun K hK => ?_)
      rw [if_pos (by rfl)]
      refine ⟨vec p, fun W' hW => ?_, hK _ ?_⟩
      · have e0 := (hW.cell (p := ⟨b, 0, none⟩) zp).trans p0
        have e1 := (hW.cell (p := ⟨b, 1, none⟩) zp).trans p1
        have e2 := (hW.cell (p := ⟨b, 2, none⟩) zp).trans p2
        have e3 := (hW.cell (p := ⟨b, 3, none⟩) zp).trans p3
        go_simp
      clear hK K
      simp only [Act.put, List.setIfInBounds_toArray, List.set_cons_zero, List.set_cons_succ]
      refine wpQuiet_step (fun K hK => ?_)
      rw [if_pos (by rfl)]
      refine ⟨vec r, fun W' hW => ?_, hK _ ?_⟩
      · go_simp
        refine (HC.out _).mono ?_
        rintro e w' ⟨rfl, b⟩
        exact ⟨rfl, hW.trans (b.mono hW.size)⟩
      clear hK K
      simp only [Act.put, List.setIfInBounds_toArray, List.set_cons_zero, List.set_cons_succ]
      refine wpQuiet_nil ?_
      intro W3 hW3
      have X3 := X2.below hW3 zp
      have HB3 := hid (HB2.out.trans (hW3.mono HB2.out.size))
      have z3 := X3.lt
      have u0 := X3.cell (i := 0) rfl
      have f0 := X3.frozen 0
      have u1 := X3.cell (i := 1) rfl
      have f1 := X3.frozen 1
      have u2 := X3.cell (i := 2) rfl
      have f2 := X3.frozen 2
      have u3 := X3.cell (i := 3) rfl
      have f3 := X3.frozen 3
      clear p0 p1 p2 p3 z0 z1 z2 X2 X_z hix hcv
      go_wp2
      go_roundw
      case rel => exact ⟨k + 1, by omega, by go_num, by rw [← HR.out]; exact X3.set4 (.int .u64 (limb r 0 : Int)) (.int .u64 (limb r 1 : Int)) (.int .u64 (limb r 2 : Int)) (.int .u64 (limb r 3 : Int)), below_set4 HB3.out hwb (.int .u64 (limb r 0 : Int)) (.int .u64 (limb r 1 : Int)) (.int .u64 (limb r 2 : Int)) (.int .u64 (limb r 3 : Int))⟩
      case measure => simp [intOf]; omega
    · obtain rfl : k = 16 := by omega
      rw [if_pos hi] at X
      obtain ⟨r, hr⟩ : ∃ r, l.getD i 0 = r := ⟨_, rfl⟩
      rw [hr] at X
      have HR := hid hr
      have zb := X.lt
      have HB := hid hB
      clear hr hB
      have u0 := X.cell (i := 0) rfl
      have f0 := X.frozen 0
      have u1 := X.cell (i := 1) rfl
      have f1 := X.frozen 1
      have u2 := X.cell (i := 2) rfl
      have f2 := X.frozen 2
      have u3 := X.cell (i := 3) rfl
      have f3 := X.frozen 3
      go_wp2
      refine bodyPost_ret (by simp only [results, Tryd.results151]; go_simp; try rfl) rfl ?_
      exact ⟨by rw [HR.out], below_set4 HB.out hwb (.int .u64 (limb r 0 : Int)) (.int .u64 (limb r 1 : Int)) (.int .u64 (limb r 2 : Int)) (.int .u64 (limb r 3 : Int))⟩
end Go.Proofs.YtogenbggjodcnaaDoor
