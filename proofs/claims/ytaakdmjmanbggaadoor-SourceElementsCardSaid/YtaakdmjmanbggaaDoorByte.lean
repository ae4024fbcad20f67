/-
  Bytes in memory; the number that 32 bytes represent; the element of a number and of 64 random bytes.
-/
import Derived.Test.YtaakdmjmanbggaaDoorByteN
import Derived.Test.YtaakdmjmanbggaaDoorBase
import Derived.Test.YtaakdmjmanbggaaDoorMont
import Derived.Test.YtaakdmjmanbggaaDoorLimbs
namespace Go.Proofs.YtaakdmjmanbggaaDoor
open Go.RowKit

/-- Bytes as cells. -/
def bys (l : List Nat) : List Value := l.map fun x : Nat => .int .u8 (x : Int)
theorem bys_len (l : List Nat) : (bys l).length = l.length := by unfold bys; simp
theorem bys_get (l : List Nat) {j : Nat} (h : j < l.length) : (bys l)[j]? = some (.int .u8 (l.getD j 0 : Int)) := by
  unfold bys
  rw [List.getElem?_map, List.getElem?_eq_getElem h, List.getD_eq_getElem?_getD, List.getElem?_eq_getElem h]; rfl
theorem bys_append (a b : List Nat) : bys (a ++ b) = bys a ++ bys b := by unfold bys; simp

set_option maxRecDepth 100000 in
set_option maxHeartbeats 1000000 in
theorem word_any (g i : Nat) (l : List Nat) (hi : i < 4) (hl : l.length = 32) (hb : Byt l) (w : World) (hX : Blk w g 86 (bys l)) :
    Calls Tryd.prog 46 #[.int .i64 (i : Int), .pointer (some ⟨g, 0, none⟩)] w (Ret (.int .u64 (wd l (8 * i) 8 : Int)) w) := by
  have zi : IntKind.i64.wrap (8 * (i : Int)) = ((8 * i : Nat) : Int) := by rw [IntKind.wrap_i64]; omega
  have z0 := wd_zero l (8 * i)
  have HB := hid hb
  have HX := hid hX
  have zg := hX.lt
  clear hb hX
  go_enter Tryd.func46, Tryd.ntmps46
  go_wp2
  go_loopw [4, 6] (fun c j wr => ∃ k : Nat, k ≤ 8 ∧ j = .int .i64 (k : Int) ∧ c = .int .u64 (wd l (8 * i) k : Int) ∧ Below w.heap.size w wr) (fun _ j _ => 8 - (intOf j).toNat)
  case atStart => exact ⟨0, by omega, rfl, by rw [z0]; rfl, Below.refl _ _⟩
  case round =>
    obtain ⟨k, hk, rfl, rfl, hB⟩ := hrel
    have BW := hid hB
    by_cases hlt : k < 8
    · have zk : IntKind.i64.wrap (((8 * i : Nat) : Int) + (k : Int)) = ((8 * i + k : Nat) : Int) := by rw [IntKind.wrap_i64]; omega
      have zs : IntKind.i64.wrap (8 * (k : Int)) = ((8 * k : Nat) : Int) := by rw [IntKind.wrap_i64]; omega
      have X1 := (HX.out.below BW.out zg)
      have zg1 := X1.lt
      have cg := X1.cell (bys_get l (j := 8 * i + k) (by omega))
      have E1 := wd_bits HB.out (8 * i) hlt
      have hx := HB.out.getD (8 * i + k)
      obtain ⟨x, hx9⟩ : ∃ x, l.getD (8 * i + k) 0 = x := ⟨_, rfl⟩
      rw [hx9] at cg E1 hx
      have zx : IntKind.u64.wrap (x : Int) = (x : Int) := by rw [IntKind.wrap_u64]; omega
      replace E1 := hid E1
      clear X1 hx9 hx hB
      go_wp2
      go_roundw
      case rel => exact ⟨k + 1, by omega, by go_num, by rw [E1.out], BW.out⟩
      case measure => simp [intOf]; omega
    · obtain rfl : k = 8 := by omega
      clear hB
      go_wp2
      refine bodyPost_ret (by simp only [results, Tryd.results46]; go_simp; try rfl) rfl ?_
      exact ⟨rfl, BW.out⟩

-- PRINTED
set_option maxRecDepth 100000 in
set_option maxHeartbeats 2000000 in
theorem number_any (l : List Nat) (hl : l.length = 32) (hb : Byt l) (w : World) :
    Calls Tryd.prog 41 #[.agg (bys l).toArray] w (Ret (vec (num l)) w) := by
  have BW := hid (Below.refl w.heap.size w)
  have HV := hid (num_vec hb)
  have HB := hid hb
  clear hb
  go_enter Tryd.func41, Tryd.ntmps41
  go_wp2_with fail
  obtain ⟨v1, hv9⟩ : ∃ v, ((w.alloc (.cells (bys l).toArray 86)).alloc (.cells #[.int .u64 0, .int .u64 0, .int .u64 0, .int .u64 0] 41)) = v := ⟨_, rfl⟩
  have hG9 : Below w.heap.size w v1 := by rw [← hv9]; go_grown
  have X_A : Blk v1 (w.heap.size) 86 (bys l) := by rw [← hv9]; exact Blk.alloc (Blk.new rfl) _
  have X_R : Blk v1 (w.heap.size + 1) 41 [.int .u64 0, .int .u64 0, .int .u64 0, .int .u64 0] := by rw [← hv9]; exact Blk.new (by simp)
  obtain ⟨bA, hb9⟩ : ∃ k, w.heap.size = k := ⟨_, rfl⟩
  rw [hb9] at X_A
  rw [hb9] at X_R
  have g_bA : w.heap.size ≤ bA := by rw [← hb9]; exact BW.out.size
  replace BW := hid (BW.out.trans (hG9.mono BW.out.size))
  clear hG9
  rw [hv9]
  try rw [hb9]
  clear hv9 hb9
  refine (word_any _ 0 l (by decide) hl HB.out _ X_A).mono ?_
  rintro e v2 ⟨rfl, b9⟩
  replace X_A := X_A.keep b9
  replace X_R := X_R.keep b9
  replace BW := hid (BW.out.trans (b9.mono BW.out.size))
  clear b9
  go_wp2_with fail
  refine (word_any _ 1 l (by decide) hl HB.out _ X_A).mono ?_
  rintro e v3 ⟨rfl, b9⟩
  replace X_A := X_A.keep b9
  replace X_R := X_R.keep b9
  replace BW := hid (BW.out.trans (b9.mono BW.out.size))
  clear b9
  go_wp2_with fail
  refine (word_any _ 2 l (by decide) hl HB.out _ X_A).mono ?_
  rintro e v4 ⟨rfl, b9⟩
  replace X_A := X_A.keep b9
  replace X_R := X_R.keep b9
  replace BW := hid (BW.out.trans (b9.mono BW.out.size))
  clear b9
  go_wp2_with fail
  refine (word_any _ 3 l (by decide) hl HB.out _ X_A).mono ?_
  rintro e v5 ⟨rfl, b9⟩
  replace X_A := X_A.keep b9
  replace X_R := X_R.keep b9
  replace BW := hid (BW.out.trans (b9.mono BW.out.size))
  clear b9
  have z_R := X_R.lt
  have c_R0 := X_R.cell (i := 0) rfl
  have f_R0 := X_R.frozen 0
  have c_R1 := X_R.cell (i := 1) rfl
  have f_R1 := X_R.frozen 1
  have c_R2 := X_R.cell (i := 2) rfl
  have f_R2 := X_R.frozen 2
  have c_R3 := X_R.cell (i := 3) rfl
  have f_R3 := X_R.frozen 3
  have hBW := BW.out
  have zBW := hBW.size
  go_wp2
  refine bodyPost_ret (by simp only [results, Tryd.results41]; go_simp; try rfl) rfl ?_
  exact ⟨congrArg _ HV.out, by go_grown⟩

set_option maxRecDepth 100000 in
set_option maxHeartbeats 2000000 in
theorem to_any (b : Bool) (n : Nat) (hn : n < B256) (w : World) :
    Calls Tryd.prog 40 #[FV b, vec n] w (Ret (vec (frm (fP b) n)) w) := by
  have BW := hid (Below.refl w.heap.size w)
  have M := hid (fun W : World => mmul_any (fID b) (fP b) (fI b) (fO b) (fS b) n (fS b) (fOK b) hn (Nat.lt_trans (fS_lt b) (fP_lt b)) (Nat.mul_lt_mul_of_lt_of_lt hn (fS_lt b)) W)
  rw [mont_S] at M
  go_enter Tryd.func40, Tryd.ntmps40
  go_wp2_with fail
  obtain ⟨v1, hv9⟩ : ∃ v, (((w.alloc (.cells #[.int .i64 (fID b), .int .u64 (limb (fP b) 0 : Int), .int .u64 (limb (fP b) 1 : Int), .int .u64 (limb (fP b) 2 : Int), .int .u64 (limb (fP b) 3 : Int), .int .u64 (fI b : Int), .int .u64 (limb (fO b) 0 : Int), .int .u64 (limb (fO b) 1 : Int), .int .u64 (limb (fO b) 2 : Int), .int .u64 (limb (fO b) 3 : Int), .int .u64 (limb (fS b) 0 : Int), .int .u64 (limb (fS b) 1 : Int), .int .u64 (limb (fS b) 2 : Int), .int .u64 (limb (fS b) 3 : Int)] 44)).alloc (.cells #[.int .u64 (limb n 0 : Int), .int .u64 (limb n 1 : Int), .int .u64 (limb n 2 : Int), .int .u64 (limb n 3 : Int)] 41)).alloc (.cells #[.int .u64 0, .int .u64 0, .int .u64 0, .int .u64 0] 42)) = v := ⟨_, rfl⟩
  have hG9 : Below w.heap.size w v1 := by rw [← hv9]; go_grown
  have X_F : Blk v1 (w.heap.size) 44 [.int .i64 (fID b), .int .u64 (limb (fP b) 0 : Int), .int .u64 (limb (fP b) 1 : Int), .int .u64 (limb (fP b) 2 : Int), .int .u64 (limb (fP b) 3 : Int), .int .u64 (fI b : Int), .int .u64 (limb (fO b) 0 : Int), .int .u64 (limb (fO b) 1 : Int), .int .u64 (limb (fO b) 2 : Int), .int .u64 (limb (fO b) 3 : Int), .int .u64 (limb (fS b) 0 : Int), .int .u64 (limb (fS b) 1 : Int), .int .u64 (limb (fS b) 2 : Int), .int .u64 (limb (fS b) 3 : Int)] := by rw [← hv9]; exact Blk.alloc (Blk.alloc (Blk.new rfl) _) _
  have X_V : Blk v1 (w.heap.size + 1) 41 [.int .u64 (limb n 0 : Int), .int .u64 (limb n 1 : Int), .int .u64 (limb n 2 : Int), .int .u64 (limb n 3 : Int)] := by rw [← hv9]; exact Blk.alloc (Blk.new (by simp)) _
  have X_R : Blk v1 (w.heap.size + 1 + 1) 42 [.int .u64 0, .int .u64 0, .int .u64 0, .int .u64 0] := by rw [← hv9]; exact Blk.new (by simp)
  obtain ⟨bF, hb9⟩ : ∃ k, w.heap.size = k := ⟨_, rfl⟩
  rw [hb9] at X_F
  rw [hb9] at X_V
  rw [hb9] at X_R
  have g_bF : w.heap.size ≤ bF := by rw [← hb9]; exact BW.out.size
  replace BW := hid (BW.out.trans (hG9.mono BW.out.size))
  clear hG9
  rw [hv9]
  try rw [hb9]
  clear hv9 hb9
  refine (M.out _).mono ?_
  rintro e v2 ⟨rfl, b9⟩
  replace X_F := X_F.keep b9
  replace X_V := X_V.keep b9
  replace X_R := X_R.keep b9
  replace BW := hid (BW.out.trans (b9.mono BW.out.size))
  clear b9
  have z_R := X_R.lt
  have c_R0 := X_R.cell (i := 0) rfl
  have f_R0 := X_R.frozen 0
  have c_R1 := X_R.cell (i := 1) rfl
  have f_R1 := X_R.frozen 1
  have c_R2 := X_R.cell (i := 2) rfl
  have f_R2 := X_R.frozen 2
  have c_R3 := X_R.cell (i := 3) rfl
  have f_R3 := X_R.frozen 3
  have hBW := BW.out
  have zBW := hBW.size
  go_wp2
  refine bodyPost_ret (by simp only [results, Tryd.results40]; go_simp; try rfl) rfl ?_
  exact ⟨rfl, by go_grown⟩

end Go.Proofs.YtaakdmjmanbggaaDoor
