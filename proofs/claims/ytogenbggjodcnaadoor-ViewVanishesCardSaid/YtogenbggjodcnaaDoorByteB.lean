/-
  Bytes as numbers, the bounds of chunks, ranges over functions.
-/
import Derived.Test.YtogenbggjodcnaaDoorPlainN
import Derived.Test.YtogenbggjodcnaaDoorBase
import Derived.Test.YtogenbggjodcnaaDoorMont
import Derived.Test.YtogenbggjodcnaaDoorLimbs
import Derived.Test.YtogenbggjodcnaaDoorKit
import Derived.Maps.AppendAt
import Derived.Lib.SliceRun
import Derived.OwnWalk
import Derived.Laws.CopyOwn
import Derived.Deep.RegionHeld3
import Derived.Deep.DeepCutAuto
import Derived.Deep.QuietTactic
import Derived.Deep.MidRow
import Derived.Test.YtogenbggjodcnaaDoorSetB
import Derived.Test.YtogenbggjodcnaaDoorLagA
import Derived.Test.YtogenbggjodcnaaDoorPolys
import Derived.Test.YtogenbggjodcnaaDoorParB
/-
  Bytes as numbers: words of eight bytes, numbers of four words, and what 64 bytes are modulo p. Plain.
-/
namespace Go.Proofs.YtogenbggjodcnaaDoor

/-- k bytes from o on, the first one the least. -/
def wsum (l : List Nat) (o : Nat) : Nat → Nat
  | 0 => 0
  | k + 1 => wsum l o k + l.getD (o + k) 0 * 256 ^ k
/-- Bytes. -/
def Byt (l : List Nat) : Prop := ∀ x ∈ l, x < 256
theorem Byt.getD {l : List Nat} (h : Byt l) (i : Nat) : l.getD i 0 < 256 := by
  by_cases hi : i < l.length
  · rw [List.getD_eq_getElem?_getD, List.getElem?_eq_getElem hi]; exact h _ (List.getElem_mem hi)
  · rw [List.getD_eq_getElem?_getD, List.getElem?_eq_none (by omega)]; decide
theorem Byt.take {l : List Nat} (h : Byt l) (n : Nat) : Byt (l.take n) := fun x hx => h x (List.mem_of_mem_take hx)
theorem Byt.drop {l : List Nat} (h : Byt l) (n : Nat) : Byt (l.drop n) := fun x hx => h x (List.mem_of_mem_drop hx)
theorem wsum_lt {l : List Nat} (h : Byt l) (o : Nat) : ∀ k, wsum l o k < 256 ^ k
  | 0 => by unfold wsum; decide
  | k + 1 => by
    have h1 := wsum_lt h o k
    have h2 := h.getD (o + k)
    have h3 : (l.getD (o + k) 0 + 1) * 256 ^ k ≤ 256 * 256 ^ k := Nat.mul_le_mul_right _ h2
    rw [Nat.add_mul, Nat.one_mul] at h3
    rw [Nat.pow_succ, Nat.mul_comm _ 256]
    show wsum l o k + _ < _
    omega
noncomputable def wd (l : List Nat) (o k : Nat) : Nat := veil (wsum l o k)
theorem wd_eq (l : List Nat) (o k : Nat) : wd l o k = wsum l o k := veil_eq _
theorem wd_zero (l : List Nat) (o : Nat) : wd l o 0 = 0 := by rw [wd_eq]; rfl
theorem wd_add (l : List Nat) (o k : Nat) : wd l o (k + 1) = wd l o k + l.getD (o + k) 0 * 256 ^ k := by rw [wd_eq, wd_eq]; rfl
theorem wd_pow {l : List Nat} (h : Byt l) (o k : Nat) : wd l o k < 256 ^ k := by rw [wd_eq]; exact wsum_lt h o k
theorem wd_lt {l : List Nat} (h : Byt l) (o : Nat) {k : Nat} (hk : k ≤ 8) : wd l o k < B64 := by
  have h1 := wd_pow h o k
  have h2 : 256 ^ k ≤ 256 ^ 8 := Nat.pow_le_pow_right (by decide) hk
  have h3 : 256 ^ 8 = B64 := by decide
  omega
theorem byte_pow {x k : Nat} (hx : x < 256) (hk : k < 8) : x * 256 ^ k < B64 := by
  have h2 : 256 ^ (k + 1) ≤ 256 ^ 8 := Nat.pow_le_pow_right (by decide) hk
  have h3 : 256 ^ 8 = B64 := by decide
  have h4 : (x + 1) * 256 ^ k ≤ 256 * 256 ^ k := Nat.mul_le_mul_right _ hx
  have h5 : 0 < 256 ^ k := Nat.pow_pos (by decide)
  rw [Nat.add_mul, Nat.one_mul] at h4
  rw [Nat.pow_succ] at h2
  omega
theorem wd_or {l : List Nat} (h : Byt l) (o k : Nat) : wd l o k ||| l.getD (o + k) 0 * 256 ^ k = wd l o (k + 1) := by
  have h1 : wd l o k < 2 ^ (8 * k) := by rw [Nat.pow_mul]; exact wd_pow h o k
  have h2 := Nat.two_pow_add_eq_or_of_lt h1 (l.getD (o + k) 0)
  rw [Nat.pow_mul, show (2 : Nat) ^ 8 = 256 from rfl] at h2
  rw [wd_add, Nat.or_comm, Nat.mul_comm, ← h2, Nat.add_comm]
theorem wd_bits {l : List Nat} (h : Byt l) (o : Nat) {k : Nat} (hk : k < 8) :
    bits .or .u64 (wd l o k : Int) (IntKind.u64.wrap ((l.getD (o + k) 0 : Int) * 2 ^ (8 * k))) = (wd l o (k + 1) : Int) := by
  have h1 := byte_pow (h.getD (o + k)) hk
  have h2 : IntKind.u64.wrap ((l.getD (o + k) 0 : Int) * 2 ^ (8 * k)) = ((l.getD (o + k) 0 * 256 ^ k : Nat) : Int) := by
    have e : ((l.getD (o + k) 0 : Int) * 2 ^ (8 * k)) = ((l.getD (o + k) 0 * 256 ^ k : Nat) : Int) := by
      rw [Int.natCast_mul, Int.natCast_pow, Int.pow_mul]; rfl
    rw [e, IntKind.wrap_u64]
    unfold B64 at h1
    omega
  rw [h2, bits_or_nat _ _ (wd_lt h o (by omega)) h1, wd_or h]
/-- 32 bytes as a number. -/
noncomputable def num (l : List Nat) : Nat := veil (val4 (wd l 0 8) (wd l 8 8) (wd l 16 8) (wd l 24 8))
theorem num_eq (l : List Nat) : num l = val4 (wd l 0 8) (wd l 8 8) (wd l 16 8) (wd l 24 8) := veil_eq _
theorem num_lt {l : List Nat} (h : Byt l) : num l < B256 := by
  rw [num_eq]; exact val4_lt (wd_lt h _ (by decide)) (wd_lt h _ (by decide)) (wd_lt h _ (by decide)) (wd_lt h _ (by decide))
theorem num_vec {l : List Nat} (h : Byt l) : (.agg #[.int .u64 (wd l 0 8 : Int), .int .u64 (wd l 8 8 : Int), .int .u64 (wd l 16 8 : Int), .int .u64 (wd l 24 8 : Int)] : Value) = vec (num l) := by
  rw [num_eq]; exact vec_words (wd_lt h _ (by decide)) (wd_lt h _ (by decide)) (wd_lt h _ (by decide)) (wd_lt h _ (by decide))
/-- What 64 bytes are modulo p. -/
noncomputable def wid (p : Nat) (l : List Nat) : Nat := addm p (num (l.take 32)) (frm p (num (l.drop 32)))
theorem wid_lt {p : Nat} (l : List Nat) (h : 0 < p) : wid p l < p := addm_lt _ _ h
theorem addm_mod (p a b : Nat) : addm p (a % p) b = addm p a b := by rw [addm_eq, addm_eq, Nat.mod_add_mod]
theorem fS_eq (s : Bool) : fS s = B256 * B256 % fP s := by
  have h : ∀ p o q : Nat, powm p 2 256 = o → mulm p o o = q → q = B256 * B256 % p := fun p o q h1 h2 => by
    rw [← h2, ← h1, mulm_eq, powm_eq, ← Nat.mul_mod]; rfl
  cases s
  · exact h P1 O1 S1 radix_P1 square_P1
  · exact h P2 O2 S2 radix_P2 square_P2
theorem fS_lt (s : Bool) : fS s < fP s := by rw [fS_eq]; exact Nat.mod_lt _ (by have := fP_two s; omega)
theorem mont_S (s : Bool) (v : Nat) : mont (fP s) v (fS s) = frm (fP s) v := by
  have hr := rinv_eq (fP_inv s)
  rw [mont_eq, frm_eq, fS_eq]
  generalize fP s = m at *
  generalize rinv m = r at *
  have e1 : v * (B256 * B256 % m) * r % m = v * (B256 * B256) * r % m := by
    rw [← Nat.mod_mul_mod, Nat.mul_mod_mod, Nat.mod_mul_mod]
  have e2 : v * (B256 * B256) * r = (B256 * v) * (B256 * r) := by
    rw [Nat.mul_assoc v, Nat.mul_assoc B256 B256, Nat.mul_left_comm v B256, Nat.mul_assoc B256 v]
  rw [e1, e2, Nat.mul_mod, hr, Nat.mul_one, Nat.mod_mod]
/-- The program's way to the form of 64 bytes. -/
theorem wid_frm (s : Bool) (l : List Nat) : addm (fP s) (frm (fP s) (num (l.take 32))) (mont (fP s) (frm (fP s) (num (l.drop 32))) (fS s)) = frm (fP s) (wid (fP s) l) := by
  rw [mont_S, frm_addm]; rfl
/-- The reference's way. -/
theorem wid_ref (p : Nat) (l : List Nat) : addm p (num (l.take 32) % p) (mulm p (powm p 2 256) (num (l.drop 32) % p)) = wid p l := by
  rw [addm_mod, form_eq, frm_mod]; rfl
/-- One byte 1, the others 0: the number 1. -/
theorem wid_one {p : Nat} (hp : 2 < p) : wid p ((1 :: List.replicate 70 0).take 64) = 1 := by
  have h1 : num (((1 :: List.replicate 70 0).take 64).take 32) = 1 := by rw [num_eq]; simp only [wd_eq]; rfl
  have h2 : num (((1 :: List.replicate 70 0).take 64).drop 32) = 0 := by rw [num_eq]; simp only [wd_eq]; rfl
  unfold wid
  rw [h1, h2, frm_zero, addm_eq]; exact Nat.mod_eq_of_lt (by omega)
end Go.Proofs.YtogenbggjodcnaaDoor
/-
  Bytes in memory; the number that 32 bytes represent; the element of a number and of 64 random bytes.
-/
namespace Go.Proofs.YtogenbggjodcnaaDoor
open Go.RowKit

/-- Bytes as cells. -/
def bys (l : List Nat) : List Value := l.map fun x : Nat => .int .u8 (x : Int)
theorem bys_len (l : List Nat) : (bys l).length = l.length := by unfold bys; simp
theorem bys_get (l : List Nat) {j : Nat} (h : j < l.length) : (bys l)[j]? = some (.int .u8 (l.getD j 0 : Int)) := by
  unfold bys
  rw [List.getElem?_map, List.getElem?_eq_getElem h, List.getD_eq_getElem?_getD, List.getElem?_eq_getElem h]; rfl
theorem bys_append (a b : List Nat) : bys (a ++ b) = bys a ++ bys b := by unfold bys; simp

set_option maxRecDepth 100000 in
set_option maxHeartbeats 1000000 in
theorem word_any (g i : Nat) (l : List Nat) (hi : i < 4) (hl : l.length = 32) (hb : Byt l) (w : World) (hX : Blk w g 187 (bys l)) :
    Calls Tryd.prog 148 #[.int .i64 (i : Int), .pointer (some ⟨g, 0, none⟩)] w (Ret (.int .u64 (wd l (8 * i) 8 : Int)) w) := by
  have zi : IntKind.i64.wrap (8 * (i : Int)) = ((8 * i : Nat) : Int) := by rw [IntKind.wrap_i64]; omega
  have z0 := wd_zero l (8 * i)
  have HB := hid hb
  have HX := hid hX
  have zg := hX.lt
  clear hb hX
  go_enter Tryd.func148, Tryd.ntmps148
  go_wp2
  go_loopw [4, 6] (fun c j wr => ∃ k : Nat, k ≤ 8 ∧ j = .int .i64 (k : Int) ∧ c = .int .u64 (wd l (8 * i) k : Int) ∧ Below w.heap.size w wr) (fun _ j _ => 8 - (intOf j).toNat)
  case atStart => exact ⟨0, by omega, rfl, by rw [z0]; rfl, Below.refl _ _⟩
  case round =>
    obtain ⟨k, hk, rfl, rfl, hB⟩ := hrel
    have BW := hid hB
    by_cases hlt : k < 8
    · have zk : IntKind.i64.wrap (((8 * i : Nat) : Int) + (k : Int)) = ((8 * i + k : Nat) : Int) := by rw [IntKind.wrap_i64]; omega
      have zs : IntKind.i64.wrap (8 * (k : Int)) = ((8 * k : Nat) : Int) := by rw [IntKind.wrap_i64]; omega
      have X1 := (HX.out.below BW.out zg)
      have zg1 := X1.lt
      have cg := X1.cell (bys_get l (j := 8 * i + k) (by omega))
      have E1 := wd_bits HB.out (8 * i) hlt
      have hx := HB.out.getD (8 * i + k)
      obtain ⟨x, hx9⟩ : ∃ x, l.getD (8 * i + k) 0 = x := ⟨_, rfl⟩
      rw [hx9] at cg E1 hx
      have zx : IntKind.u64.wrap (x : Int) = (x : Int) := by rw [IntKind.wrap_u64]; omega
      replace E1 := hid E1
      clear X1 hx9 hx hB
      go_wp2
      go_roundw
      case rel => exact ⟨k + 1, by omega, by go_num, by rw [E1.out], BW.out⟩
      case measure => simp [intOf]; omega
    · obtain rfl : k = 8 := by omega
      clear hB
      go_wp2
      refine bodyPost_ret (by simp only [results, Tryd.results148]; go_simp; try rfl) rfl ?_
      exact ⟨rfl, BW.out⟩

-- PRINTED
set_option maxRecDepth 100000 in
set_option maxHeartbeats 2000000 in
theorem number_any (l : List Nat) (hl : l.length = 32) (hb : Byt l) (w : World) :
    Calls Tryd.prog 142 #[.agg (bys l).toArray] w (Ret (vec (num l)) w) := by
  have BW := hid (Below.refl w.heap.size w)
  have HV := hid (num_vec hb)
  have HB := hid hb
  clear hb
  go_enter Tryd.func142, Tryd.ntmps142
  go_wp2_with fail
  obtain ⟨v1, hv9⟩ : ∃ v, ((w.alloc (.cells (bys l).toArray 187)).alloc (.cells #[.int .u64 0, .int .u64 0, .int .u64 0, .int .u64 0] 28)) = v := ⟨_, rfl⟩
  have hG9 : Below w.heap.size w v1 := by rw [← hv9]; go_grown
  have X_A : Blk v1 (w.heap.size) 187 (bys l) := by rw [← hv9]; exact Blk.alloc (Blk.new rfl) _
  have X_R : Blk v1 (w.heap.size + 1) 28 [.int .u64 0, .int .u64 0, .int .u64 0, .int .u64 0] := by rw [← hv9]; exact Blk.new (by simp)
  obtain ⟨bA, hb9⟩ : ∃ k, w.heap.size = k := ⟨_, rfl⟩
  rw [hb9] at X_A
  rw [hb9] at X_R
  have g_bA : w.heap.size ≤ bA := by rw [← hb9]; exact BW.out.size
  replace BW := hid (BW.out.trans (hG9.mono BW.out.size))
  clear hG9
  rw [hv9]
  try rw [hb9]
  clear hv9 hb9
  refine (word_any _ 0 l (by decide) hl HB.out _ X_A).mono ?_
  rintro e v2 ⟨rfl, b9⟩
  replace X_A := X_A.keep b9
  replace X_R := X_R.keep b9
  replace BW := hid (BW.out.trans (b9.mono BW.out.size))
  clear b9
  go_wp2_with fail
  refine (word_any _ 1 l (by decide) hl HB.out _ X_A).mono ?_
  rintro e v3 ⟨rfl, b9⟩
  replace X_A := X_A.keep b9
  replace X_R := X_R.keep b9
  replace BW := hid (BW.out.trans (b9.mono BW.out.size))
  clear b9
  go_wp2_with fail
  refine (word_any _ 2 l (by decide) hl HB.out _ X_A).mono ?_
  rintro e v4 ⟨rfl, b9⟩
  replace X_A := X_A.keep b9
  replace X_R := X_R.keep b9
  replace BW := hid (BW.out.trans (b9.mono BW.out.size))
  clear b9
  go_wp2_with fail
  refine (word_any _ 3 l (by decide) hl HB.out _ X_A).mono ?_
  rintro e v5 ⟨rfl, b9⟩
  replace X_A := X_A.keep b9
  replace X_R := X_R.keep b9
  replace BW := hid (BW.out.trans (b9.mono BW.out.size))
  clear b9
  have z_R := X_R.lt
  have c_R0 := X_R.cell (i := 0) rfl
  have f_R0 := X_R.frozen 0
  have c_R1 := X_R.cell (i := 1) rfl
  have f_R1 := X_R.frozen 1
  have c_R2 := X_R.cell (i := 2) rfl
  have f_R2 := X_R.frozen 2
  have c_R3 := X_R.cell (i := 3) rfl
  have f_R3 := X_R.frozen 3
  have hBW := BW.out
  have zBW := hBW.size
  go_wp2
  refine bodyPost_ret (by simp only [results, Tryd.results142]; go_simp; try rfl) rfl ?_
  exact ⟨congrArg _ HV.out, by go_grown⟩

set_option maxRecDepth 100000 in
set_option maxHeartbeats 2000000 in
theorem to_any (b : Bool) (n : Nat) (hn : n < B256) (w : World) :
    Calls Tryd.prog 107 #[FV b, vec n] w (Ret (vec (frm (fP b) n)) w) := by
  have BW := hid (Below.refl w.heap.size w)
  have M := hid (fun W : World => mmul_any (fID b) (fP b) (fI b) (fO b) (fS b) n (fS b) (fOK b) hn (Nat.lt_trans (fS_lt b) (fP_lt b)) (Nat.mul_lt_mul_of_lt_of_lt hn (fS_lt b)) W)
  rw [mont_S] at M
  go_enter Tryd.func107, Tryd.ntmps107
  go_wp2_with fail
  obtain ⟨v1, hv9⟩ : ∃ v, (((w.alloc (.cells #[.int .i64 (fID b), .int .u64 (limb (fP b) 0 : Int), .int .u64 (limb (fP b) 1 : Int), .int .u64 (limb (fP b) 2 : Int), .int .u64 (limb (fP b) 3 : Int), .int .u64 (fI b : Int), .int .u64 (limb (fO b) 0 : Int), .int .u64 (limb (fO b) 1 : Int), .int .u64 (limb (fO b) 2 : Int), .int .u64 (limb (fO b) 3 : Int), .int .u64 (limb (fS b) 0 : Int), .int .u64 (limb (fS b) 1 : Int), .int .u64 (limb (fS b) 2 : Int), .int .u64 (limb (fS b) 3 : Int)] 31)).alloc (.cells #[.int .u64 (limb n 0 : Int), .int .u64 (limb n 1 : Int), .int .u64 (limb n 2 : Int), .int .u64 (limb n 3 : Int)] 28)).alloc (.cells #[.int .u64 0, .int .u64 0, .int .u64 0, .int .u64 0] 29)) = v := ⟨_, rfl⟩
  have hG9 : Below w.heap.size w v1 := by rw [← hv9]; go_grown
  have X_F : Blk v1 (w.heap.size) 31 [.int .i64 (fID b), .int .u64 (limb (fP b) 0 : Int), .int .u64 (limb (fP b) 1 : Int), .int .u64 (limb (fP b) 2 : Int), .int .u64 (limb (fP b) 3 : Int), .int .u64 (fI b : Int), .int .u64 (limb (fO b) 0 : Int), .int .u64 (limb (fO b) 1 : Int), .int .u64 (limb (fO b) 2 : Int), .int .u64 (limb (fO b) 3 : Int), .int .u64 (limb (fS b) 0 : Int), .int .u64 (limb (fS b) 1 : Int), .int .u64 (limb (fS b) 2 : Int), .int .u64 (limb (fS b) 3 : Int)] := by rw [← hv9]; exact Blk.alloc (Blk.alloc (Blk.new rfl) _) _
  have X_V : Blk v1 (w.heap.size + 1) 28 [.int .u64 (limb n 0 : Int), .int .u64 (limb n 1 : Int), .int .u64 (limb n 2 : Int), .int .u64 (limb n 3 : Int)] := by rw [← hv9]; exact Blk.alloc (Blk.new (by simp)) _
  have X_R : Blk v1 (w.heap.size + 1 + 1) 29 [.int .u64 0, .int .u64 0, .int .u64 0, .int .u64 0] := by rw [← hv9]; exact Blk.new (by simp)
  obtain ⟨bF, hb9⟩ : ∃ k, w.heap.size = k := ⟨_, rfl⟩
  rw [hb9] at X_F
  rw [hb9] at X_V
  rw [hb9] at X_R
  have g_bF : w.heap.size ≤ bF := by rw [← hb9]; exact BW.out.size
  replace BW := hid (BW.out.trans (hG9.mono BW.out.size))
  clear hG9
  rw [hv9]
  try rw [hb9]
  clear hv9 hb9
  refine (M.out _).mono ?_
  rintro e v2 ⟨rfl, b9⟩
  replace X_F := X_F.keep b9
  replace X_V := X_V.keep b9
  replace X_R := X_R.keep b9
  replace BW := hid (BW.out.trans (b9.mono BW.out.size))
  clear b9
  have z_R := X_R.lt
  have c_R0 := X_R.cell (i := 0) rfl
  have f_R0 := X_R.frozen 0
  have c_R1 := X_R.cell (i := 1) rfl
  have f_R1 := X_R.frozen 1
  have c_R2 := X_R.cell (i := 2) rfl
  have f_R2 := X_R.frozen 2
  have c_R3 := X_R.cell (i := 3) rfl
  have f_R3 := X_R.frozen 3
  have hBW := BW.out
  have zBW := hBW.size
  go_wp2
  refine bodyPost_ret (by simp only [results, Tryd.results107]; go_simp; try rfl) rfl ?_
  exact ⟨rfl, by go_grown⟩

end Go.Proofs.YtogenbggjodcnaaDoor
/-
  Slices of bytes and sources in memory; New, Left and Take, and the reference's Take.
-/
namespace Go.Proofs.YtogenbggjodcnaaDoor
open Go.RowKit

/-- Bytes in a row. -/
def ByteAt (w : World) (g off : Nat) (l : List Nat) : Prop := ∀ j x : Nat, l[j]? = some x → x < 256 ∧ w.cell? ⟨g, off + j, none⟩ = some (.int .u8 (x : Int))
def ByteSl (w : World) (v : Value) (l : List Nat) : Prop := ∃ a cap, v = .slice a l.length cap ∧ l.length ≤ cap ∧ (l = [] ∨ ∃ g off, a = some ⟨g, off, none⟩ ∧ ByteAt w g off l)
/-- A block that holds one slice of bytes of block g: a source. -/
def Src (w : World) (t : TypeId) (s g : Nat) (l : List Nat) : Prop := ∃ a cap, Blk w s t [.slice a l.length cap] ∧ ByteSl w (.slice a l.length cap) l ∧ ∀ ad, a = some ad → ad.block = g

section
variable {w w' : World} {l : List Nat} {v : Value} {g off : Nat}
theorem ByteSl.byt (h : ByteSl w v l) : Byt l := by
  intro x hx
  obtain ⟨a, cap, _, _, h0 | ⟨g, off, _, he⟩⟩ := h
  · rw [h0] at hx; cases hx
  · obtain ⟨j, hj, rfl⟩ := List.getElem_of_mem hx
    exact (he j _ (List.getElem?_eq_getElem hj)).1
theorem ByteAt.below (h : ByteAt w g off l) (hb : Below w.heap.size w w') : ByteAt w' g off l := fun j x hj => by
  obtain ⟨h1, h2⟩ := h j x hj
  exact ⟨h1, (hb.cell (World.block_lt_of_cell? w _ h2)).trans h2⟩
theorem ByteSl.below (h : ByteSl w v l) (hb : Below w.heap.size w w') : ByteSl w' v l := by
  obtain ⟨a, cap, hv, hc, h0 | ⟨g, off, ha, he⟩⟩ := h
  · exact ⟨a, cap, hv, hc, .inl h0⟩
  · exact ⟨a, cap, hv, hc, .inr ⟨g, off, ha, he.below hb⟩⟩
/-- Behind a store to blocks that hold no bytes. -/
theorem ByteSl.only {F : Nat → Prop} (h : ByteSl w v l) (ho : Only F w w') (hF : ∀ k o x, F k → w.cell? ⟨k, o, none⟩ ≠ some (.int .u8 x)) : ByteSl w' v l := by
  obtain ⟨a, cap, hv, hc, h0 | ⟨g, off, ha, he⟩⟩ := h
  · exact ⟨a, cap, hv, hc, .inl h0⟩
  · refine ⟨a, cap, hv, hc, .inr ⟨g, off, ha, fun j x hj => ?_⟩⟩
    obtain ⟨h1, h2⟩ := he j x hj
    exact ⟨h1, ho.cell (fun hf => hF g _ _ hf h2) h2⟩
theorem Src.nobyte {t : TypeId} {s : Nat} (h : Src w t s g l) : ∀ (k o : Nat) (x : Int), k = s → w.cell? ⟨k, o, none⟩ ≠ some (.int .u8 x) := by
  rintro k o x rfl e
  obtain ⟨a, cap, hX, _⟩ := h
  unfold Blk at hX
  rw [World.cell?] at e
  simp only [hX] at e
  match o with
  | 0 => simp at e
  | o + 1 => simp at e
theorem ByteSl.src {t : TypeId} {s g' : Nat} {l' : List Nat} (h : ByteSl w v l) (hs : Src w t s g' l') (ho : Only (fun k => k = s) w w') : ByteSl w' v l := h.only ho hs.nobyte
theorem Src.below {t : TypeId} {s : Nat} (h : Src w t s g l) (hb : Below w.heap.size w w') : Src w' t s g l := by
  obtain ⟨a, cap, hX, hS, hg⟩ := h
  exact ⟨a, cap, hX.keep hb, hS.below hb, hg⟩
theorem Src.other {t t' : TypeId} {s s' g' : Nat} {l' : List Nat} (h : Src w t s g l) (hs : Src w t' s' g' l') (hne : s ≠ s') (ho : Only (fun k => k = s') w w') : Src w' t s g l := by
  obtain ⟨a, cap, hX, hS, hg⟩ := h
  exact ⟨a, cap, hX.only ho hne, hS.src hs ho, hg⟩
theorem Src.byt {t : TypeId} {s : Nat} (h : Src w t s g l) : Byt l := by
  obtain ⟨a, cap, _, hS, _⟩ := h
  exact hS.byt
/-- A part of a slice of bytes. -/
theorem ByteSl.part {a : Option Addr} {n c : Nat} (h : ByteSl w (.slice a n c) l) (lo k c' : Nat) (hlo : lo + k ≤ l.length) (hc : k ≤ c') : ByteSl w (.slice (a.map (·.add lo)) k c') ((l.drop lo).take k) := by
  obtain ⟨a', cap, hv, hcp, hr⟩ := h
  have hlen : ((l.drop lo).take k).length = k := by simp; omega
  cases hv
  refine ⟨_, c', by rw [hlen], by omega, ?_⟩
  rcases hr with h0 | ⟨g, off, ha, he⟩
  · left; rw [h0]; simp
  · right
    refine ⟨g, off + lo, by rw [ha]; simp [Addr.add], fun j x hj => ?_⟩
    have hjk : j < k := by have := (List.getElem?_eq_some_iff.1 hj).1; omega
    rw [List.getElem?_take_of_lt hjk, List.getElem?_drop] at hj
    have := he _ _ hj
    rw [Nat.add_assoc]; exact this
theorem ByteSl.head {a : Option Addr} {n c k : Nat} (h : ByteSl w (.slice a n c) l) (hk : k ≤ l.length) (hc : k ≤ c) : ByteSl w (.slice a k c) (l.take k) := by
  have h1 := h.part 0 k c (by omega) hc
  have e : a.map (·.add 0) = a := by cases a with
    | none => rfl
    | some x => simp [Addr.add]
  rw [e, List.drop_zero] at h1
  exact h1
theorem ByteSl.nil (w : World) (a : Option Addr) (c : Nat) : ByteSl w (.slice a 0 c) [] := ⟨a, c, rfl, Nat.zero_le _, .inl rfl⟩
theorem ByteSl.tail {a : Option Addr} {n c k : Nat} (h : ByteSl w (.slice a n c) l) (hk : k ≤ l.length) (hc : l.length ≤ c) : ByteSl w (.slice (a.map (·.add k)) (l.length - k) (c - k)) (l.drop k) := by
  have h1 := h.part k (l.length - k) (c - k) (by omega) (by omega)
  rw [List.take_of_length_le (by simp)] at h1
  exact h1
theorem ByteSl.tail0 {k : Nat} (w : World) (a : Option Addr) (hk : l.length ≤ k) : ByteSl w (.slice a (l.length - k) 0) (l.drop k) := by
  rw [List.drop_of_length_le hk, show l.length - k = 0 by omega]; exact ByteSl.nil w a 0
theorem Src.put {t : TypeId} {s : Nat} {l0 : List Nat} {a : Option Addr} {n c : Nat} (hS : Src w t s g l0) (h : ByteSl w (.slice a n c) l) (hg : ∀ ad, a = some ad → ad.block = g) : Src (w.setCell ⟨s, 0, none⟩ (.slice a n c)) t s g l := by
  obtain ⟨a', cap, e, hc, _⟩ := id h
  cases e
  obtain ⟨a0, c0, hX, _⟩ := id hS
  exact ⟨_, _, hX.set 0 _, h.src hS ((Only.refl (fun k => k = s) w).setCell (p := ⟨s, 0, none⟩) (.inl rfl) _), hg⟩
theorem map_block {a : Option Addr} {k : Nat} (h : ∀ ad, a = some ad → ad.block = g) : ∀ ad, a.map (·.add k) = some ad → ad.block = g := by
  intro ad e
  cases a with
  | none => cases e
  | some x =>
    have e' : x.add k = ad := Option.some.inj e
    rw [← e', ← h x rfl]
    unfold Addr.add
    split <;> rfl
theorem Src.lt {t : TypeId} {s : Nat} (h : Src w t s g l) : s < w.heap.size := by obtain ⟨_, _, hX, _⟩ := h; exact hX.lt
theorem Src.blt {t : TypeId} {s : Nat} (h : Src w t s g l) (hl : 0 < l.length) : g < w.heap.size := by
  obtain ⟨a, c, _, hS, hg⟩ := h
  obtain ⟨a', cap, e, _, h0 | ⟨g', off, ha, he⟩⟩ := id hS
  · rw [h0] at hl; exact absurd hl (Nat.not_lt_zero _)
  · cases e
    subst ha
    rw [← hg _ rfl]
    exact World.block_lt_of_cell? w _ (he 0 _ (List.getElem?_eq_getElem hl)).2
/-- Behind stores to other blocks. -/
theorem Src.apart {F : Nat → Prop} {t : TypeId} {s : Nat} (h : Src w t s g l) (ho : Only F w w') (hs : ¬ F s) (hg : ¬ F g) : Src w' t s g l := by
  obtain ⟨a, cap, hX, hS, hb⟩ := h
  refine ⟨a, cap, hX.only ho hs, ?_, hb⟩
  obtain ⟨a', c, e, hc, h0 | ⟨g', off, ha, he⟩⟩ := hS
  · cases e; exact ⟨a, cap, rfl, hc, .inl h0⟩
  · cases e
    subst ha
    refine ⟨_, cap, rfl, hc, .inr ⟨g', off, rfl, fun j x hj => ?_⟩⟩
    obtain ⟨h1, h2⟩ := he j x hj
    have e2 : g' = g := hb _ rfl
    exact ⟨h1, ho.cell (by rw [e2]; exact hg) h2⟩
theorem Only.under {F : Nat → Prop} {A : World} (h : Only F A w) (hb : Below A.heap.size w w') : Only F A w' :=
  ⟨hb.os.trans h.os, hb.tape.trans h.tape, hb.output.trans h.output, Nat.le_trans h.size hb.size, fun k o hk hc => (hb.block k (heap_lt hk)).trans (h.block k o hk hc)⟩
theorem Src.under {n : Nat} {t : TypeId} {s : Nat} (h : Src w t s g l) (hb : Below n w w') (hs : s < n) (hg : g < n) : Src w' t s g l := by
  obtain ⟨a, cap, hX, hS, hk⟩ := h
  refine ⟨a, cap, hX.below hb hs, ?_, hk⟩
  obtain ⟨a', c, e, hc, h0 | ⟨g', off, ha, he⟩⟩ := hS
  · cases e; exact ⟨a, cap, rfl, hc, .inl h0⟩
  · cases e
    subst ha
    refine ⟨_, cap, rfl, hc, .inr ⟨g', off, rfl, fun j x hj => ?_⟩⟩
    obtain ⟨h1, h2⟩ := he j x hj
    have e2 : g' = g := hk _ rfl
    exact ⟨h1, (hb.cell (by show g' < n; rw [e2]; exact hg)).trans h2⟩
theorem owns_old {base : Nat} {e : TypeId} {size n s : Nat} {xs : List Value} (h : w.ownsRow base e size v n xs) (ho : Only (fun k => k = s) w w') (hs : s < base) : w'.ownsRow base e size v n xs := owns_only h ho (by
  intro k hk e
  subst e
  obtain ⟨_, ⟨h1, _⟩ | ⟨g, cap, cur, hv, hg, _⟩⟩ := h
  · rw [h1] at hk; cases hk
  · rw [hv] at hk; have e : g = k := Option.some.inj hk
    omega)
theorem bys_own {base : Nat} {t : TypeId} {n : Nat} (h : w.ownsRow base t 1 v n (bys l)) (hn : l.length = n) (hb : Byt l) : ByteSl w v l := by
  obtain ⟨_, ⟨hv, h0⟩ | ⟨g, cap, cur, hv, hg, hh, hc, _, _, hx⟩⟩ := h
  · have : l = [] := List.eq_nil_of_length_eq_zero (by omega)
    exact ⟨none, 0, by rw [hv, hn, h0], by omega, .inl this⟩
  · refine ⟨some ⟨g, 0, none⟩, cap, by rw [hv, hn], by omega, .inr ⟨g, 0, rfl, fun j x hj => ⟨hb x (List.mem_of_getElem? hj), ?_⟩⟩⟩
    have hjl := (List.getElem?_eq_some_iff.1 hj).1
    have e1 : (bys l)[j]? = some (.int .u8 (x : Int)) := by unfold bys; rw [List.getElem?_map, hj]; rfl
    rw [← hx, List.getElem?_take_of_lt (by omega)] at e1
    simp only [World.cell?, hh, Nat.zero_add]
    simpa using e1
theorem ByteSl.news {a : Addr} {n c : Nat} (h : ByteSl w (.slice (some a) n c) l) : ∀ j u, (bys l)[j]? = some u → w.cell? (a.add j) = some u := by
  intro j u hj
  obtain ⟨a', cap, hv, _, h0 | ⟨g, off, ha, he⟩⟩ := h
  · rw [h0] at hj; cases hj
  · cases hv
    cases ha
    unfold bys at hj
    rw [List.getElem?_map] at hj
    obtain ⟨x, hx, rfl⟩ := Option.map_eq_some_iff.1 hj
    have ha : (⟨g, off, none⟩ : Addr).add j = ⟨g, off + j, none⟩ := by unfold Addr.add; split <;> simp_all
    rw [ha]; exact (he j x hx).2
end
theorem ByteSl.at {w : World} {l : List Nat} {g off n c : Nat} (h : ByteSl w (.slice (some ⟨g, off, none⟩) n c) l) {j : Nat} (hj : j < l.length) : w.cell? ⟨g, off + j, none⟩ = some (.int .u8 (l.getD j 0 : Int)) := by
  obtain ⟨a', cap, hv, _, h0 | ⟨g', off', ha, he⟩⟩ := h
  · rw [h0] at hj; exact absurd hj (Nat.not_lt_zero _)
  · cases hv
    cases ha
    rw [List.getD_eq_getElem?_getD, List.getElem?_eq_getElem hj]
    exact (he j _ (List.getElem?_eq_getElem hj)).2
theorem ByteSl.lt {w : World} {l : List Nat} {g off n c : Nat} (h : ByteSl w (.slice (some ⟨g, off, none⟩) n c) l) (hl : 0 < l.length) : g < w.heap.size := World.block_lt_of_cell? w _ (h.at hl)
theorem ByteSl.ptr {w : World} {l : List Nat} {a : Option Addr} {n c : Nat} (h : ByteSl w (.slice a n c) l) (hl : 0 < l.length) : ∃ g off, a = some ⟨g, off, none⟩ := by
  obtain ⟨a', cap, hv, _, h0 | ⟨g', off', ha, he⟩⟩ := h
  · rw [h0] at hl; exact absurd hl (Nat.not_lt_zero _)
  · cases hv
    exact ⟨g', off', ha⟩
theorem bys_cells : ∀ l : List Nat, ∀ u ∈ bys l, u.oneCell' = true := fun l u hu => by
  unfold bys at hu
  obtain ⟨x, _, rfl⟩ := List.mem_map.1 hu; rfl
theorem info_u8 : (Tryd.prog.info? 5).map (fun i => (i.zero, i.size, i.bytes)) = some (some (.int .u8 0), 1, 1) := by kernel_rfl
end Go.Proofs.YtogenbggjodcnaaDoor
/-
  The element of a part of a secret.
-/
namespace Go.Proofs.YtogenbggjodcnaaDoor
open Go.RowKit

attribute [local go_sem] Oper.semAt_some
/-- A part, filled with zeros. -/
def padl (l : List Nat) : List Nat := l ++ List.replicate (32 - l.length) 0
theorem padl_len {l : List Nat} (h : l.length ≤ 32) : (padl l).length = 32 := by unfold padl; simp; omega
theorem padl_getD (l : List Nat) (j : Nat) : (padl l).getD j 0 = l.getD j 0 := by
  unfold padl
  rw [List.getD_eq_getElem?_getD, List.getD_eq_getElem?_getD]
  by_cases h : j < l.length
  · rw [List.getElem?_append_left h]
  · rw [List.getElem?_append_right (by omega), List.getElem?_eq_none (l := l) (by omega), List.getElem?_replicate]
    split <;> rfl
theorem padl_byt {l : List Nat} (h : Byt l) : Byt (padl l) := by
  intro x hx
  unfold padl at hx
  rcases List.mem_append.1 hx with h1 | h1
  · exact h x h1
  · rw [List.eq_of_mem_replicate h1]; decide
theorem wd_congr {l m : List Nat} (h : ∀ j, l.getD j 0 = m.getD j 0) (o : Nat) : ∀ k, wd l o k = wd m o k
  | 0 => by rw [wd_zero, wd_zero]
  | k + 1 => by rw [wd_add, wd_add, wd_congr h o k, h]
theorem num_padl (l : List Nat) : num (padl l) = num l := by
  have h := wd_congr (padl_getD l)
  rw [num_eq, num_eq, h, h, h, h]
theorem splice_padl {l : List Nat} (h : l.length ≤ 32) : splice (List.replicate 32 (.int .u8 0 : Value)) 0 (bys l) = bys (padl l) := by
  unfold splice padl
  rw [bys_append, List.take_zero, List.nil_append, bys_len, Nat.zero_add, List.drop_replicate]
  refine congrArg _ ?_
  unfold bys
  rw [List.map_replicate]; rfl
theorem bys_one (l : List Nat) : ∀ v ∈ bys l, v.oneCell' = true := fun v hv => by
  unfold bys at hv
  obtain ⟨x, _, rfl⟩ := List.mem_map.1 hv
  rfl
theorem ByteSl.src_at {w : World} {a : Option Addr} {n c : Nat} {l : List Nat} (h : ByteSl w (.slice a n c) l) (h0 : 0 < (bys l).length) : ∃ ad, a = some ad ∧ ∀ j v, (bys l)[j]? = some v → w.cell? (ad.add j) = some v := by
  obtain ⟨a', cap, e, _, h1 | ⟨g, off, ha, he⟩⟩ := h
  · rw [h1] at h0; exact absurd h0 (Nat.lt_irrefl _)
  · cases e
    refine ⟨_, ha, fun j v hj => ?_⟩
    unfold bys at hj
    rw [List.getElem?_map] at hj
    cases hx : l[j]? with
    | none => rw [hx] at hj; cases hj
    | some x =>
      rw [hx] at hj
      cases hj
      rw [show (⟨g, off, none⟩ : Addr).add j = ⟨g, off + j, none⟩ by unfold Addr.add; split <;> simp_all]
      exact (he j x hx).2
theorem quiet_mid22 {C : World → Prop} {o : Oper} {a : Act} {w : World} (ty : TypeId) (x : Operand) (ho : o.op = .load ty x) (b off : Nat) (hx : a.eval x = .pointer (some ⟨b, off, none⟩)) (cs : List Value) (d : TypeDesc) (hS : w.rangeAt b off cs)
    (hu : Tryd.prog.underlying ty = some d) (hd : d.isRow = true) (hi : (Tryd.prog.info? ty).map (·.size) = some cs.length) : o.quietAt Tryd.prog a C w (.agg cs.toArray) := by
  unfold Oper.quietAt execOp
  simp only [ho, hx, Instr.loadAt, Instr.sureAddr, Sem.run_bind, Sem.run_pure, Result.andThen_ok, run_loadVar_mid w b off ty cs d hS hu hd hi]
  exact ⟨rfl, rfl⟩
theorem Blk.rangeAt {w : World} {b : Nat} {t : TypeId} {xs : List Value} (h : Blk w b t xs) : w.rangeAt b 0 xs := fun j v hj => by rw [Nat.zero_add]; exact h.cell hj
theorem range_below {w w' : World} {g o : Nat} {cs : List Value} (h : w.rangeAt g o cs) (hb : Below w.heap.size w w') (hg : g < w.heap.size) : w'.rangeAt g o cs := fun j v hj => (hb.cell (p := ⟨g, o + j, none⟩) hg).trans (h j v hj)
theorem info_a32 : (Tryd.prog.info? 187).map (·.size) = some 32 := by kernel_rfl
theorem info_b1 : (Tryd.prog.info? 5).map (·.size) = some 1 := by kernel_rfl
set_option maxRecDepth 100000 in
set_option maxHeartbeats 4000000 in
theorem pack_any (b : Bool) (v : Value) (l : List Nat) (hl : l.length ≤ 31) (w : World) (hS : ByteSl w v l) :
    Calls Tryd.prog 121 #[FV b, v] w (Ret (.tuple #[vec (frm (fP b) (num l)), .int .i64 0]) w) := by
  have BW := hid (Below.refl w.heap.size w)
  have HS := hid hS
  have hbt := hS.byt
  obtain ⟨a, cap, rfl, _⟩ := hS
  obtain ⟨n, hn⟩ : ∃ n, l.length = n := ⟨_, rfl⟩
  have hlb : (bys l).length = n := by rw [bys_len]; exact hn
  have hpl : (bys (padl l)).length = 32 := by rw [bys_len]; exact padl_len (by omega)
  have hsp := splice_padl (l := l) (by omega)
  have HSA := hid (fun (W : World) (h : ByteSl W (.slice a n cap) l) (h0 : 0 < n) => h.src_at (by rw [hlb]; exact h0))
  have N1 := hid (fun W : World => number_any (padl l) (padl_len (by omega)) (padl_byt hbt) W)
  rw [num_padl] at N1
  have T1 := hid (fun W : World => to_any b (num l) (num_lt hbt) W)
  rw [hn] at hl HS ⊢
  obtain ⟨m, hm⟩ : ∃ q, num l = q := ⟨_, rfl⟩
  rw [hm] at N1 T1 ⊢
  obtain ⟨x, hx⟩ : ∃ q, frm (fP b) m = q := ⟨_, rfl⟩
  rw [hx] at T1 ⊢
  have HB1 := hid (bys_one l)
  obtain ⟨cs, hcs⟩ : ∃ q, bys l = q := ⟨_, rfl⟩
  obtain ⟨ps, hps⟩ : ∃ q, bys (padl l) = q := ⟨_, rfl⟩
  rw [hcs] at hlb hsp HSA HB1
  rw [hps] at hpl hsp N1
  have HSP := hid hsp
  have HLB := hid hlb
  have ii := info_b1
  have iP : (Tryd.prog.info? 187).map (·.size) = some ps.length := by rw [hpl]; exact info_a32
  have uP := Tryd.underlying187
  have hn31 : ¬ (31 : Int) < (n : Int) := by omega
  clear hm hx hcs hps hbt hlb hsp hn hpl hl
  go_enter Tryd.func121, Tryd.ntmps121
  go_upto_region 4 with (fail)
  obtain ⟨v1, hv9⟩ : ∃ v, (((w.alloc (.cells #[.int .i64 (fID b), .int .u64 (limb (fP b) 0 : Int), .int .u64 (limb (fP b) 1 : Int), .int .u64 (limb (fP b) 2 : Int), .int .u64 (limb (fP b) 3 : Int), .int .u64 (fI b : Int), .int .u64 (limb (fO b) 0 : Int), .int .u64 (limb (fO b) 1 : Int), .int .u64 (limb (fO b) 2 : Int), .int .u64 (limb (fO b) 3 : Int), .int .u64 (limb (fS b) 0 : Int), .int .u64 (limb (fS b) 1 : Int), .int .u64 (limb (fS b) 2 : Int), .int .u64 (limb (fS b) 3 : Int)] 31)).alloc (.cells #[.int .u64 0, .int .u64 0, .int .u64 0, .int .u64 0] 29)).alloc (.cells #[.int .u8 0, .int .u8 0, .int .u8 0, .int .u8 0, .int .u8 0, .int .u8 0, .int .u8 0, .int .u8 0, .int .u8 0, .int .u8 0, .int .u8 0, .int .u8 0, .int .u8 0, .int .u8 0, .int .u8 0, .int .u8 0, .int .u8 0, .int .u8 0, .int .u8 0, .int .u8 0, .int .u8 0, .int .u8 0, .int .u8 0, .int .u8 0, .int .u8 0, .int .u8 0, .int .u8 0, .int .u8 0, .int .u8 0, .int .u8 0, .int .u8 0, .int .u8 0] 187)) = v := ⟨_, rfl⟩
  have hG9 : Below w.heap.size w v1 := by rw [← hv9]; go_grown
  have X_F : Blk v1 (w.heap.size) 31 [.int .i64 (fID b), .int .u64 (limb (fP b) 0 : Int), .int .u64 (limb (fP b) 1 : Int), .int .u64 (limb (fP b) 2 : Int), .int .u64 (limb (fP b) 3 : Int), .int .u64 (fI b : Int), .int .u64 (limb (fO b) 0 : Int), .int .u64 (limb (fO b) 1 : Int), .int .u64 (limb (fO b) 2 : Int), .int .u64 (limb (fO b) 3 : Int), .int .u64 (limb (fS b) 0 : Int), .int .u64 (limb (fS b) 1 : Int), .int .u64 (limb (fS b) 2 : Int), .int .u64 (limb (fS b) 3 : Int)] := by rw [← hv9]; exact Blk.alloc (Blk.alloc (Blk.new rfl) _) _
  have X_R : Blk v1 (w.heap.size + 1) 29 [.int .u64 0, .int .u64 0, .int .u64 0, .int .u64 0] := by rw [← hv9]; exact Blk.alloc (Blk.new (by simp)) _
  have X_P : Blk v1 (w.heap.size + 1 + 1) 187 [.int .u8 0, .int .u8 0, .int .u8 0, .int .u8 0, .int .u8 0, .int .u8 0, .int .u8 0, .int .u8 0, .int .u8 0, .int .u8 0, .int .u8 0, .int .u8 0, .int .u8 0, .int .u8 0, .int .u8 0, .int .u8 0, .int .u8 0, .int .u8 0, .int .u8 0, .int .u8 0, .int .u8 0, .int .u8 0, .int .u8 0, .int .u8 0, .int .u8 0, .int .u8 0, .int .u8 0, .int .u8 0, .int .u8 0, .int .u8 0, .int .u8 0, .int .u8 0] := by rw [← hv9]; exact Blk.new (by simp)
  obtain ⟨bF, hb9⟩ : ∃ k, w.heap.size = k := ⟨_, rfl⟩
  rw [hb9] at X_F
  rw [hb9] at X_R
  rw [hb9] at X_P
  have g_bF : w.heap.size ≤ bF := by rw [← hb9]; exact BW.out.size
  replace BW := hid (BW.out.trans (hG9.mono BW.out.size))
  clear hG9
  rw [hv9]
  try rw [hb9]
  clear hv9 hb9
  have zF := X_F.lt
  have zR := X_R.lt
  have HC := hid (HSA.out _ (HS.out.below BW.out))
  go_wp2_with (with_reducible show wpList _ _ _ [⟨some 13, _, _, _, _, _⟩] _ _; refine Hid.out ?_)
  refine hid ?_
  refine wpList_copy_splice (o := ⟨some 13, _, _, _, _, _⟩) rfl (.tmp 11) (.tmp 12) 79 79 rfl 5 rfl ii _ _ 32 32 n cap rfl rfl (bF + 1 + 1) 0 (List.replicate 32 (.int .u8 0)) 187 X_P cs (by rw [HLB.out]; exact (Nat.min_eq_left (by omega)).symm) (fun h0 => ⟨rfl, HC.out (by rw [← HLB.out]; exact h0)⟩) (by rw [HLB.out]; simp; omega) HB1.out (bF + 1 + 1) v1 (Below.refl _ _) (Nat.le_refl _) ?_
  intro w9 hG9 hB9
  have hXP : Blk w9 (bF + 1 + 1) 187 ps := by have h := hG9.out; rw [HSP.out] at h; exact h
  have X_P2 := hid hXP
  have X_F2 := X_F.below hB9 (by omega)
  have X_R2 := X_R.below hB9 (by omega)
  replace BW := hid (BW.out.trans (hB9.mono (by omega)))
  clear X_F X_R X_P hG9 hB9 hXP HC zF zR
  have X_F := X_F2
  have X_R := X_R2
  clear X_F2 X_R2
  have zP := X_P2.out.lt
  have rP := X_P2.out.rangeAt
  have z_F := X_F.lt
  have c_F0 := X_F.cell (i := 0) rfl
  have c_F1 := X_F.cell (i := 1) rfl
  have c_F2 := X_F.cell (i := 2) rfl
  have c_F3 := X_F.cell (i := 3) rfl
  have c_F4 := X_F.cell (i := 4) rfl
  have c_F5 := X_F.cell (i := 5) rfl
  have c_F6 := X_F.cell (i := 6) rfl
  have c_F7 := X_F.cell (i := 7) rfl
  have c_F8 := X_F.cell (i := 8) rfl
  have c_F9 := X_F.cell (i := 9) rfl
  have c_F10 := X_F.cell (i := 10) rfl
  have c_F11 := X_F.cell (i := 11) rfl
  have c_F12 := X_F.cell (i := 12) rfl
  have c_F13 := X_F.cell (i := 13) rfl
  go_upto_region 5 with (fail)
  refine wp_region_soft (C := fun W' => Below w9.heap.size w9 W') 4 (by kernel_rfl) (by kernel_rfl) ((Below.refl _ _).drew) ?_
  simp only [List.take_succ_cons, List.take_zero, List.drop_succ_cons, List.drop_zero]
  refine wpQuiet_step (fun K hK => ?_)
  rw [if_pos (by rfl)]
  refine ⟨.agg #[.int .i64 (fID b), .int .u64 (limb (fP b) 0 : Int), .int .u64 (limb (fP b) 1 : Int), .int .u64 (limb (fP b) 2 : Int), .int .u64 (limb (fP b) 3 : Int), .int .u64 (fI b : Int), .int .u64 (limb (fO b) 0 : Int), .int .u64 (limb (fO b) 1 : Int), .int .u64 (limb (fO b) 2 : Int), .int .u64 (limb (fO b) 3 : Int), .int .u64 (limb (fS b) 0 : Int), .int .u64 (limb (fS b) 1 : Int), .int .u64 (limb (fS b) 2 : Int), .int .u64 (limb (fS b) 3 : Int)], fun W' hW => ?_, hK _ ?_⟩
  · have e_0 := (hW.cell (p := ⟨bF, 0, none⟩) z_F).trans c_F0
    have e_1 := (hW.cell (p := ⟨bF, 1, none⟩) z_F).trans c_F1
    have e_2 := (hW.cell (p := ⟨bF, 2, none⟩) z_F).trans c_F2
    have e_3 := (hW.cell (p := ⟨bF, 3, none⟩) z_F).trans c_F3
    have e_4 := (hW.cell (p := ⟨bF, 4, none⟩) z_F).trans c_F4
    have e_5 := (hW.cell (p := ⟨bF, 5, none⟩) z_F).trans c_F5
    have e_6 := (hW.cell (p := ⟨bF, 6, none⟩) z_F).trans c_F6
    have e_7 := (hW.cell (p := ⟨bF, 7, none⟩) z_F).trans c_F7
    have e_8 := (hW.cell (p := ⟨bF, 8, none⟩) z_F).trans c_F8
    have e_9 := (hW.cell (p := ⟨bF, 9, none⟩) z_F).trans c_F9
    have e_10 := (hW.cell (p := ⟨bF, 10, none⟩) z_F).trans c_F10
    have e_11 := (hW.cell (p := ⟨bF, 11, none⟩) z_F).trans c_F11
    have e_12 := (hW.cell (p := ⟨bF, 12, none⟩) z_F).trans c_F12
    have e_13 := (hW.cell (p := ⟨bF, 13, none⟩) z_F).trans c_F13
    go_simp
  clear hK K
  simp only [Act.put, List.setIfInBounds_toArray, List.set_cons_zero, List.set_cons_succ]
  refine wpQuiet_step (fun K hK => ?_)
  rw [if_pos (by rfl)]
  refine ⟨.agg ps.toArray, fun W' hW => ?_, hK _ ?_⟩
  · exact quiet_mid22 _ _ rfl _ _ rfl ps _ (range_below rP hW zP) uP rfl iP
  clear hK K
  simp only [Act.put, List.setIfInBounds_toArray, List.set_cons_zero, List.set_cons_succ]
  refine wpQuiet_step (fun K hK => ?_)
  rw [if_pos (by rfl)]
  refine ⟨vec m, fun W' hW => ?_, hK _ ?_⟩
  · go_simp
    refine (N1.out _).mono ?_
    rintro e w' ⟨rfl, b⟩
    exact ⟨rfl, hW.trans (b.mono hW.size)⟩
  clear hK K
  simp only [Act.put, List.setIfInBounds_toArray, List.set_cons_zero, List.set_cons_succ]
  refine wpQuiet_step (fun K hK => ?_)
  rw [if_pos (by rfl)]
  refine ⟨vec x, fun W' hW => ?_, hK _ ?_⟩
  · go_simp
    refine (T1.out _).mono ?_
    rintro e w' ⟨rfl, b⟩
    exact ⟨rfl, hW.trans (b.mono hW.size)⟩
  clear hK K
  simp only [Act.put, List.setIfInBounds_toArray, List.set_cons_zero, List.set_cons_succ]
  refine wpQuiet_nil ?_
  intro ws0 hW9
  clear z_F c_F0 c_F1 c_F2 c_F3 c_F4 c_F5 c_F6 c_F7 c_F8 c_F9 c_F10 c_F11 c_F12 c_F13
  replace X_F := X_F.keep hW9
  replace X_R := X_R.keep hW9
  replace BW := hid (BW.out.trans (hW9.mono BW.out.size))
  clear hW9
  have z_R := X_R.lt
  have c_R0 := X_R.cell (i := 0) rfl
  have f_R0 := X_R.frozen 0
  have c_R1 := X_R.cell (i := 1) rfl
  have f_R1 := X_R.frozen 1
  have c_R2 := X_R.cell (i := 2) rfl
  have f_R2 := X_R.frozen 2
  have c_R3 := X_R.cell (i := 3) rfl
  have f_R3 := X_R.frozen 3
  have hBW := BW.out
  have zBW := hBW.size
  go_wp2
  refine bodyPost_ret (by simp only [results, Tryd.results121]; go_simp; try rfl) rfl ?_
  exact ⟨rfl, by go_grown⟩
end Go.Proofs.YtogenbggjodcnaaDoor
/-
  The reference: the number that up to 32 bytes represent.
-/
namespace Go.Proofs.YtogenbggjodcnaaDoor
open Go.RowKit

theorem wd_stop {l : List Nat} {o m : Nat} (h : l.length ≤ o + m) : ∀ d, wd l o (m + d) = wd l o m
  | 0 => rfl
  | d + 1 => by
    have e : l.getD (o + (m + d)) 0 = 0 := by rw [List.getD_eq_getElem?_getD, List.getElem?_eq_none (by omega)]; rfl
    show wd l o ((m + d) + 1) = _
    rw [wd_add, e, Nat.zero_mul, Nat.add_zero]; exact wd_stop h d
theorem wd_whole {l : List Nat} {n : Nat} (h : l.length = n) (q : Nat) : wd l (8 * q) (min 8 (n - 8 * q)) = wd l (8 * q) 8 := by
  by_cases h8 : n - 8 * q ≤ 8
  · have e := wd_stop (l := l) (o := 8 * q) (m := n - 8 * q) (by omega) (8 - (n - 8 * q))
    rw [Nat.min_eq_right h8, ← e, show n - 8 * q + (8 - (n - 8 * q)) = 8 by omega]
  · rw [Nat.min_eq_left (by omega)]
theorem words_nobyte9 (a b c d : Int) : ∀ u ∈ [Value.int .u64 a, .int .u64 b, .int .u64 c, .int .u64 d], ∀ x : Int, u ≠ .int .u8 x := by
  intro u hu x e
  subst e
  simp at hu
theorem Blk.nobyte9 {w : World} {t : TypeId} {b : Nat} {xs : List Value} (h : Blk w b t xs) (hx : ∀ u ∈ xs, ∀ x : Int, u ≠ .int .u8 x) (o : Nat) (x : Int) : w.cell? ⟨b, o, none⟩ ≠ some (.int .u8 x) := by
  intro e
  unfold Blk at h
  rw [World.cell?] at e
  simp only [h] at e
  cases hj : xs[o]? with
  | none => simp [hj] at e
  | some u =>
    simp [hj] at e
    exact hx u (List.mem_of_getElem? hj) x e
/-- 256 to the k. -/
noncomputable def up (k : Nat) : Nat := veil (256 ^ k)
theorem up_eq (k : Nat) : up k = 256 ^ k := veil_eq _
theorem up_zero : up 0 = 1 := up_eq 0
theorem up_mul {k : Nat} (hk : k < 7) : IntKind.u64.wrap ((up k : Int) * 256) = (up (k + 1) : Int) := by
  have h1 : 256 ^ (k + 1) ≤ 256 ^ 7 := Nat.pow_le_pow_right (by decide) hk
  have h2 : (256 : Nat) ^ 7 = 72057594037927936 := by decide
  have h3 := Nat.pow_succ 256 k
  rw [up_eq, up_eq, IntKind.wrap_u64]
  generalize 256 ^ k = x at *
  generalize 256 ^ (k + 1) = y at *
  omega
theorem up_byte {x r : Nat} (hx : x < 256) (hr : r < 8) : IntKind.u64.wrap ((x : Int) * (up r : Int)) = ((x * 256 ^ r : Nat) : Int) := by
  have h := byte_pow hx hr
  rw [up_eq, IntKind.wrap_u64, ← Int.natCast_mul]
  unfold B64 at h
  omega
theorem wd_plus {l : List Nat} (h : Byt l) (o : Nat) {r : Nat} (hr : r < 8) : IntKind.u64.wrap ((wd l o r : Int) + ((l.getD (o + r) 0 * 256 ^ r : Nat) : Int)) = (wd l o (r + 1) : Int) := by
  have h1 := wd_lt h o (k := r + 1) (by omega)
  have h2 := wd_add l o r
  rw [IntKind.wrap_u64]
  unfold B64 at h1
  omega
theorem wrap_byte {x : Nat} (h : x < 256) : IntKind.u64.wrap (x : Int) = (x : Int) := by rw [IntKind.wrap_u64]; omega
theorem wrap_q4 {q : Nat} (h : q < 4) : IntKind.i64.wrap (q : Int) = (q : Int) := by rw [IntKind.wrap_i64]; omega
theorem div8 {k q : Nat} (h : k / 8 = q) : (k : Int) / 8 = (q : Int) := by omega
theorem mod8 {k r : Nat} (h : k % 8 = r) : (k : Int) % 8 = (r : Int) := by omega
theorem clip_same {k q : Nat} (h : k / 8 = q) : min 8 (k - 8 * q) = k % 8 ∧ min 8 (k + 1 - 8 * q) = k % 8 + 1 := by omega
theorem clip_other {k q j : Nat} (h : k / 8 = q) (hj : j ≠ q) : min 8 (k + 1 - 8 * j) = min 8 (k - 8 * j) := by omega
set_option maxRecDepth 100000 in
set_option maxHeartbeats 4000000 in
theorem rnumber_any (v : Value) (l : List Nat) (hl : l.length ≤ 32) (w : World) (hS : ByteSl w v l) :
    Calls Tryd.prog 88 #[v] w (Ret (vec (num l)) w) := by
  have BW := hid (Below.refl w.heap.size w)
  have N_b := hid hS
  have HBT := hid hS.byt
  obtain ⟨a, cap, rfl, hcap, _⟩ := id hS
  obtain ⟨n, hn⟩ : ∃ n, l.length = n := ⟨_, rfl⟩
  have HV := hid (num_vec hS.byt)
  have HLN := hid hn
  rw [hn] at N_b hl ⊢
  have HW := hid (wd_whole hn)
  clear hS hn hcap
  go_enter Tryd.func88, Tryd.ntmps88
  go_wp2_with fail
  obtain ⟨v1, hv9⟩ : ∃ v, ((w.alloc (.cells #[.int .u64 0, .int .u64 0, .int .u64 0, .int .u64 0] 28)).alloc (.cells #[.int .u64 0, .int .u64 0, .int .u64 0, .int .u64 0] 28)) = v := ⟨_, rfl⟩
  have hG9 : Below w.heap.size w v1 := by rw [← hv9]; go_grown
  have X_R : Blk v1 (w.heap.size) 28 [.int .u64 0, .int .u64 0, .int .u64 0, .int .u64 0] := by rw [← hv9]; exact Blk.alloc (Blk.new rfl) _
  have X_O : Blk v1 (w.heap.size + 1) 28 [.int .u64 0, .int .u64 0, .int .u64 0, .int .u64 0] := by rw [← hv9]; exact Blk.new (by simp)
  obtain ⟨bR, hb9⟩ : ∃ k, w.heap.size = k := ⟨_, rfl⟩
  rw [hb9] at X_R
  rw [hb9] at X_O
  have g_bR : w.heap.size ≤ bR := by rw [← hb9]; exact BW.out.size
  replace N_b := hid (N_b.out.below hG9)
  replace BW := hid (BW.out.trans (hG9.mono BW.out.size))
  clear hG9
  rw [hv9]
  try rw [hb9]
  clear hv9 hb9
  go_loopw [4] (fun i wr => ∃ (k : Nat) (zs : List Value), k ≤ n ∧ i = .int .i64 (k : Int) ∧ Blk wr (bR + 1) 28 zs ∧ zs.length = 4 ∧ (∀ q, q < 4 → zs[q]? = some (.int .u64 (wd l (8 * q) (min 8 (k - 8 * q)) : Int))) ∧ Only (fun j => j = bR + 1) v1 wr) (fun i _ => n - (intOf i).toNat)
  case atStart => exact ⟨0, _, Nat.zero_le _, rfl, X_O, rfl, fun q hq => by rw [Nat.zero_sub, Nat.min_zero, wd_zero]; match q, hq with | 0, _ => rfl | 1, _ => rfl | 2, _ => rfl | 3, _ => rfl, Only.refl _ _⟩
  case round =>
    obtain ⟨k, zs, hk, rfl, hX, hz4, hz, hO⟩ := hrel
    have HX := hid hX
    have HZ4 := hid hz4
    have HZ := hid hz
    have ON := hid hO
    have zO := hX.lt
    have hBB := N_b.out.only ON.out (fun k o x hk => by subst hk; exact X_O.nobyte9 (words_nobyte9 0 0 0 0) o x)
    have N_c := hid hBB
    clear hX hz4 hz hO hBB
    by_cases hlt : k < n
    · skip
      obtain ⟨g, off, rfl⟩ := N_b.out.ptr (by rw [HLN.out]; omega)
      have hk32 : k < 32 := by omega
      have hk32i : (k : Int) < 32 := by omega
      have hkni : (k : Int) < (n : Int) := by omega
      obtain ⟨q, hq⟩ : ∃ q, k / 8 = q := ⟨_, rfl⟩
      obtain ⟨r, hr⟩ : ∃ r, k % 8 = r := ⟨_, rfl⟩
      have zq := div8 hq
      have zr := mod8 hr
      obtain ⟨e1, e2⟩ := clip_same hq
      have hq4 : q < 4 := by omega
      have hr8 : r < 8 := by omega
      have hqr : 8 * q + r = k := by omega
      rw [hr] at e1 e2
      have hzq := HZ.out q hq4
      rw [e1] at hzq
      have HZQ := hid hzq
      have HE2 := hid e2
      have HQ := hid hq
      have HQR := hid hqr
      clear e1 e2 hq hr hzq hqr
      obtain ⟨wo, hwo⟩ : ∃ v, v = wr := ⟨_, rfl⟩
      subst hwo
      go_wp2_with fail
      go_loopw [5, 6] (fun u i wy => ∃ j : Nat, j ≤ r ∧ i = .int .i64 (j : Int) ∧ u = .int .u64 (up j : Int) ∧ Below wo.heap.size wo wy) (fun _ i _ => r - (intOf i).toNat)
      case atStart => exact ⟨0, Nat.zero_le _, rfl, by rw [up_zero]; rfl, Below.refl _ _⟩
      case round =>
        obtain ⟨j, hj, rfl, rfl, hB⟩ := hrel
        have BY := hid hB
        clear hB
        by_cases hjr : j < r
        · skip
          have E := hid (up_mul (k := j) (by omega))
          go_wp2
          go_roundw
          case rel => exact ⟨j + 1, by omega, by go_num, by rw [E.out], BY.out⟩
          case measure => simp [intOf]; omega
        · skip
          obtain rfl : r = j := by omega
          have XO := HX.out.keep BY.out
          have cO := XO.cell HZQ.out
          have fO := XO.frozen q
          have zO2 := XO.lt
          have HXO := hid XO
          have N_d := hid (N_c.out.below BY.out)
          have cB := N_d.out.at (j := k) (by rw [HLN.out]; exact hlt)
          have zB := N_d.out.lt (by rw [HLN.out]; omega)
          have hx := HBT.out.getD k
          obtain ⟨x, hx9⟩ : ∃ x, l.getD k 0 = x := ⟨_, rfl⟩
          have E1 := up_byte hx hr8
          have E2 := wd_plus HBT.out (8 * q) hr8
          rw [HQR.out] at E2
          rw [hx9] at cB E1 E2 hx
          have zx : IntKind.u64.wrap (x : Int) = (x : Int) := wrap_byte hx
          obtain ⟨m, hm⟩ : ∃ m, x * 256 ^ r = m := ⟨_, rfl⟩
          rw [hm] at E1 E2
          obtain ⟨y, hy⟩ : ∃ y, wd l (8 * q) r = y := ⟨_, rfl⟩
          rw [hy] at cO E2
          obtain ⟨z, hz⟩ : ∃ z, wd l (8 * q) (r + 1) = z := ⟨_, rfl⟩
          rw [hz] at E2
          have hqi : (q : Int) < 4 := by omega
          have zqw : IntKind.i64.wrap (q : Int) = (q : Int) := wrap_q4 hq4
          have X_Z := HXO.out
          have hq0 : (0 : Int) ≤ (q : Int) := by omega
          have hk0 : (0 : Int) ≤ (k : Int) := by omega
          have HZZ := hid hz
          clear hx9 hm hy hz XO hx
          go_wp2_with fail
          refine wp_region_soft (C := fun W' => Below wr.heap.size wr W') 13 (by kernel_rfl) (by kernel_rfl) ((Below.refl _ _).drew) ?_
          simp only [List.take_succ_cons, List.take_zero, List.drop_succ_cons, List.drop_zero]
          refine wpQuiet_step (fun K hK => ?_)
          rw [if_pos (by rfl)]
          refine ⟨.int .i64 (k : Int), fun W' hW => ?_, hK _ ?_⟩
          · go_simp
          clear hK K
          simp only [Act.put, List.setIfInBounds_toArray, List.set_cons_zero, List.set_cons_succ]
          refine wpQuiet_step (fun K hK => ?_)
          rw [if_pos (by rfl)]
          refine ⟨.int .i64 (q : Int), fun W' hW => ?_, hK _ ?_⟩
          · go_simp
          clear hK K
          simp only [Act.put, List.setIfInBounds_toArray, List.set_cons_zero, List.set_cons_succ]
          refine wpQuiet_step (fun K hK => ?_)
          rw [if_pos (by rfl)]
          refine ⟨.pointer (some ⟨bR + 1, q, none⟩), fun W' hW => ?_, hK _ ?_⟩
          · go_simp
          clear hK K
          simp only [Act.put, List.setIfInBounds_toArray, List.set_cons_zero, List.set_cons_succ]
          refine wpQuiet_step (fun K hK => ?_)
          rw [if_pos (by rfl)]
          refine ⟨.int .u64 (y : Int), fun W' hW => ?_, hK _ ?_⟩
          · have e_0 := (hW.cell (p := ⟨bR + 1, q, none⟩) zO2).trans cO
            go_simp
          clear hK K
          simp only [Act.put, List.setIfInBounds_toArray, List.set_cons_zero, List.set_cons_succ]
          refine wpQuiet_step (fun K hK => ?_)
          rw [if_pos (by rfl)]
          refine ⟨.slice (some ⟨g, off, none⟩) n cap, fun W' hW => ?_, hK _ ?_⟩
          · go_simp
          clear hK K
          simp only [Act.put, List.setIfInBounds_toArray, List.set_cons_zero, List.set_cons_succ]
          refine wpQuiet_step (fun K hK => ?_)
          rw [if_pos (by rfl)]
          refine ⟨.int .i64 (k : Int), fun W' hW => ?_, hK _ ?_⟩
          · go_simp
          clear hK K
          simp only [Act.put, List.setIfInBounds_toArray, List.set_cons_zero, List.set_cons_succ]
          refine wpQuiet_step (fun K hK => ?_)
          rw [if_pos (by rfl)]
          refine ⟨.pointer (some ⟨g, off + k, none⟩), fun W' hW => ?_, hK _ ?_⟩
          · go_simp
          clear hK K
          simp only [Act.put, List.setIfInBounds_toArray, List.set_cons_zero, List.set_cons_succ]
          refine wpQuiet_step (fun K hK => ?_)
          rw [if_pos (by rfl)]
          refine ⟨.int .u8 (x : Int), fun W' hW => ?_, hK _ ?_⟩
          · have e_0 := (hW.cell (p := ⟨g, off + k, none⟩) zB).trans cB
            go_simp
          clear hK K
          simp only [Act.put, List.setIfInBounds_toArray, List.set_cons_zero, List.set_cons_succ]
          refine wpQuiet_step (fun K hK => ?_)
          rw [if_pos (by rfl)]
          refine ⟨.int .u64 (x : Int), fun W' hW => ?_, hK _ ?_⟩
          · go_simp
          clear hK K
          simp only [Act.put, List.setIfInBounds_toArray, List.set_cons_zero, List.set_cons_succ]
          refine wpQuiet_step (fun K hK => ?_)
          rw [if_pos (by rfl)]
          refine ⟨.int .u64 (up r : Int), fun W' hW => ?_, hK _ ?_⟩
          · go_simp
          clear hK K
          simp only [Act.put, List.setIfInBounds_toArray, List.set_cons_zero, List.set_cons_succ]
          refine wpQuiet_step (fun K hK => ?_)
          rw [if_pos (by rfl)]
          refine ⟨.int .u64 (m : Int), fun W' hW => ?_, hK _ ?_⟩
          · go_simp
          clear hK K
          simp only [Act.put, List.setIfInBounds_toArray, List.set_cons_zero, List.set_cons_succ]
          refine wpQuiet_step (fun K hK => ?_)
          rw [if_pos (by rfl)]
          refine ⟨.int .u64 (z : Int), fun W' hW => ?_, hK _ ?_⟩
          · go_simp
          clear hK K
          simp only [Act.put, List.setIfInBounds_toArray, List.set_cons_zero, List.set_cons_succ]
          refine wpQuiet_step (fun K hK => ?_)
          rw [if_pos (by rfl)]
          refine ⟨.pointer (some ⟨bR + 1, q, none⟩), fun W' hW => ?_, hK _ ?_⟩
          · go_simp
          clear hK K
          simp only [Act.put, List.setIfInBounds_toArray, List.set_cons_zero, List.set_cons_succ]
          refine wpQuiet_nil ?_
          intro ws0 hW9
          replace X_Z := X_Z.keep hW9
          replace BY := hid (BY.out.trans (hW9.mono BY.out.size))
          clear hW9
          clear cO fO zO2 cB zB
          have cO := X_Z.cell HZQ.out
          have fO := X_Z.frozen q
          have zO2 := X_Z.lt
          go_wp2
          go_roundw
          case rel => exact ⟨k + 1, _, by omega, by go_num, X_Z.set q _, by rw [List.length_set]; exact HZ4.out, fun j hj => by
            by_cases e : j = q
            · subst e
              rw [List.getElem?_set_self (by rw [HZ4.out]; exact hj), HE2.out, HZZ.out]
            · rw [List.getElem?_set_ne (Ne.symm e), clip_other HQ.out e]
              exact HZ.out j hj, (ON.out.call BY.out).setCell (p := ⟨bR + 1, q, none⟩) (.inl rfl) _⟩
          case measure => simp [intOf]; omega
    · skip
      obtain rfl : n = k := by omega
      obtain rfl := row_four (f := fun q => .int .u64 (wd l (8 * q) 8 : Int)) (fun q hq => by have := HZ.out q hq; rw [HW.out q] at this; exact this) HZ4.out
      have XO := HX.out
      have XR := X_R.only ON.out (by omega)
      have zR := XR.lt
      have hB := BW.out.trans (ON.out.below (n := w.heap.size) (fun q e => by subst e; omega) BW.out.size)
      have zB := hB.size
      have cO0 := XO.cell (i := 0) rfl
      have cO1 := XO.cell (i := 1) rfl
      have cO2 := XO.cell (i := 2) rfl
      have cO3 := XO.cell (i := 3) rfl
      have cR0 := XR.cell (i := 0) rfl
      have cR1 := XR.cell (i := 1) rfl
      have cR2 := XR.cell (i := 2) rfl
      have cR3 := XR.cell (i := 3) rfl
      have fR0 := XR.frozen 0
      have fR1 := XR.frozen 1
      have fR2 := XR.frozen 2
      have fR3 := XR.frozen 3
      go_wp2
      refine bodyPost_ret (by simp only [results, Tryd.results88]; go_simp; try rfl) rfl ?_
      exact ⟨congrArg _ HV.out, by go_grown⟩
end Go.Proofs.YtogenbggjodcnaaDoor
/-
  The reference: the values of the chunks of a secret.
-/
namespace Go.Proofs.YtogenbggjodcnaaDoor
open Go.RowKit

attribute [local go_sem] Oper.semAt_some
/-- The numbers of the chunks. -/
noncomputable def chn (l : List Nat) : List Nat := (List.range ((l.length + 30) / 31)).map fun i => num ((l.drop (31 * i)).take 31)
theorem chn_len (l : List Nat) : (chn l).length = (l.length + 30) / 31 := by simp [chn]
theorem chn_get {l : List Nat} {k : Nat} (h : k < (l.length + 30) / 31) : (chn l)[k]? = some (num ((l.drop (31 * k)).take 31)) := by
  unfold chn; rw [List.getElem?_map, List.getElem?_range h]; rfl
theorem chn_lt {l : List Nat} (h : Byt l) : ∀ x ∈ chn l, x < B256 := fun x hx => by
  obtain ⟨i, _, rfl⟩ := List.mem_map.1 hx
  exact num_lt ((h.drop _).take _)
theorem part31 {l : List Nat} {n i m : Nat} (hn : l.length = n) (hm : min (i + 31) n = m) : (l.drop i).take (m - i) = (l.drop i).take 31 := by
  by_cases h : i + 31 ≤ n
  · rw [show m - i = 31 by omega]
  · rw [List.take_of_length_le (by rw [List.length_drop]; omega), List.take_of_length_le (by rw [List.length_drop]; omega)]
theorem min9_int {a b c : Int} (ats : Array TypeId) (ty : TypeId) (h : (if a > b then b else a) = c) : Builtin.min_ ats ty #[.int .i64 a, .int .i64 b] = pure (.int .i64 c) := by
  rw [← h]
  rfl
theorem info_v9 : (Tryd.prog.info? 28).map (fun i => (i.zero, i.size, i.bytes)) = some (some (.agg #[.int .u64 0, .int .u64 0, .int .u64 0, .int .u64 0]), 4, 32) := by kernel_rfl
set_option maxRecDepth 100000 in
set_option maxHeartbeats 4000000 in
theorem rsplit_any (v : Value) (l : List Nat) (hl : l.length ≤ 65535) (w : World) (hS : ByteSl w v l) :
    Calls Tryd.prog 48 #[v] w (RetE 28 (chn l) 0 w) := by
  have BW := hid (Below.refl w.heap.size w)
  have N_b := hid hS
  have HBT := hid hS.byt
  obtain ⟨a, cap, rfl, hcap, _⟩ := id hS
  obtain ⟨n, hn⟩ : ∃ n, l.length = n := ⟨_, rfl⟩
  have HLN := hid hn
  have HCN := hid (fun k => chn_get (l := l) (k := k))
  have HCL := hid (chn_len l)
  rw [hn] at N_b hl hcap HCN HCL ⊢
  obtain ⟨c, hc⟩ : ∃ c, (n + 30) / 31 = c := ⟨_, rfl⟩
  rw [hc] at HCN HCL
  have HCC := hid hc
  clear hS hn hc
  obtain ⟨i0, hi, hz0, hz1, hz2⟩ := info_parts info_v9
  have hn6 : ¬ (65535 : Int) < (n : Int) := by omega
  have hcb : c < 10000 := by have := HCC.out; omega
  go_enter Tryd.func48, Tryd.ntmps48
  go_wp2
  go_loopw [4, 5] (fun y ix wr => ∃ (k i : Nat) (z9 : Value), z9 = y ∧ i = 31 * k ∧ k ≤ c ∧ ix = .int .i64 (i : Int) ∧ Below w.heap.size w wr ∧ wr.ownsRow w.heap.size 28 4 y k (nums ((chn l).take k))) (fun _ ix _ => n + 31 - (intOf ix).toNat)
  case atStart => exact ⟨0, 0, _, rfl, rfl, Nat.zero_le _, rfl, Below.refl _ _, by simpa [nums] using World.ownsRow_nil _ _ _ _⟩
  case round =>
    obtain ⟨k, i, yv, rfl, hik, hk, rfl, hB, hO⟩ := hrel
    have N_y := hid hO
    have HIK := hid hik
    clear hO hik
    obtain ⟨v1, hv9⟩ : ∃ v, v = wr := ⟨_, rfl⟩
    subst hv9
    have HB := hid hB
    replace N_b := hid (N_b.out.below hB)
    replace BW := hid (BW.out.trans (hB.mono BW.out.size))
    clear hB
    by_cases hlt : i < n
    · skip
      have hkc : k < c := by have := HCC.out; have := HIK.out; omega
      obtain ⟨g, off, rfl⟩ := N_b.out.ptr (by rw [HLN.out]; omega)
      obtain ⟨m, hm⟩ : ∃ m, min (i + 31) n = m := ⟨_, rfl⟩
      have hi0 : (0 : Int) ≤ (i : Int) := by omega
      have him : (i : Int) ≤ (m : Int) := by omega
      have hmc : (m : Int) ≤ (cap : Int) := by omega
      have hin : (i : Int) < (n : Int) := by omega
      have hci : ¬ (cap = i) := by omega
      have um1 : (if (i : Int) + 31 > (n : Int) then (n : Int) else (i : Int) + 31) = (m : Int) := by split <;> omega
      have HUM := fun (ats : Array TypeId) (ty : TypeId) => min9_int ats ty um1
      clear um1
      have HP := part31 HLN.out hm
      have N_p := hid (N_b.out.part i (m - i) (cap - i) (by rw [HLN.out]; omega) (by omega))
      have hpl : ((l.drop i).take (m - i)).length ≤ 32 := by simp; omega
      rw [show (some (⟨g, off, none⟩ : Addr)).map (·.add i) = some ⟨g, off + i, none⟩ by simp [Addr.add], HP] at N_p
      rw [HP] at hpl
      have hz : (chn l)[k]? = some (num ((l.drop i).take 31)) := by rw [HIK.out]; exact HCN.out k hkc
      have T1 := hid (take_next hz)
      have NC := hid (fun (W : World) (h : ByteSl W (.slice (some ⟨g, off + i, none⟩) (m - i) (cap - i)) ((l.drop i).take 31)) => rnumber_any _ ((l.drop i).take 31) hpl W h)
      obtain ⟨z, hz9⟩ : ∃ z, num ((l.drop i).take 31) = z := ⟨_, rfl⟩
      rw [hz9] at NC T1
      clear hz9 hz hm HP hpl
      go_wp2_with (first
        | (go_at_call 88; refine (NC.out _ N_p.out).mono ?_; rintro e w1 ⟨rfl, b1⟩; have B1 := hid (HB.out.trans (b1.mono HB.out.size)); have O6a := hid (owns_keep N_y.out b1); clear b1)
        | (at_builtin; refine wpList_append_own _ rfl _ _ 23 rfl w.heap.size 28 i0 _ 4 32 Tryd.underlying23 hi hz0 hz1 hz2 rfl (by decide) _ k _ rfl (O6a.out.alloc _) ⟨w1.heap.size, 0, none⟩ 1 1 (limbs z) rfl rfl (Blk.news (t := 28) (Blk.new (by simp))) (by simp [Value.oneCell']) (by unfold maxLen; omega) (by omega) (by have := B1.out.size; simp; omega) ?_; intro v6 w2 ho hg2 _))
      have B2 := hid (Below.grown (B1.out.alloc B1.out.size _) hg2 (by have := B1.out.size; simp; omega) (fun j hj => by have := (O6a.out.lt j hj).1; omega))
      have ho' : w2.ownsRow w.heap.size 28 4 v6 (k + 1) (nums ((chn l).take (k + 1))) := by rw [T1.out, nums_snoc]; exact ho
      go_roundw
      case rel => exact ⟨k + 1, i + 31, _, rfl, by have := HIK.out; omega, by omega, by go_num, B2.out, ho'⟩
      case measure => simp [intOf]; omega
    · skip
      obtain rfl : c = k := by have := HCC.out; have := HIK.out; omega
      have hys := N_y.out
      rw [List.take_of_length_le (by rw [HCL.out]; exact Nat.le_refl _)] at hys
      have HYS := hid hys
      clear hys N_y
      have hin : ¬ (i : Int) < (n : Int) := by omega
      go_wp2
      refine bodyPost_ret (by simp only [results, Tryd.results48]; go_simp; try rfl) rfl ?_
      exact ⟨_, rfl, by rw [HCL.out]; exact HYS.out, BW.out⟩
end Go.Proofs.YtogenbggjodcnaaDoor
/-
  A range over a function whose elements are spelled as the world at hand has them (slices that the iterator makes); a region that draws its order, in a round, by the plain laws. No program.
-/
namespace Go.Proofs.YtogenbggjodcnaaDoor
open Go.RowKit

/-- THE ITERATOR's CONTRACT: it hands the elements xs to yield, one by one, each spelled by Enc, until a round says no. -/
def SeqR {α : Type} (P : Program) (g : Nat) (lb : Array Value) (Enc : α → Array Value → World → Prop) (Kp : World → World → Prop) (xs : List α) (W : World) : Prop :=
  ∀ (l : Nat) (J Jx : List α → World → Prop), (∀ pre, Soft W.heap.size (J pre)) → (∀ pre, Soft W.heap.size (Jx pre)) →
    (∀ pre x args W1, J pre W1 → Enc x args W1 → pre ++ [x] <+: xs → Yields P l args W1 fun e W' =>
      (e = .returned (.bool true) ∧ J (pre ++ [x]) W' ∧ Kp W1 W') ∨ (e = .returned (.bool false) ∧ Jx (pre ++ [x]) W')) →
    J [] W → Calls P g (#[.func (.yield l) #[] #[]] ++ lb) W fun e W' => (∃ v, e = .returned v) ∧ (J xs W' ∨ ∃ pre, pre <+: xs ∧ Jx pre W')

/-- THE CALLER's LAW. -/
theorem wpIn_eachR {P : Program} {n : Nat} {α : Type} {g : Operand} {ps : Array Tmp} {assign body : Code} {Q : Exit → Act → World → Prop} {a : Act} {w : World}
    {gf : Nat} {lb : Array Value} (hg : a.eval g = .func (.func gf) #[] lb) (eg : ∀ args w, (callFunc gf args).run P w = .ok (.enter gf args) w)
    {Enc : α → Array Value → World → Prop} {Kp : World → World → Prop} {xs : List α} (hseq : ∀ W, Grow w.heap.size w W → SeqR P gf lb Enc Kp xs W)
    (hKt : ∀ {A B C : World}, Kp A B → Kp B C → Kp A C) (hKb : ∀ A B : World, Grow w.heap.size A B → Kp A B) (hps : ∀ x args W, Enc x args W → args.size = ps.size)
    (I : List α → World → Prop) (Ix : Code → List α → World → Prop) (hI : ∀ pre, Soft w.heap.size (I pre)) (hIx : ∀ c pre, Soft w.heap.size (Ix c pre)) (h0 : I [] w)
    (hround : ∀ (m l : Nat) (pre : List α) (x : α) (args : Array Value) (W : World), I pre W → Enc x args W → pre ++ [x] <+: xs → w.heap.size < l →
      assign.wpIn (Fence.wide.inRound l) m P (Exit.then (fun a₁ W₁ => Stay W W₁ ∧ ∀ W₂, Grow w.heap.size W₁ W₂ → body.wpIn (Fence.wide.inRound l) m P (eachPost Kp I Ix (pre ++ [x]) W W₂) a₁ W₂) (fun _ _ _ => False))
        { tmps := (ps.zip args).foldl (fun t (p, v) => t.setIfInBounds p v) a.tmps, defers := [] } W)
    (hdone : ∀ (D : Nat) (W : World), w.heap.size ≤ D → I xs W → W.heap[D]? = some (.deferred (some [])) → Q .normal { a with defers := { target := .collected D, args := #[] } :: a.defers } W)
    (hstop : ∀ (D : Nat) (c : Code) (pre : List α) (W : World), w.heap.size ≤ D → pre <+: xs → Ix c pre W → W.heap[D]? = some (.deferred (some [])) → c.wpIn Fence.wide n P Q { a with defers := { target := .collected D, args := #[] } :: a.defers } W) :
    (Code.rangeFunc g ps assign body).wpIn Fence.wide n P Q a w := by
  refine wpIn_rangeFunc ?_
  intro fn _
  obtain ⟨rc, hrc⟩ : ∃ rc : LoopState → Option Code → Loop, rc = fun st pe => { state := st, pending := pe, fn, tmps := a.tmps, params := ps, assign, body, defers := w.heap.size } := ⟨_, rfl⟩
  have hent : (Instr.enterLoop fn a.tmps ps assign body none).run P w = .ok (w.heap.size + 1, [{ target := .collected w.heap.size, args := #[] }]) ((w.alloc (.deferred (some []))).alloc (.loop (rc .ready none))) := by
    rw [hrc]; exact run_enterLoop_outer _ _ _ _ _
  have hL1 : ((w.alloc (.deferred (some []))).alloc (.loop (rc .ready none))).heap[w.heap.size + 1]? = some (.loop (rc .ready none)) := by
    have := World.alloc_heap_new (w.alloc (.deferred (some []))) (.loop (rc .ready none)); rwa [World.size_alloc] at this
  have hD1 : ((w.alloc (.deferred (some []))).alloc (.loop (rc .ready none))).heap[w.heap.size]? = some (.deferred (some [])) :=
    (Below.heap_alloc _ _ _ (by simp)).trans (World.alloc_heap_new w _)
  have hG1 : Grow w.heap.size w ((w.alloc (.deferred (some []))).alloc (.loop (rc .ready none))) := ((Grow.refl _ w).alloc _).alloc _
  have hz1 : ((w.alloc (.deferred (some []))).alloc (.loop (rc .ready none))).heap.size = w.heap.size + 2 := by simp
  generalize (w.alloc (.deferred (some []))).alloc (.loop (rc .ready none)) = W1 at hent hL1 hD1 hG1 hz1
  refine ⟨w.heap.size + 1, [{ target := .collected w.heap.size, args := #[] }], W1, { target := .fn (.func gf) lb, args := #[.func (.yield (w.heap.size + 1)) #[] #[]] }, W1, gf,
    #[.func (.yield (w.heap.size + 1)) #[] #[]] ++ lb, W1, hent, ?_, fun _ _ => trivial, ?_, (fun h => by cases h), callsIn_wide.2 ?_⟩
  · simp only [resolve, hg]
    simp [go_sem]
  · simp [invoke, go_sem, eg]
  refine (hseq W1 hG1 (w.heap.size + 1)
    (fun pre W => I pre W ∧ W.heap[w.heap.size + 1]? = some (.loop (rc .ready none)) ∧ W.heap[w.heap.size]? = some (.deferred (some [])))
    (fun pre W => ∃ c, Ix c pre W ∧ W.heap[w.heap.size + 1]? = some (.loop (rc .done (some c))) ∧ W.heap[w.heap.size]? = some (.deferred (some [])))
    (fun pre A B h k => ⟨hI pre A B h.1 (k.mono (by omega)), k.block _ _ h.2.1 (.inl (by omega)), k.block _ _ h.2.2 (.inl (by omega))⟩)
    (fun pre A B h k => by obtain ⟨c, hc, hl, hd⟩ := h; exact ⟨c, hIx c pre A B hc (k.mono (by omega)), k.block _ _ hl (.inl (by omega)), k.block _ _ hd (.inl (by omega))⟩)
    ?_ ⟨hI _ _ _ h0 hG1, hL1, hD1⟩).mono ?_
  · rintro pre x args W ⟨hi, hl, hd⟩ henc hpre m
    have hy := run_yield (P := P) (args := args) hl (by rw [hrc]; exact hps x args W henc)
    rw [hrc] at hy
    refine ⟨fn, _, assign, body, hy, roundIn_of_wpIn trivial (wpIn_mono (hround m (w.heap.size + 1) pre x args W hi henc hpre (by omega)) ?_)⟩
    clear hy
    rintro e a₁ Wa h
    cases e with
    | normal =>
      obtain ⟨hst, hb⟩ := h
      have hl2 := hst.block _ _ hl (.inr rfl)
      have hd2 := hst.block _ _ hd (.inr rfl)
      refine ⟨_, run_beginRound hl2 (by rw [hrc]), ?_⟩
      have hg2 : Grow w.heap.size Wa (Wa.putObj (w.heap.size + 1) (.loop { rc .ready none with state := .busy })) := (Grow.refl _ Wa).putObj _ (by omega) hl2 rfl
      have hl3 : (Wa.putObj (w.heap.size + 1) (.loop { rc .ready none with state := .busy })).heap[w.heap.size + 1]? = some (.loop { rc .ready none with state := .busy }) := World.putObj_heap_same (heap_lt hl2)
      have hd3 : (Wa.putObj (w.heap.size + 1) (.loop { rc .ready none with state := .busy })).heap[w.heap.size]? = some (.deferred (some [])) := (World.putObj_heap_other (by omega)).trans hd2
      refine wpIn_mono (hb _ hg2) ?_
      have fin : ∀ (jump : Option Code) (W3 : World), Stay (Wa.putObj (w.heap.size + 1) (.loop { rc .ready none with state := .busy })) W3 →
          ∃ W4, (Instr.endRound (w.heap.size + 1) jump).run P W3 = .ok (.bool jump.isNone) W4 ∧ Grow w.heap.size W3 W4 ∧
          W4.heap[w.heap.size + 1]? = some (.loop (rc (if jump.isNone then .ready else .done) jump)) ∧ W4.heap[w.heap.size]? = some (.deferred (some [])) := fun jump W3 hs3 => by
        have hl4 := hs3.block _ _ hl3 (.inr rfl)
        have hd4 := hs3.block _ _ hd3 (.inr rfl)
        have hr := run_endRound (P := P) jump hl4
        rw [hrc] at hr
        refine ⟨_, hr, (Grow.refl _ W3).putObj _ (by omega) hl4 rfl, ?_, (World.putObj_heap_other (by omega)).trans hd4⟩
        rw [hrc]
        exact World.putObj_heap_same (heap_lt hl4)
      rintro e a3 W3 hp
      cases e with
      | normal =>
        obtain ⟨hs3, hk3, hi3⟩ := hp
        obtain ⟨W4, hr, hg4, hl4, hd4⟩ := fin none W3 hs3
        exact ⟨_, _, hr, .inl ⟨rfl, ⟨hI _ _ _ hi3 hg4, hl4, hd4⟩, hKt hk3 (hKb _ _ hg4)⟩⟩
      | ret =>
        obtain ⟨hs3, hi3⟩ := hp
        obtain ⟨W4, hr, hg4, hl4, hd4⟩ := fin (some .ret) W3 hs3
        exact ⟨_, _, hr, .inr ⟨rfl, .ret, hIx _ _ _ _ hi3 hg4, hl4, hd4⟩⟩
      | exit id =>
        obtain ⟨hs3, hi3⟩ := hp
        obtain ⟨W4, hr, hg4, hl4, hd4⟩ := fin (some (.exit id)) W3 hs3
        exact ⟨_, _, hr, .inr ⟨rfl, .exit id, hIx _ _ _ _ hi3 hg4, hl4, hd4⟩⟩
      | goto t =>
        obtain ⟨hs3, hi3⟩ := hp
        obtain ⟨W4, hr, hg4, hl4, hd4⟩ := fin (some (.goto t)) W3 hs3
        exact ⟨_, _, hr, .inr ⟨rfl, .goto t, hIx _ _ _ _ hi3 hg4, hl4, hd4⟩⟩
      | panic ch => exact hp.elim
      | outgrown => exact hp.elim
    | exit id => exact h.elim
    | goto t => exact h.elim
    | ret => exact h.elim
    | panic ch => exact h.elim
    | outgrown => exact h.elim
  · rintro e W2 ⟨⟨v, rfl⟩, h⟩
    rcases h with ⟨hi, hl, hd⟩ | ⟨pre, hpre, c, hi, hl, hd⟩
    · have hg : Grow w.heap.size W2 (W2.putObj (w.heap.size + 1) (.loop { rc .ready none with state := .exhausted })) := (Grow.refl _ W2).putObj _ (by omega) hl rfl
      exact ⟨none, _, by have := run_endLoop (P := P) hl (by rw [hrc]; simp); rw [hrc] at this ⊢; exact this, hdone w.heap.size _ (Nat.le_refl _) (hI _ _ _ hi hg) ((World.putObj_heap_other (by omega)).trans hd)⟩
    · have hg : Grow w.heap.size W2 (W2.putObj (w.heap.size + 1) (.loop { rc .done (some c) with state := .exhausted })) := (Grow.refl _ W2).putObj _ (by omega) hl rfl
      exact ⟨some c, _, by have := run_endLoop (P := P) hl (by rw [hrc]; simp); rw [hrc] at this ⊢; exact this, hstop w.heap.size c pre _ (Nat.le_refl _) hpre (hIx _ _ _ _ hi hg) ((World.putObj_heap_other (by omega)).trans hd)⟩

section
variable {n l0 : Nat} {P : Program} {ops : Array Oper} {md : Region.Mode} {S : World → Prop} {Q Q' : Exit → Act → World → Prop}
theorem rows_in_round {m : Nat} {row : String} {args : Array Value} {w : World} {R : Value → World → Prop} (h : Rows P row args w R) : RowsIn (Fence.wide.inRound l0) m P row args w R := fun c cs _ => by
  obtain ⟨v, w', r, s⟩ := h c cs
  refine ⟨v, w', r, ?_⟩
  rw [fenced_inRound]
  exact stepsIn_wide.2 s
/-- An operation that is no defer statement, in a round. -/
theorem op_in_round_plain {o : Oper} {a : Act} {w : World} {K K' : Act → World → Prop} (hnd : ∀ c, o.op ≠ .defer c) (hl : ¬ LetsOut Q) (hQ : ∀ c a w, Q (.panic c) a w → Q' (.panic c) a w) (h : ∀ a w, K a w → K' a w) (hh : o.wp P a w K Q) : o.wpIn (Fence.wide.inRound l0) n P a w K' Q' := by
  unfold Oper.wp at hh
  unfold Oper.wpIn
  refine ⟨fun _ _ => trivial, ?_⟩
  rw [Oper.semAt_eq _ _ _ hnd]
  generalize (execOp a.eval o).run P w = r at *
  cases r with
  | ok x w' =>
    cases x <;> simp only [Oper.upon] at hh <;> simp only [Oper.uponIn]
    case value u => exact h _ _ hh
    case skip => exact h _ _ hh
    case defer d => exact h _ _ hh
    case enter f args =>
      refine ⟨(fun h => by cases h), (CallsIn.inRound l0 (callsIn_wide.2 hh)).mono fun e w'' he => ?_⟩
      cases e with
      | returned v => exact h _ _ he
      | panicked c => exact hQ _ _ _ he
      | outgrown => exact absurd he hl
    case row row args => exact ⟨(fun h => by cases h), rows_in_round (Rows.mono hh fun _ _ he => h _ _ he)⟩
  | halt x w' =>
    cases x <;> simp only [Oper.upon] at hh <;> simp only [Oper.uponIn]
    case panic u => exact hQ _ _ _ hh
theorem opAny_in_round {i : Nat} {a : Act} {w : World} {K K' : Act → World → Prop} (hnd : noDefer ops.toList = true) (hl : ¬ LetsOut Q) (hQ : ∀ c a w, Q (.panic c) a w → Q' (.panic c) a w) (h : ∀ a w, K a w → K' a w)
    (hh : wpOp P ops Q i K a w) : wpOpIn (Fence.wide.inRound l0) n P ops Q' i K' a w := by
  unfold wpOp at hh
  unfold wpOpIn
  split
  · rename_i ho; simp only [ho] at hh; exact h _ _ hh
  · rename_i o ho
    simp only [ho] at hh
    have hm : o ∈ ops.toList := by rw [Array.mem_toList_iff]; exact Array.mem_of_getElem? ho
    split
    · rename_i hw
      simp only [hw, if_true] at hh
      rcases hh with hh | ⟨_, hlo⟩
      · exact op_in_round_plain (noDefer_spec hnd hm) hl hQ h hh
      · exact absurd hlo hl
    · rename_i hw; simp only [hw] at hh; exact ⟨fun _ _ => trivial, h _ _ hh⟩
theorem anyP_in_round (hnd : noDefer ops.toList = true) (hl : ¬ LetsOut Q) (hQ : ∀ c a w, Q (.panic c) a w → Q' (.panic c) a w) (hN : ∀ a w, Q .normal a w → Q' .normal a w) : ∀ (fuel : Nat) (listed : Array Bool) (a : Act) (w : World),
    wpAny P md ops Q fuel listed a w → wpAnyIn (Fence.wide.inRound l0) n P md ops Q' fuel listed a w
  | 0, _, _, _, h => ⟨h.1, hN _ _ h.2⟩
  | fuel + 1, _, _, _, h => ⟨fun h0 => hN _ _ (h.1 h0), fun i hi => opAny_in_round hnd hl hQ (fun a' w' h' => anyP_in_round hnd hl hQ hN fuel _ a' w' h') (h.2 i hi)⟩
/-- How a region in a round ends: it goes on. -/
def onlyN (Q' : Exit → Act → World → Prop) : Exit → Act → World → Prop := fun e a w => e = .normal ∧ Q' .normal a w
/-- THE REGION IN A ROUND, with a condition that holds throughout. -/
theorem wpIn_round_held {id : Nat} {a : Act} {w : World} {l : List Oper} (hm : P.follows .mixedOrders = true) (hnd : noDefer l = true) (hS : S w.drew)
    (h : S w.drew → wpAnyH P .any l.toArray (onlyN Q') S l.toArray.size (Array.replicate l.toArray.size false) a w.drew) : (Code.region id l.toArray true).wpIn (Fence.wide.inRound l0) n P Q' a w :=
  wpIn_region_any hm (anyP_in_round (Q := onlyN Q') (by simpa using hnd) (fun hx => by obtain ⟨_, _, h, _⟩ := hx; cases h) (fun _ _ _ h => by cases h.1) (fun _ _ h => h.2) _ _ _ _ (wpAny_of_held _ _ _ _ (h hS)))
end
end Go.Proofs.YtogenbggjodcnaaDoor
/-
  A region that draws its order, in a fenced function outside of a round: the first operations give one value each. No program.
-/
namespace Go.Proofs.YtogenbggjodcnaaDoor

section
variable {n n0 : Nat} {P : Program} {ops : Array Oper} {md : Region.Mode} {C : World → Prop}
theorem quiet_in_round_w {o : Oper} {a : Act} {K : Act → Prop} {K' : Act → World → Prop} {Q' : Exit → Act → World → Prop} {w : World} (hnd : ∀ c, o.op ≠ .defer c) (hw : C w) (h : ∀ a w', C w' → K a → K' a w')
    (hh : o.quiet P a C K) : o.wpIn Fence.wide n P a w K' Q' := by
  obtain ⟨v, h1, h2⟩ := hh
  have h3 := h1 w hw
  unfold Oper.quietAt at h3
  unfold Oper.wpIn
  refine ⟨fun _ _ => trivial, ?_⟩
  rw [Oper.semAt_eq _ _ _ hnd]
  generalize (execOp a.eval o).run P w = r at *
  cases r with
  | ok x w' =>
    cases x <;> simp only [Oper.quietUpon] at h3 <;> simp only [Oper.uponIn]
    case value u =>
      obtain ⟨e1, e2⟩ := h3
      rw [e1, e2]
      exact h _ _ hw h2
    case skip =>
      obtain ⟨e1, e2⟩ := h3
      rw [e1, ← e2]
      exact h _ _ hw h2
    case enter f args =>
      obtain ⟨e1, hc⟩ := h3
      rw [e1]
      exact ⟨(fun h => by cases h), (callsIn_wide.2 hc).mono fun e w'' ⟨he, hw''⟩ => by subst he; exact h _ _ hw'' h2⟩
  | halt x w' => simp only [Oper.quietUpon] at h3
theorem op_in_round_w {i : Nat} {a : Act} {K : Act → Prop} {K' : Act → World → Prop} {Q' : Exit → Act → World → Prop} {w : World} (hnd : noDefer ops.toList = true) (hC : C w) (h : ∀ a w', C w' → K a → K' a w')
    (hh : qOp P ops C i K a) : wpOpIn Fence.wide n P ops Q' i K' a w := by
  unfold qOp at hh
  unfold wpOpIn
  split
  · rename_i ho; simp only [ho] at hh; exact h _ _ hC hh
  · rename_i o ho
    simp only [ho] at hh
    have hm : o ∈ ops.toList := by rw [Array.mem_toList_iff]; exact Array.mem_of_getElem? ho
    split
    · rename_i hw; simp only [hw, if_true] at hh; exact quiet_in_round_w (noDefer_spec hnd hm) hC h hh
    · rename_i hw; simp only [hw] at hh; exact ⟨fun _ _ => trivial, h _ _ hC hh⟩
theorem anyS_round_w {n g : Nat} {L : Array Bool → Act → Prop} {Q' : Exit → Act → World → Prop} (hnd : noDefer ops.toList = true) (hL : ∀ listed a w, C w → L listed a → wpAnyIn Fence.wide n0 P md ops Q' g listed a w) :
    ∀ (f : Nat) (listed : Array Bool) (a : Act) (w : World), C w → anyS P md ops C n L f listed a → wpAnyIn Fence.wide n0 P md ops Q' (f + g) listed a w
  | 0, listed, a, w, hw, h => by rw [Nat.zero_add]; exact hL _ _ _ hw h
  | f + 1, listed, a, w, hw, h => by
    rw [show f + 1 + g = (f + g) + 1 by omega]
    exact ⟨fun h0 => absurd h0 h.1, fun i hi => op_in_round_w hnd hw (fun a' w' hw' h' => anyS_round_w hnd hL f _ a' w' hw' h') (h.2 i hi).2⟩
theorem seq_round_w {Q' : Exit → Act → World → Prop} : ∀ (l : List Oper) (k : Nat) (listed : Array Bool) (a : Act) (w : World), (∀ j, l[j]? = ops[k + j]?) →
    Region.seqB md ops l.length k listed = true → wpListIn Fence.wide n0 P ops Q' l a w → wpAnyIn Fence.wide n0 P md ops Q' l.length listed a w
  | [], _, _, _, _, _, hB, h => ⟨by simpa [Region.seqB] using hB, h⟩
  | o :: l, k, listed, a, w, hl, hB, h => by
    have h0 : ops[k]? = some o := by simpa using (hl 0).symm
    simp only [List.length_cons, Region.seqB, Bool.and_eq_true, decide_eq_true_eq] at hB
    refine ⟨fun h1 => (by rw [hB.1] at h1; cases h1), fun i hi => ?_⟩
    rw [hB.1] at hi
    obtain rfl : i = k := by simpa using hi
    have hw : wpOpIn Fence.wide n0 P ops Q' i (wpListIn Fence.wide n0 P ops Q' l) a w := by unfold wpOpIn; simp only [h0]; exact h
    exact wpOpIn_mono (fun a' w' h' => seq_round_w l (i + 1) _ a' w' (fun j => by have := hl (j + 1); simpa [Nat.add_assoc, Nat.add_comm 1 j] using this) hB.2 h') hw
theorem wpIn_round_soft_w {id : Nat} {Q : Exit → Act → World → Prop} {a : Act} {w : World} {l : List Oper} (n : Nat) (hm : P.follows .mixedOrders = true) (hB : Region.lexTailB .any l.toArray n = true) (hnd : noDefer l = true) (hC : C w.drew)
    (h : wpQuiet P l.toArray C (fun a' => ∀ w', C w' → wpListIn Fence.wide n0 P l.toArray Q (l.drop n) a' w') (l.take n) a) : (Code.region id l.toArray true).wpIn Fence.wide n0 P Q a w := by
  simp only [Region.lexTailB, Bool.and_eq_true, decide_eq_true_eq] at hB
  obtain ⟨⟨⟨⟨hsel, hn⟩, hs⟩, hc⟩, hlex⟩ := hB
  have hn' : n < l.length := by simpa using hn
  have htl : (l.take n).length = n := by simp; omega
  have hdl : (l.drop n).length = l.toArray.size - n := by simp
  have inv0 : HeadInv .any l.toArray n (Array.replicate l.toArray.size false) :=
    ⟨by simp, fun j oj _ hl => (by rw [getD_replicate_false] at hl; cases hl), fun t _ ht => getD_in (by simpa using ht) (getD_replicate_false _ _)⟩
  have H := anyS_lex (md := .any) (g := l.toArray.size - n) (C := C) hsel hs hc hn (l.take n) 0 _ a (fun j hj => by
    have hj' : j < n := by rw [htl] at hj; exact hj
    simp [hj']) (by simpa using htl) inv0 (by rw [htl]; exact hlex) h
  refine wpIn_region_any hm ?_
  have := anyS_round_w (Q' := Q) (g := l.toArray.size - n) (n0 := n0) (by simpa using hnd) (fun listed a' w' hw' hL => by
    have := seq_round_w (md := .any) (Q' := Q) (n0 := n0) (l.drop n) n listed a' w' (fun j => by simp [List.getElem?_drop]) (by rw [hdl]; exact hL.1) (hL.2 w' hw')
    rwa [hdl] at this) _ _ _ _ hC H
  rw [htl, show n + (l.toArray.size - n) = l.toArray.size by omega] at this
  exact this
/-- THE REGION, its first operation a copy. -/
theorem wpIn_round_soft1_w {id : Nat} {Q : Exit → Act → World → Prop} {a : Act} {w : World} {o0 : Oper} {l : List Oper} {v0 : Value} (n : Nat) (hm : P.follows .mixedOrders = true)
    (h1 : Region.noSelect (o0 :: l).toArray = true) (h2 : n < l.length) (h3 : sinkFrom .any (o0 :: l).toArray (n + 1) 1 = true) (h4 : Region.chainB .any (o0 :: l).toArray (n + 1) = true)
    (h5 : Region.lexHead .any (o0 :: l).toArray (l.length - n) n 1 ((Array.replicate (o0 :: l).toArray.size false).setIfInBounds 0 true) = true)
    (h6 : Region.free .any (o0 :: l).toArray (Array.replicate (o0 :: l).toArray.size false) 0 = true) (hnd : noDefer (o0 :: l) = true) (h7 : (Region.ready .any (o0 :: l).toArray (Array.replicate (o0 :: l).toArray.size false)).contains 0 = true)
    (hQ : ∀ c a w, Q (.panic c) (a.put o0.dst v0) w → Q (.panic c) a w) (hy : YieldsFenced P (o0 :: l).toArray o0 v0 a) (hC : C w.drew)
    (h : wpQuiet P (o0 :: l).toArray C (fun a' => ∀ w', C w' → wpListIn Fence.wide n0 P (o0 :: l).toArray Q (l.drop n) a' w') (l.take n) (a.put o0.dst v0)) : (Code.region id (o0 :: l).toArray true).wpIn Fence.wide n0 P Q a w := by
  have h0 : (o0 :: l).toArray[0]? = some o0 := rfl
  have hsz : (o0 :: l).toArray.size = l.length + 1 := by simp
  have hr0 : 0 ∈ Region.ready .any (o0 :: l).toArray (Array.replicate (o0 :: l).toArray.size false) := by simpa using h7
  have htl : (l.take n).length = n := by simp; omega
  have hdl : (l.drop n).length = l.length - n := by simp
  have inv0 : HeadInv .any (o0 :: l).toArray (n + 1) (Array.replicate (o0 :: l).toArray.size false) :=
    ⟨by simp, fun j oj _ hl => (by rw [getD_replicate_false] at hl; cases hl), fun t _ ht => getD_in (by simpa using ht) (getD_replicate_false _ _)⟩
  have H := anyS_lex1 (m := 1) (md := .any) (g := l.length - n) (C := C) h1 h3 h4 (by rw [hsz]; omega) (l.take n) 1 _ (a.put o0.dst v0) (fun j hj => by
    have hj' : j < n := by rw [htl] at hj; exact hj
    simp [hj', Nat.add_comm 1 j]) (Nat.le_refl 1) (by rw [htl]; omega) (inv0.set hr0 (by omega)) (by rw [htl]; exact h5) h
  refine wpIn_region_any hm ?_
  have H2 := anyS_round_w (Q' := Q) (n0 := n0) (g := l.length - n) (by simpa using hnd) (fun listed a' w' hw' hL => by
    have := seq_round_w (P := P) (ops := (o0 :: l).toArray) (md := .any) (Q' := Q) (n0 := n0) (l.drop n) (n + 1) listed a' w' (fun j => by
      rw [show n + 1 + j = (n + j) + 1 by omega]; simp [List.getElem?_drop]) (by rw [hdl]; exact hL.1) (hL.2 w' hw')
    rwa [hdl] at this) _ _ _ _ hC H
  have e : (o0 :: l).toArray.size = ((l.take n).length + (l.length - n)) + 1 := by rw [hsz, htl]; omega
  have H3 := wpAnyIn_take (F := Fence.wide) (n := n0) (Q := Q) rfl h0 h1 h6 h7 hQ hy H2
  rw [e] at H3 ⊢
  exact H3
end
end Go.Proofs.YtogenbggjodcnaaDoor
/-
  The bounds of the chunks of a secret, one by one.
-/
namespace Go.Proofs.YtogenbggjodcnaaDoor
open Go.RowKit Go.Shelf

attribute [local go_sem] Oper.semAt_some
/-- The chunks' numbers and lengths. -/
def bnds (n : Nat) : List (Nat × Nat) := (List.range ((n + 30) / 31)).map fun i => (i, min 31 (n - 31 * i))
theorem bnds_len (n : Nat) : (bnds n).length = (n + 30) / 31 := by simp [bnds]
theorem bnds_get {n k : Nat} (h : k < (n + 30) / 31) : (bnds n)[k]? = some (k, min 31 (n - 31 * k)) := by unfold bnds; rw [List.getElem?_map, List.getElem?_range h]; rfl
theorem bnds_at {n k : Nat} {e : Nat × Nat} (h : (bnds n)[k]? = some e) : k < (n + 30) / 31 ∧ e = (k, min 31 (n - 31 * k)) := by
  have hk : k < (n + 30) / 31 := by have := (List.getElem?_eq_some_iff.1 h).1; rw [bnds_len] at this; exact this
  rw [bnds_get hk] at h
  exact ⟨hk, (Option.some.inj h).symm⟩
/-- How a chunk's bounds are spelled. -/
def bndE (e : Nat × Nat) (args : Array Value) (_ : World) : Prop := args = #[.int .i64 (e.1 : Int), .int .i64 (e.2 : Int)]
theorem cntC_nat {n : Nat} (h : n ≤ 65535) : cntC (n : Int) = (n + 30) / 31 := by unfold cntC; rw [if_pos (by omega)]; omega
theorem bounds_any (n : Int) (w : World) : Calls Tryd.prog 120 #[.int .i64 n] w fun e w' => e = .returned (.func (.func 141) #[] #[ptr' w.heap.size]) ∧ w.alloc (.cells #[.int .i64 n] 3) = w' := by
  go_enter Tryd.func120, Tryd.ntmps120
  go_wp2
  go_ret
  exact ⟨rfl, rfl⟩
set_option maxRecDepth 100000 in
set_option maxHeartbeats 2000000 in
theorem bounds_seq (bs n : Nat) (hn : n ≤ 65535) (W : World) (hS : Blk W bs 3 [.int .i64 (n : Int)]) :
    SeqR Tryd.prog 141 #[ptr' bs] bndE (fun A B => Blk A bs 3 [.int .i64 (n : Int)] → Blk B bs 3 [.int .i64 (n : Int)]) (bnds n) W := by
  intro L J Jx hJ hJx hY h0
  have HS := hid hS
  have c0 := hS.cell (i := 0) rfl
  have z0 := hS.lt
  have PC := hid (fun W : World => pcount_any (n : Int) W)
  rw [cntC_nat hn] at PC
  obtain ⟨c, hc⟩ : ∃ c, (n + 30) / 31 = c := ⟨_, rfl⟩
  rw [hc] at PC
  have HCC := hid hc
  have hcb : c < 10000 := by omega
  have HJ0 := hid h0
  have HJS := hid hJ
  clear h0 hS hJx hJ hc
  refine (callsIn_wide (n := 5)).1 ?_
  refine callsIn_of_wp Tryd.func141 rfl trivial ?_ rfl
  simp only [Tryd.ntmps141, List.size_toArray, List.length_cons, List.length_nil, Nat.reduceAdd, Nat.reduceSub, Array.replicate_succ, Array.replicate_zero, List.push_toArray, List.append_toArray, List.nil_append, List.cons_append]
  have hmix : Tryd.prog.follows .mixedOrders = true := by kernel_rfl
  gi_wp2_with (refine ⟨trivial, ?_⟩; gi_at_call 118; refine (callsIn_wide.2 (PC.out _)).mono ?_; rintro e w' ⟨rfl, rfl⟩)
  gi_loopw [6] (fun i wr => ∃ k : Nat, k ≤ c ∧ i = .int .i64 (k : Int) ∧ Blk wr bs 3 [.int .i64 (n : Int)] ∧ J ((bnds n).take k) wr) (fun i _ => c - (intOf i).toNat)
  case atStart => exact ⟨0, Nat.zero_le _, rfl, HS.out, HJ0.out⟩
  case round =>
    obtain ⟨k, hk, rfl, hS, hJs⟩ := hrel
    have HJs := hid hJs
    clear hJs c0 z0
    by_cases hlt : k < c
    · have hg : (bnds n)[k]? = some (k, min 31 (n - 31 * k)) := bnds_get (by rw [HCC.out]; exact hlt)
      have hsnoc : (bnds n).take k ++ [(k, min 31 (n - 31 * k))] = (bnds n).take (k + 1) := (take_next hg).symm
      have hkn : 31 * k < n := by have := HCC.out; omega
      obtain ⟨m, hm⟩ : ∃ m, min 31 (n - 31 * k) = m := ⟨_, rfl⟩
      rw [hm] at hsnoc hg
      have um1 : (if (31 : Int) > (n : Int) - (k : Int) * 31 then (n : Int) - (k : Int) * 31 else 31) = (m : Int) := by split <;> omega
      have HUM := fun (ats : Array TypeId) (ty : TypeId) => min9_int ats ty um1
      have w1 : IntKind.i64.wrap ((k : Int) * 31) = (k : Int) * 31 := by rw [IntKind.wrap_i64]; omega
      have w2 : IntKind.i64.wrap ((n : Int) - (k : Int) * 31) = (n : Int) - (k : Int) * 31 := by rw [IntKind.wrap_i64]; omega
      have cb := hS.cell (i := 0) rfl
      have zb := hS.lt
      obtain ⟨fn, tmps, assign, body, hy, hR⟩ := hY _ (k, m) _ wr HJs.out (show bndE (k, m) #[.int .i64 (k : Int), .int .i64 (m : Int)] wr from rfl) (by rw [hsnoc]; exact List.take_prefix _ _) 4
      have HP := hid (fun W' (h : Blk wr bs 3 [.int .i64 (n : Int)] → Blk W' bs 3 [.int .i64 (n : Int)]) => h hS)
      have HSN := hid hsnoc
      have HPX := hid (show (bnds n).take (k + 1) <+: bnds n from List.take_prefix _ _)
      clear hg hS hsnoc hY um1 hm hkn
      gi_wp2
      refine hR.mono ?_
      rintro e W3 (⟨rfl, hJ3, hk3⟩ | ⟨rfl, hJ3⟩)
      · have HJ3 := hid hJ3
        have HK3 := hid (HP.out _ hk3)
        clear hJ3 hk3 hy hR cb zb HP HUM w1 w2
        gi_wp2
        go_roundw
        case rel => exact ⟨k + 1, by omega, by go_num, HK3.out, by rw [← HSN.out]; exact HJ3.out⟩
        case measure => simp [intOf] <;> omega
      · have HJ3 := hid hJ3
        clear hJ3 hy hR cb zb HP HUM w1 w2
        gi_wp2
        refine bodyPost_ret (by simp only [results, Tryd.results141]; go_simp; try rfl) rfl ?_
        exact ⟨⟨_, rfl⟩, .inr ⟨_, by rw [HSN.out]; exact HPX.out, HJ3.out⟩⟩
    · obtain rfl : k = c := by omega
      have he : (bnds n).take k = bnds n := List.take_of_length_le (by rw [bnds_len, HCC.out]; exact Nat.le_refl _)
      have HE := hid he
      clear he hY
      gi_wp2
      go_end0
      exact ⟨⟨_, rfl⟩, .inl (by rw [← HE.out]; exact HJs.out)⟩
end Go.Proofs.YtogenbggjodcnaaDoor
