/-
  Masks and choices of words: plain arithmetic, no program.
-/
import Derived.Test.YtfaicnileghjiaaDoorNum
import Derived.Laws.BitsAll
import Derived.Laws.Bits64
namespace Go.Proofs.YtfaicnileghjiaaDoor
/-- The mask of the lowest bit of a word. -/
noncomputable def msk (b : Nat) : Nat := veil (if b % 2 = 1 then 18446744073709551615 else 0)
theorem msk_eq (b : Nat) : msk b = if b % 2 = 1 then 18446744073709551615 else 0 := veil_eq _
theorem msk_mod (b : Nat) : msk b % 2 = b % 2 := by rw [msk_eq]; split <;> omega
theorem msk_lt (b : Nat) : msk b < B64 := by rw [msk_eq]; unfold B64; split <;> omega
theorem msk_msk (b : Nat) : msk (msk b) = msk b := by rw [msk_eq (msk b), msk_mod, ← msk_eq]
/-- One of two. -/
noncomputable def pick (c a b : Nat) : Nat := veil (if c % 2 = 1 then a else b)
theorem pick_eq (c a b : Nat) : pick c a b = if c % 2 = 1 then a else b := veil_eq _
theorem pick_lt {a b n : Nat} (c : Nat) (ha : a < n) (hb : b < n) : pick c a b < n := by rw [pick_eq]; split <;> assumption
theorem limb_pick (c a b i : Nat) : limb (pick c a b) i = pick c (limb a i) (limb b i) := by rw [pick_eq, pick_eq]; split <;> rfl

theorem ofInt_nat (x : Nat) : BitVec.ofInt 64 (x : Int) = BitVec.ofNat 64 x := by simp
theorem bits_nat (op : BinOp) (x y z : Nat) (h : bits op .u64 (x : Int) (y : Int) = IntKind.u64.wrap (z : Int)) (hz : z < B64) : bits op .u64 (x : Int) (y : Int) = (z : Int) := by
  rw [h, IntKind.wrap_u64]; unfold B64 at hz; omega
theorem bits_and_nat (x y : Nat) (hx : x < B64) (hy : y < B64) : bits .and .u64 (x : Int) (y : Int) = ((x &&& y : Nat) : Int) := by
  have h1 : (BitVec.ofInt 64 (x : Int)).toNat = x := by rw [ofInt_nat, BitVec.toNat_ofNat]; exact Nat.mod_eq_of_lt hx
  have h2 : (BitVec.ofInt 64 (y : Int)).toNat = y := by rw [ofInt_nat, BitVec.toNat_ofNat]; exact Nat.mod_eq_of_lt hy
  have hz : x &&& y < 2 ^ 64 := Nat.and_lt_two_pow _ hy
  show IntKind.u64.wrap ((BitVec.ofInt 64 (x : Int) &&& BitVec.ofInt 64 (y : Int)).toNat : Int) = _
  rw [BitVec.toNat_and, h1, h2, IntKind.wrap_u64]
  generalize x &&& y = z at *
  omega
theorem bits_or_nat (x y : Nat) (hx : x < B64) (hy : y < B64) : bits .or .u64 (x : Int) (y : Int) = ((x ||| y : Nat) : Int) := by
  have h1 : (BitVec.ofInt 64 (x : Int)).toNat = x := by rw [ofInt_nat, BitVec.toNat_ofNat]; exact Nat.mod_eq_of_lt hx
  have h2 : (BitVec.ofInt 64 (y : Int)).toNat = y := by rw [ofInt_nat, BitVec.toNat_ofNat]; exact Nat.mod_eq_of_lt hy
  have hz : x ||| y < 2 ^ 64 := Nat.or_lt_two_pow hx hy
  show IntKind.u64.wrap ((BitVec.ofInt 64 (x : Int) ||| BitVec.ofInt 64 (y : Int)).toNat : Int) = _
  rw [BitVec.toNat_or, h1, h2, IntKind.wrap_u64]
  generalize x ||| y = z at *
  omega
theorem bits_xor_nat (x y : Nat) (hx : x < B64) (hy : y < B64) : bits .xor .u64 (x : Int) (y : Int) = ((x ^^^ y : Nat) : Int) := bits_xor_u64_nat x y hx hy
theorem fromBit_word (b : Nat) (hb : b < B64) : IntKind.u64.wrap (-(bits .and .u64 (b : Int) 1)) = (msk b : Int) := by
  have h := bits_and_nat b 1 hb (by decide)
  rw [show ((1 : Nat) : Int) = 1 from rfl] at h
  rw [h, Nat.and_one_is_mod, msk_eq, IntKind.wrap_u64]
  split <;> omega
theorem and_ones (x : Nat) (hx : x < B64) : 18446744073709551615 &&& x = x := by
  have e : (18446744073709551615 : Nat) = 2 ^ 64 - 1 := rfl
  rw [e, Nat.and_comm, Nat.and_two_pow_sub_one_eq_mod]; exact Nat.mod_eq_of_lt hx
theorem xor_lt64 {x y : Nat} (hx : x < B64) (hy : y < B64) : x ^^^ y < B64 := Nat.xor_lt_two_pow (n := 64) hx hy
/-- b ^ m & (a ^ b) chooses by a mask. -/
theorem choose_word (c a b : Nat) (ha : a < B64) (hb : b < B64) :
    bits .xor .u64 (b : Int) (bits .and .u64 (msk c : Int) (bits .xor .u64 (a : Int) (b : Int))) = (pick c a b : Int) := by
  rw [bits_xor_nat a b ha hb, bits_and_nat _ _ (msk_lt c) (xor_lt64 ha hb), msk_eq, pick_eq]
  split
  · rw [and_ones _ (xor_lt64 ha hb), bits_xor_nat _ _ hb (xor_lt64 ha hb)]
    congr 1
    rw [Nat.xor_comm a b, ← Nat.xor_assoc, Nat.xor_self, Nat.zero_xor]
  · rw [Nat.zero_and, bits_xor_nat _ _ hb (by decide), Nat.xor_zero]
theorem andNot_msk (x y : Nat) : bits .andNot .u64 (msk x : Int) (msk y : Int) = (msk (pick y 0 x) : Int) := by
  rw [pick_eq, msk_eq, msk_eq, msk_eq]
  split <;> split <;> simp_all <;> decide
theorem red_pick (m a c : Nat) : pick (msk (pick c 0 (brw a m))) a (dif a m) = red m a c := by
  rw [red_eq, pick_eq, msk_mod, pick_eq, brw_eq]
  by_cases h : c % 2 = 1
  · rw [if_pos h, if_neg (by decide), if_neg (by omega)]
  · rw [if_neg h]
    by_cases g : a < m
    · rw [if_pos g, if_pos (by decide), if_pos ⟨by omega, g⟩]
    · rw [if_neg g, if_neg (by decide), if_neg (fun h => g h.2)]
/-- A field's constants as Go's struct. -/
noncomputable abbrev fld (id : Int) (m i o s : Nat) : Value := .agg #[.int .i64 id, .int .u64 (limb m 0 : Int), .int .u64 (limb m 1 : Int), .int .u64 (limb m 2 : Int), .int .u64 (limb m 3 : Int), .int .u64 (i : Int), .int .u64 (limb o 0 : Int), .int .u64 (limb o 1 : Int), .int .u64 (limb o 2 : Int), .int .u64 (limb o 3 : Int), .int .u64 (limb s 0 : Int), .int .u64 (limb s 1 : Int), .int .u64 (limb s 2 : Int), .int .u64 (limb s 3 : Int)]
end Go.Proofs.YtfaicnileghjiaaDoor
