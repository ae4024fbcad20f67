/-
  Montgomery's product.
-/
import Derived.Test.YtfaicnileghjiaaDoorLimbA
import Derived.Test.YtfaicnileghjiaaDoorNumM
import Derived.Test.YtfaicnileghjiaaDoorField
import Derived.Lib.Mul64
import Derived.Laws.Bits64b
namespace Go.Proofs.YtfaicnileghjiaaDoor
open Go.RowKit

theorem half_word (a : Nat) (ha : a < 18446744073709551616) : bits .and .u64 (a : Int) 4294967295 = ((a % 4294967296 : Nat) : Int) := by
  have h := bits_and_u64_nat a 4294967295 ha (by omega)
  rw [show a &&& 4294967295 = a % 4294967296 from Nat.and_two_pow_sub_one_eq_mod a 32] at h
  exact h
theorem div_half (a : Nat) : (a : Int) / 4294967296 = ((a / 4294967296 : Nat) : Int) := by omega
theorem mul_nat (a b : Nat) : (a : Int) * (b : Int) = ((a * b : Nat) : Int) := (Int.natCast_mul a b).symm
theorem add_nat (a b : Nat) : (a : Int) + (b : Int) = ((a + b : Nat) : Int) := (Int.natCast_add a b).symm
theorem wrap_small (a : Nat) (ha : a < 18446744073709551616) : IntKind.u64.wrap (a : Int) = (a : Int) := by rw [IntKind.wrap_u64]; omega
theorem wrap_word (a : Nat) : IntKind.u64.wrap (a : Int) = ((a % 18446744073709551616 : Nat) : Int) := by rw [IntKind.wrap_u64]; omega
theorem wrap_mulw (a b : Nat) : IntKind.u64.wrap ((a : Int) * (b : Int)) = (mulw a b : Int) := by rw [mul_nat, wrap_word, mulw_eq]
set_option maxHeartbeats 1000000 in
theorem mul64_any (x y : Nat) (hx : x < B64) (hy : y < B64) (w : World) :
    Calls Tryd.prog 69 #[.int .u64 (x : Int), .int .u64 (y : Int)] w fun e w' => e = .returned (.tuple #[.int .u64 (mah x y 0 0 : Int), .int .u64 (mal x y 0 0 : Int)]) ∧ w = w' := by
  unfold B64 at hx hy
  obtain ⟨bd, bt, bw, hhi⟩ := Lib.mul64_hi x y hx hy
  have ba := Lib.half_mul_le (a := x / 4294967296) (b := y / 4294967296) (by omega) (by omega)
  have bb := Lib.half_mul_le (a := x / 4294967296) (b := y % 4294967296) (by omega) (by omega)
  have bc := Lib.half_mul_le (a := x % 4294967296) (b := y / 4294967296) (by omega) (by omega)
  have h1 : x / 4294967296 * (y / 4294967296) < 18446744073709551616 := by omega
  have h2 : x / 4294967296 * (y % 4294967296) < 18446744073709551616 := by omega
  have h3 : x % 4294967296 * (y / 4294967296) < 18446744073709551616 := by omega
  have h4 : x / 4294967296 * (y / 4294967296) + (x / 4294967296 * (y % 4294967296) + x % 4294967296 * (y % 4294967296) / 4294967296) / 4294967296 < 18446744073709551616 := by omega
  have h5 : x / 4294967296 * (y / 4294967296) + (x / 4294967296 * (y % 4294967296) + x % 4294967296 * (y % 4294967296) / 4294967296) / 4294967296 + ((x / 4294967296 * (y % 4294967296) + x % 4294967296 * (y % 4294967296) / 4294967296) % 4294967296 + x % 4294967296 * (y / 4294967296)) / 4294967296 < 18446744073709551616 := by omega
  go_enter Tryd.func69, Tryd.ntmps69
  go_wp2
  simp only [half_word x hx, half_word y hy, div_half, mul_nat, add_nat, wrap_small _ bd, wrap_small _ h2, wrap_small _ bt, half_word _ bt, wrap_small _ h3, wrap_small _ bw, wrap_small _ h1, wrap_small _ h4, wrap_small _ h5, wrap_word (x * y)]
  rw [hhi]
  go_ret2
  exact ⟨by rw [mah_eq, mal_eq]; rfl, rfl⟩
set_option maxHeartbeats 1000000 in
theorem ma_any (a b c d : Nat) (ha : a < B64) (hb : b < B64) (hc : c < B64) (hd : d < B64) (w : World) :
    Calls Tryd.prog 60 #[.int .u64 (a : Int), .int .u64 (b : Int), .int .u64 (c : Int), .int .u64 (d : Int)] w fun e w' => e = .returned (.tuple #[.int .u64 (mah a b c d : Int), .int .u64 (mal a b c d : Int)]) ∧ w = w' := by
  have hs := run_add64_0 (mal a b 0 0) c
  have hs2 := run_add64_0 (nas (mal a b 0 0) c 0) d
  have s1 := nas_step (mal a b 0 0) c 0
  have s2 := nas_step (nas (mal a b 0 0) c 0) d 0
  have s0 := ma_step a b 0 0
  have st := ma_step a b c d
  have sl := mal_lt a b c d
  have sh := mah_lt ha hb hc hd
  unfold B64 at sl sh
  have e1 : mah a b c d = mah a b 0 0 + nac (mal a b 0 0) c 0 + nac (nas (mal a b 0 0) c 0) d 0 := by omega
  have e2 : mal a b c d = nas (nas (mal a b 0 0) c 0) d 0 := by omega
  have b1 : mah a b 0 0 + nac (mal a b 0 0) c 0 < 18446744073709551616 := by omega
  have b2 : mah a b 0 0 + nac (mal a b 0 0) c 0 + nac (nas (mal a b 0 0) c 0) d 0 < 18446744073709551616 := by omega
  have E1 := hid (show (mah a b c d : Int) = (mah a b 0 0 : Int) + (nac (mal a b 0 0) c 0 : Int) + (nac (nas (mal a b 0 0) c 0) d 0 : Int) by rw [e1]; omega)
  have E2 := hid (congrArg (fun x : Nat => (x : Int)) e2)
  clear s0 s1 s2 st sl sh e1 e2 hc hd
  go_enter Tryd.func60, Tryd.ntmps60
  go_wp2_with (go_at_call 69; refine (mul64_any a b ha hb _).mono ?_; rintro e w' ⟨rfl, rfl⟩)
  go_ret2
  exact ⟨by rw [E1.out, show ((mal a b c d : Nat) : Int) = _ from E2.out]; rfl, rfl⟩

theorem run_array4 (g c : Nat) (W : World) : Sem.run Tryd.prog (Instr.arrayAt 24 (.slice (some ⟨g, 0, none⟩) 4 c)) W = .ok (.pointer (some ⟨g, 0, none⟩)) W := by kernel_rfl
/-- Six words as cells. -/
abbrev six (t : Nat → Nat) (u : Nat) : List Value := [.int .u64 (t 0 : Int), .int .u64 (t 1 : Int), .int .u64 (t 2 : Int), .int .u64 (t 3 : Int), .int .u64 (t 4 : Int), .int .u64 (u : Int)]
theorem six_get (t : Nat → Nat) (u : Nat) {k : Nat} (hk : k < 5) : (six t u)[k]? = some (.int .u64 (t k : Int)) := by
  match k, hk with
  | 0, _ => rfl
  | 1, _ => rfl
  | 2, _ => rfl
  | 3, _ => rfl
  | 4, _ => rfl
theorem row_six {o : List Value} {f : Nat → Value} (hj : ∀ j, j < 6 → o[j]? = some (f j)) (ho : o.length = 6) : o = [f 0, f 1, f 2, f 3, f 4, f 5] := by
  match o, ho with
  | [o0, o1, o2, o3, o4, o5], _ =>
    have e0 := hj 0 (by omega)
    have e1 := hj 1 (by omega)
    have e2 := hj 2 (by omega)
    have e3 := hj 3 (by omega)
    have e4 := hj 4 (by omega)
    have e5 := hj 5 (by omega)
    simp at e0 e1 e2 e3 e4 e5
    rw [e0, e1, e2, e3, e4, e5]
end Go.Proofs.YtfaicnileghjiaaDoor
