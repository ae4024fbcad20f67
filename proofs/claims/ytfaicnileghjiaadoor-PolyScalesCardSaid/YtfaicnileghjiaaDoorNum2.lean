/-
  The two moduli; powers step by step: plain arithmetic, no program.
-/
import Derived.Test.YtfaicnileghjiaaDoorNum
namespace Go.Proofs.YtfaicnileghjiaaDoor
/-- The moduli of the two fields. -/
def P1 : Nat := 57896044618658097711785492504343953926634992332820282019728792003956564819949
def P2 : Nat := 115792089210356248762697446949407573529996955224135760342422259061068512044369
theorem vec_P1 : (.agg #[.int .u64 18446744073709551597, .int .u64 18446744073709551615, .int .u64 18446744073709551615, .int .u64 9223372036854775807] : Value) = vec P1 :=
  vec_lit (a := 18446744073709551597) (b := 18446744073709551615) (c := 18446744073709551615) (d := 9223372036854775807) (by decide) (by decide) (by decide) (by decide) (by decide) (by decide)
theorem limbs_P1 : (18446744073709551597 : Int) = (limb P1 0 : Int) ∧ (18446744073709551615 : Int) = (limb P1 1 : Int) ∧ (18446744073709551615 : Int) = (limb P1 2 : Int) ∧ (9223372036854775807 : Int) = (limb P1 3 : Int) := by
  obtain ⟨h0, h1, h2, h3⟩ := limb_val4 (a := 18446744073709551597) (b := 18446744073709551615) (c := 18446744073709551615) (d := 9223372036854775807) (by decide) (by decide) (by decide) (by decide)
  have e : P1 = val4 18446744073709551597 18446744073709551615 18446744073709551615 9223372036854775807 := by decide
  rw [e, h0, h1, h2, h3]; exact ⟨rfl, rfl, rfl, rfl⟩
theorem vec_P2 : (.agg #[.int .u64 17562291160714782033, .int .u64 13611842547513532036, .int .u64 18446744073709551615, .int .u64 18446744069414584320] : Value) = vec P2 :=
  vec_lit (a := 17562291160714782033) (b := 13611842547513532036) (c := 18446744073709551615) (d := 18446744069414584320) (by decide) (by decide) (by decide) (by decide) (by decide) (by decide)
theorem limbs_P2 : (17562291160714782033 : Int) = (limb P2 0 : Int) ∧ (13611842547513532036 : Int) = (limb P2 1 : Int) ∧ (18446744073709551615 : Int) = (limb P2 2 : Int) ∧ (18446744069414584320 : Int) = (limb P2 3 : Int) := by
  obtain ⟨h0, h1, h2, h3⟩ := limb_val4 (a := 17562291160714782033) (b := 13611842547513532036) (c := 18446744073709551615) (d := 18446744069414584320) (by decide) (by decide) (by decide) (by decide)
  have e : P2 = val4 17562291160714782033 13611842547513532036 18446744073709551615 18446744069414584320 := by decide
  rw [e, h0, h1, h2, h3]; exact ⟨rfl, rfl, rfl, rfl⟩
theorem P1_lt : P1 < B256 := by decide
theorem P2_lt : P2 < B256 := by decide
theorem P1_two : 2 < P1 := by decide
theorem P2_two : 2 < P2 := by decide

theorem powm_zero {p : Nat} (a : Nat) (hp : 1 < p) : powm p a 0 = 1 := by rw [powm_eq, Nat.pow_zero, Nat.mod_eq_of_lt hp]
theorem powm_two (p k : Nat) : addm p (powm p 2 k) (powm p 2 k) = powm p 2 (k + 1) := by
  rw [addm_eq, powm_eq, powm_eq, ← Nat.add_mod, Nat.pow_succ]; congr 1; omega
theorem powm_add (p a x y : Nat) : mulm p (powm p a x) (powm p a y) = powm p a (x + y) := by
  rw [mulm_eq, powm_eq, powm_eq, powm_eq, ← Nat.mul_mod, Nat.pow_add]
theorem powm_one {p a : Nat} (ha : a < p) : powm p a 1 = a := by rw [powm_eq, Nat.pow_one, Nat.mod_eq_of_lt ha]
theorem pow_bit0 (p a e k : Nat) (h : bit e k = 0) : mulm p (powm p a (top e (k + 1))) (powm p a (top e (k + 1))) = powm p a (top e k) := by
  rw [powm_add, top_eq, top_eq, shr_bit e k, h]; congr 1; omega
theorem pow_bit1 (p a e k : Nat) (ha : a < p) (h : bit e k = 1) : mulm p (mulm p (powm p a (top e (k + 1))) (powm p a (top e (k + 1)))) a = powm p a (top e k) := by
  have e1 : mulm p (powm p a (top e (k + 1) + top e (k + 1))) a = mulm p (powm p a (top e (k + 1) + top e (k + 1))) (powm p a 1) := by rw [powm_one ha]
  rw [powm_add, e1, powm_add, top_eq, top_eq, shr_bit e k, h]; congr 1; omega
theorem dif_le {a b : Nat} (ha : a < B256) (hb : b ≤ a) : dif a b = a - b := by rw [dif_eq]; unfold B256 at *; omega
/-- The other constants of the two fields. -/
def I1 : Nat := 9708812670373448219
def I2 : Nat := 14758798090332847183
def O1 : Nat := 38
def O2 : Nat := 26959946660873538059280334323273029441504803697035324946844617595567
def S1 : Nat := 1444
def S2 : Nat := 46533765739406314298121036767150998762426774378559716911348521029833835802274
theorem vec_O1 : (.agg #[.int .u64 38, .int .u64 0, .int .u64 0, .int .u64 0] : Value) = vec O1 :=
  vec_lit (a := 38) (b := 0) (c := 0) (d := 0) (by decide) (by decide) (by decide) (by decide) (by decide) (by decide)
theorem limbs_O1 : (38 : Int) = (limb O1 0 : Int) ∧ (0 : Int) = (limb O1 1 : Int) ∧ (0 : Int) = (limb O1 2 : Int) ∧ (0 : Int) = (limb O1 3 : Int) := by
  obtain ⟨h0, h1, h2, h3⟩ := limb_val4 (a := 38) (b := 0) (c := 0) (d := 0) (by decide) (by decide) (by decide) (by decide)
  have e : O1 = val4 38 0 0 0 := by decide
  rw [e, h0, h1, h2, h3]; exact ⟨rfl, rfl, rfl, rfl⟩
theorem vec_O2 : (.agg #[.int .u64 884452912994769583, .int .u64 4834901526196019579, .int .u64 0, .int .u64 4294967295] : Value) = vec O2 :=
  vec_lit (a := 884452912994769583) (b := 4834901526196019579) (c := 0) (d := 4294967295) (by decide) (by decide) (by decide) (by decide) (by decide) (by decide)
theorem limbs_O2 : (884452912994769583 : Int) = (limb O2 0 : Int) ∧ (4834901526196019579 : Int) = (limb O2 1 : Int) ∧ (0 : Int) = (limb O2 2 : Int) ∧ (4294967295 : Int) = (limb O2 3 : Int) := by
  obtain ⟨h0, h1, h2, h3⟩ := limb_val4 (a := 884452912994769583) (b := 4834901526196019579) (c := 0) (d := 4294967295) (by decide) (by decide) (by decide) (by decide)
  have e : O2 = val4 884452912994769583 4834901526196019579 0 4294967295 := by decide
  rw [e, h0, h1, h2, h3]; exact ⟨rfl, rfl, rfl, rfl⟩
theorem vec_S1 : (.agg #[.int .u64 1444, .int .u64 0, .int .u64 0, .int .u64 0] : Value) = vec S1 :=
  vec_lit (a := 1444) (b := 0) (c := 0) (d := 0) (by decide) (by decide) (by decide) (by decide) (by decide) (by decide)
theorem limbs_S1 : (1444 : Int) = (limb S1 0 : Int) ∧ (0 : Int) = (limb S1 1 : Int) ∧ (0 : Int) = (limb S1 2 : Int) ∧ (0 : Int) = (limb S1 3 : Int) := by
  obtain ⟨h0, h1, h2, h3⟩ := limb_val4 (a := 1444) (b := 0) (c := 0) (d := 0) (by decide) (by decide) (by decide) (by decide)
  have e : S1 = val4 1444 0 0 0 := by decide
  rw [e, h0, h1, h2, h3]; exact ⟨rfl, rfl, rfl, rfl⟩
theorem vec_S2 : (.agg #[.int .u64 9449762124159643298, .int .u64 5087230966250696614, .int .u64 2901921493521525849, .int .u64 7413256579398063648] : Value) = vec S2 :=
  vec_lit (a := 9449762124159643298) (b := 5087230966250696614) (c := 2901921493521525849) (d := 7413256579398063648) (by decide) (by decide) (by decide) (by decide) (by decide) (by decide)
theorem limbs_S2 : (9449762124159643298 : Int) = (limb S2 0 : Int) ∧ (5087230966250696614 : Int) = (limb S2 1 : Int) ∧ (2901921493521525849 : Int) = (limb S2 2 : Int) ∧ (7413256579398063648 : Int) = (limb S2 3 : Int) := by
  obtain ⟨h0, h1, h2, h3⟩ := limb_val4 (a := 9449762124159643298) (b := 5087230966250696614) (c := 2901921493521525849) (d := 7413256579398063648) (by decide) (by decide) (by decide) (by decide)
  have e : S2 = val4 9449762124159643298 5087230966250696614 2901921493521525849 7413256579398063648 := by decide
  rw [e, h0, h1, h2, h3]; exact ⟨rfl, rfl, rfl, rfl⟩
end Go.Proofs.YtfaicnileghjiaaDoor
