/-
  Whether words are zero: masks; four bits of a number.
-/
import Derived.Test.YtogenbggjodcnaaDoorLimbs
import Derived.Test.YtogenbggjodcnaaDoorPowN
import Derived.Laws.Unary
namespace Go.Proofs.YtogenbggjodcnaaDoor
open Go.RowKit

/-- Words in a row. -/
def WordsAt (w : World) (g off : Nat) (l : List Nat) : Prop := ∀ j x, l[j]? = some x → x < B64 ∧ w.cell? ⟨g, off + j, none⟩ = some (.int .u64 (x : Int))
def WordSl (w : World) (v : Value) (l : List Nat) : Prop := ∃ a cap, v = .slice a l.length cap ∧ l.length ≤ cap ∧ (l = [] ∨ ∃ g off, a = some ⟨g, off, none⟩ ∧ WordsAt w g off l)
theorem WordSl.lt {w : World} {v : Value} {l : List Nat} (h : WordSl w v l) : ∀ x ∈ l, x < B64 := by
  intro x hx
  obtain ⟨a, cap, _, _, h0 | ⟨g, off, _, he⟩⟩ := h
  · rw [h0] at hx; cases hx
  · obtain ⟨j, hj, rfl⟩ := List.getElem_of_mem hx
    exact (he j _ (List.getElem?_eq_getElem hj)).1
theorem zbt_word (u : Nat) (hu : u < B64) : bits .xor .u64 IntKind.u64.max (bits .or .u64 (u : Int) (IntKind.u64.wrap (-(u : Int)))) / 9223372036854775808 = (zbt u : Int) := by
  unfold B64 at hu
  have h1 : IntKind.u64.wrap (-(u : Int)) = ((18446744073709551616 - u) % 18446744073709551616 : Nat) := by rw [IntKind.wrap_u64]; omega
  have h2 : (18446744073709551616 - u) % 18446744073709551616 < B64 := by unfold B64; omega
  have h3 := or_neg u hu
  have h4 : u ||| (18446744073709551616 - u) % 18446744073709551616 < B64 := Nat.or_lt_two_pow (n := 64) hu h2
  rw [h1, bits_or_nat u _ hu h2, zbt_eq]
  obtain ⟨y, hy⟩ : ∃ y, u ||| (18446744073709551616 - u) % 18446744073709551616 = y := ⟨_, rfl⟩
  rw [hy] at h3 h4 ⊢
  have h5 : bits .xor .u64 IntKind.u64.max (y : Int) = ((18446744073709551615 ^^^ y : Nat) : Int) := bits_xor_nat 18446744073709551615 y (by decide) h4
  have h6 : 18446744073709551615 ^^^ y = 18446744073709551615 - y := by
    have hy2 : y < 2 ^ 64 := h4
    rw [show (18446744073709551615 : Nat) - y = 2 ^ 64 - (y + 1) by omega, show (18446744073709551615 : Nat) = 2 ^ 64 - 1 from rfl]
    refine Nat.eq_of_testBit_eq fun i => ?_
    rw [Nat.testBit_xor, Nat.testBit_two_pow_sub_one, Nat.testBit_two_pow_sub_succ hy2]
    by_cases hi : i < 64
    · simp [hi]
    · have : y.testBit i = false := Nat.testBit_lt_two_pow (Nat.lt_of_lt_of_le hy2 (Nat.pow_le_pow_right (by decide) (by omega)))
      simp [hi, this]
  rw [h5, h6]
  unfold B64 at h4
  by_cases h0 : u = 0
  · rw [if_pos h0] at h3 ⊢; omega
  · rw [if_neg h0] at h3 ⊢; omega
theorem bits_word (e q s i : Nat) (hs : s % 4 = 0) (hs2 : s < 64) (hi : 64 * q + s = i * 4) :
    bits .and .u64 (bits .or .u64 ((limb e q : Int) / 2 ^ s) (IntKind.u64.wrap ((limb e (q + 1) : Int) * 2 ^ (64 - s)))) 15 = (nib e i : Int) := by
  have h1 : (limb e q : Int) / 2 ^ s = ((limb e q / 2 ^ s : Nat) : Int) := by rw [Int.natCast_ediv, Int.natCast_pow]; rfl
  have h2 : IntKind.u64.wrap ((limb e (q + 1) : Int) * 2 ^ (64 - s)) = ((limb e (q + 1) * 2 ^ (64 - s) % 18446744073709551616 : Nat) : Int) := by
    rw [IntKind.wrap_u64, Int.natCast_emod, Int.natCast_mul, Int.natCast_pow]; rfl
  have l1 : limb e q / 2 ^ s < B64 := Nat.lt_of_le_of_lt (Nat.div_le_self _ _) (limb_lt e q)
  have l2 : limb e (q + 1) * 2 ^ (64 - s) % 18446744073709551616 < B64 := Nat.mod_lt _ (by decide)
  have l3 := Nat.or_lt_two_pow (n := 64) l1 l2
  have h3 := nib_word (e := e) (q := q) hs hs2 (limb e (q + 1))
  rw [h1, h2, bits_or_nat _ _ l1 l2]
  have h4 := bits_and_nat _ 15 l3 (by decide)
  rw [show ((15 : Nat) : Int) = 15 from rfl] at h4
  rw [h4, show (15 : Nat) = 2 ^ 4 - 1 from rfl, Nat.and_two_pow_sub_one_eq_mod]
  have e2 : (64 * q + s) / 4 = i := by omega
  rw [e2] at h3
  exact congrArg _ h3
theorem bits_word3 (e s i : Nat) (hs : s % 4 = 0) (hs2 : s < 64) (hi : 64 * 3 + s = i * 4) :
    bits .and .u64 ((limb e 3 : Int) / 2 ^ s) 15 = (nib e i : Int) := by
  have h1 : (limb e 3 : Int) / 2 ^ s = ((limb e 3 / 2 ^ s : Nat) : Int) := by rw [Int.natCast_ediv, Int.natCast_pow]; rfl
  have l1 : limb e 3 / 2 ^ s < B64 := Nat.lt_of_le_of_lt (Nat.div_le_self _ _) (limb_lt e 3)
  have h3 := nib_word (e := e) (q := 3) hs hs2 0
  rw [Nat.zero_mul, Nat.zero_mod, Nat.or_zero] at h3
  have h4 := bits_and_nat _ 15 l1 (by decide)
  rw [show ((15 : Nat) : Int) = 15 from rfl] at h4
  rw [h1, h4, show (15 : Nat) = 2 ^ 4 - 1 from rfl, Nat.and_two_pow_sub_one_eq_mod]
  have e2 : (64 * 3 + s) / 4 = i := by omega
  rw [e2] at h3
  exact congrArg _ h3
set_option maxHeartbeats 1000000 in
theorem isz_any (v : Value) (l : List Nat) (w : World) (hS : WordSl w v l) (hl : l.length < 1000000) :
    Calls Tryd.prog 70 #[v] w fun e w' => e = .returned (.int .u64 (zmk (orl l) : Int)) ∧ w = w' := by
  have hlt := hS.lt
  obtain ⟨a, cap, rfl, _, hr⟩ := hS
  obtain ⟨n, hn⟩ : ∃ n, l.length = n := ⟨_, rfl⟩
  rw [hn] at hl ⊢
  have HR := hid hr
  clear hr
  go_enter Tryd.func70, Tryd.ntmps70
  go_wp2
  go_loop [3, 8] (fun u i => ∃ k : Nat, k ≤ n ∧ i = .int .i64 (k : Int) ∧ u = .int .u64 (orl (l.take k) : Int)) (fun _ i => n - (intOf i).toNat)
  case atStart => exact ⟨0, Nat.zero_le _, rfl, by rw [List.take_zero, orl_nil]; rfl⟩
  case round =>
    obtain ⟨k, hk, rfl, rfl⟩ := hrel
    by_cases hlt2 : k < n
    · obtain ⟨x, hx⟩ : ∃ x, l[k]? = some x := ⟨l[k]'(by omega), List.getElem?_eq_getElem _⟩
      obtain ⟨g, off, rfl, he⟩ : ∃ g off, a = some ⟨g, off, none⟩ ∧ WordsAt w g off l := by
        rcases HR.out with h | h
        · rw [h] at hx; cases hx
        · exact h
      obtain ⟨hxl, d0⟩ := he k x hx
      have hol := orl_lt (l := l.take k) (fun y hy => hlt y (List.mem_of_mem_take hy))
      have hor := bits_or_nat (orl (l.take k)) x hol hxl
      have HT := hid (orl_take hx)
      obtain ⟨u, hu⟩ : ∃ u, orl (l.take k) = u := ⟨_, rfl⟩
      rw [hu] at hor HT ⊢
      have HO := hid hor
      clear he hx hol hxl hlt hu hor
      go_wp2
      go_round
      case rel => exact ⟨k + 1, by omega, by go_num, by rw [HO.out, HT.out]⟩
      case measure => simp [intOf]; omega
    · obtain rfl : n = k := by omega
      have hol := orl_lt (l := l) hlt
      rw [List.take_of_length_le (by omega)]
      obtain ⟨u, hu⟩ : ∃ u, orl l = u := ⟨_, rfl⟩
      rw [hu] at hol ⊢
      have hz := zbt_word u hol
      have HU := hid hu
      have HF := hid (fun W : World => fromBit_any (zbt u) (zbt_lt u) W)
      rw [msk_zbt] at HF
      clear hlt hol hu
      go_wp2_with fail
      refine (HF.out _).mono ?_
      rintro e w' ⟨rfl, rfl⟩
      go_wp2
      go_ret
      exact ⟨by rw [HU.out]; rfl, rfl⟩
set_option maxHeartbeats 1000000 in
theorem equal_any (a b : Nat) (ha : a < B64) (hb : b < B64) (w : World) :
    Calls Tryd.prog 153 #[.int .u64 (a : Int), .int .u64 (b : Int)] w (Ret (.int .u64 (zmk (a ^^^ b) : Int)) w) := by
  have hx := hid (bits_xor_nat a b ha hb)
  have hlt := xor_lt64 ha hb
  have hor : orl [a ^^^ b] = a ^^^ b := by have := orl_snoc [] (a ^^^ b); rw [orl_nil, Nat.zero_or] at this; exact this
  obtain ⟨x, he⟩ : ∃ x, a ^^^ b = x := ⟨_, rfl⟩
  rw [he] at hx hlt hor ⊢
  have HI := hid (fun (W : World) (v : Value) (h : WordSl W v [x]) => isz_any v _ W h (by simp))
  rw [hor] at HI
  have HL := hid hlt
  have hx := hx.out
  clear ha hb he hlt hor
  go_enter Tryd.func153, Tryd.ntmps153
  go_wp2_with fail
  refine (HI.out _ _ ⟨_, _, rfl, by simp, .inr ⟨_, _, rfl, fun j y hy => ?_⟩⟩).mono ?_
  · match j, hy with
    | 0, hy => cases hy; exact ⟨HL.out, Blk.cell (i := 0) (Blk.new rfl) rfl⟩
  rintro e w' ⟨rfl, rfl⟩
  go_wp2
  go_ret
  exact ⟨rfl, by go_grown⟩
set_option maxRecDepth 100000 in
set_option maxHeartbeats 1000000 in
theorem bits_any (e i : Nat) (hi : i < 64) (w : World) :
    Calls Tryd.prog 152 #[vec e, .int .i64 ((i : Int) * 4), .int .i64 4] w (Ret (.int .u64 (nib e i : Int)) w) := by
  obtain ⟨s, hs, hs4⟩ : ∃ s : Nat, i * 4 % 64 = s ∧ s % 4 = 0 := ⟨_, rfl, by omega⟩
  have h2 : ((i : Int) * 4) % 64 = (s : Int) := by omega
  have hsl : (s : Int) < 64 := by omega
  have hs0 : (0 : Int) ≤ (s : Int) := by omega
  have hi0 : (0 : Int) ≤ (i : Int) * 4 := by omega
  have hi1 : (i : Int) * 4 < 256 := by omega
  have hlim : ∀ j, (limb e j : Int) ≤ 18446744073709551615 := fun j => by have := limb_lt e j; unfold B64 at this; omega
  obtain h0 | h0 | h0 | h0 : i / 16 = 0 ∨ i / 16 = 1 ∨ i / 16 = 2 ∨ i / 16 = 3 := by omega
  · have h1 : ((i : Int) * 4) / 64 = 0 := by omega
    have l0 := hlim 0
    have l1 := hlim 1
    have HW := hid (bits_word e 0 s i hs4 (by omega) (by omega))
    clear hlim h0 hs hi hs4
    go_enter Tryd.func152, Tryd.ntmps152
    go_wp2
    go_ret
    exact ⟨by rw [← HW.out]; rfl, by go_grown⟩
  · have h1 : ((i : Int) * 4) / 64 = 1 := by omega
    have l0 := hlim 1
    have l1 := hlim 2
    have HW := hid (bits_word e 1 s i hs4 (by omega) (by omega))
    clear hlim h0 hs hi hs4
    go_enter Tryd.func152, Tryd.ntmps152
    go_wp2
    go_ret
    exact ⟨by rw [← HW.out]; rfl, by go_grown⟩
  · have h1 : ((i : Int) * 4) / 64 = 2 := by omega
    have l0 := hlim 2
    have l1 := hlim 3
    have HW := hid (bits_word e 2 s i hs4 (by omega) (by omega))
    clear hlim h0 hs hi hs4
    go_enter Tryd.func152, Tryd.ntmps152
    go_wp2
    go_ret
    exact ⟨by rw [← HW.out]; rfl, by go_grown⟩
  · have h1 : ((i : Int) * 4) / 64 = 3 := by omega
    have l0 := hlim 3
    have HW := hid (bits_word3 e s i hs4 (by omega) (by omega))
    clear hlim h0 hs hi hs4
    go_enter Tryd.func152, Tryd.ntmps152
    go_wp2
    go_ret
    exact ⟨by rw [← HW.out]; rfl, by go_grown⟩
end Go.Proofs.YtogenbggjodcnaaDoor
