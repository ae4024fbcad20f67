/-
  Powers and inverses of elements.
-/
import Derived.Test.YtogenbggjodcnaaDoorLimbs
import Derived.Test.YtogenbggjodcnaaDoorPrimeI
import Derived.Laws.Unary
import Derived.Test.YtogenbggjodcnaaDoorMont
import Derived.Test.YtogenbggjodcnaaDoorPolys
import Derived.Test.YtogenbggjodcnaaDoorClone
import Derived.Deep.MidRow
import Derived.Test.YtogenbggjodcnaaDoorSetB
import Derived.Deep.DeepMust
/-
  Whether words are zero: masks; four bits of a number.
-/
namespace Go.Proofs.YtogenbggjodcnaaDoor
open Go.RowKit

/-- Words in a row. -/
def WordsAt (w : World) (g off : Nat) (l : List Nat) : Prop := ∀ j x, l[j]? = some x → x < B64 ∧ w.cell? ⟨g, off + j, none⟩ = some (.int .u64 (x : Int))
def WordSl (w : World) (v : Value) (l : List Nat) : Prop := ∃ a cap, v = .slice a l.length cap ∧ l.length ≤ cap ∧ (l = [] ∨ ∃ g off, a = some ⟨g, off, none⟩ ∧ WordsAt w g off l)
theorem WordSl.lt {w : World} {v : Value} {l : List Nat} (h : WordSl w v l) : ∀ x ∈ l, x < B64 := by
  intro x hx
  obtain ⟨a, cap, _, _, h0 | ⟨g, off, _, he⟩⟩ := h
  · rw [h0] at hx; cases hx
  · obtain ⟨j, hj, rfl⟩ := List.getElem_of_mem hx
    exact (he j _ (List.getElem?_eq_getElem hj)).1
theorem zbt_word (u : Nat) (hu : u < B64) : bits .xor .u64 IntKind.u64.max (bits .or .u64 (u : Int) (IntKind.u64.wrap (-(u : Int)))) / 9223372036854775808 = (zbt u : Int) := by
  unfold B64 at hu
  have h1 : IntKind.u64.wrap (-(u : Int)) = ((18446744073709551616 - u) % 18446744073709551616 : Nat) := by rw [IntKind.wrap_u64]; omega
  have h2 : (18446744073709551616 - u) % 18446744073709551616 < B64 := by unfold B64; omega
  have h3 := or_neg u hu
  have h4 : u ||| (18446744073709551616 - u) % 18446744073709551616 < B64 := Nat.or_lt_two_pow (n := 64) hu h2
  rw [h1, bits_or_nat u _ hu h2, zbt_eq]
  obtain ⟨y, hy⟩ : ∃ y, u ||| (18446744073709551616 - u) % 18446744073709551616 = y := ⟨_, rfl⟩
  rw [hy] at h3 h4 ⊢
  have h5 : bits .xor .u64 IntKind.u64.max (y : Int) = ((18446744073709551615 ^^^ y : Nat) : Int) := bits_xor_nat 18446744073709551615 y (by decide) h4
  have h6 : 18446744073709551615 ^^^ y = 18446744073709551615 - y := by
    have hy2 : y < 2 ^ 64 := h4
    rw [show (18446744073709551615 : Nat) - y = 2 ^ 64 - (y + 1) by omega, show (18446744073709551615 : Nat) = 2 ^ 64 - 1 from rfl]
    refine Nat.eq_of_testBit_eq fun i => ?_
    rw [Nat.testBit_xor, Nat.testBit_two_pow_sub_one, Nat.testBit_two_pow_sub_succ hy2]
    by_cases hi : i < 64
    · simp [hi]
    · have : y.testBit i = false := Nat.testBit_lt_two_pow (Nat.lt_of_lt_of_le hy2 (Nat.pow_le_pow_right (by decide) (by omega)))
      simp [hi, this]
  rw [h5, h6]
  unfold B64 at h4
  by_cases h0 : u = 0
  · rw [if_pos h0] at h3 ⊢; omega
  · rw [if_neg h0] at h3 ⊢; omega
theorem bits_word (e q s i : Nat) (hs : s % 4 = 0) (hs2 : s < 64) (hi : 64 * q + s = i * 4) :
    bits .and .u64 (bits .or .u64 ((limb e q : Int) / 2 ^ s) (IntKind.u64.wrap ((limb e (q + 1) : Int) * 2 ^ (64 - s)))) 15 = (nib e i : Int) := by
  have h1 : (limb e q : Int) / 2 ^ s = ((limb e q / 2 ^ s : Nat) : Int) := by rw [Int.natCast_ediv, Int.natCast_pow]; rfl
  have h2 : IntKind.u64.wrap ((limb e (q + 1) : Int) * 2 ^ (64 - s)) = ((limb e (q + 1) * 2 ^ (64 - s) % 18446744073709551616 : Nat) : Int) := by
    rw [IntKind.wrap_u64, Int.natCast_emod, Int.natCast_mul, Int.natCast_pow]; rfl
  have l1 : limb e q / 2 ^ s < B64 := Nat.lt_of_le_of_lt (Nat.div_le_self _ _) (limb_lt e q)
  have l2 : limb e (q + 1) * 2 ^ (64 - s) % 18446744073709551616 < B64 := Nat.mod_lt _ (by decide)
  have l3 := Nat.or_lt_two_pow (n := 64) l1 l2
  have h3 := nib_word (e := e) (q := q) hs hs2 (limb e (q + 1))
  rw [h1, h2, bits_or_nat _ _ l1 l2]
  have h4 := bits_and_nat _ 15 l3 (by decide)
  rw [show ((15 : Nat) : Int) = 15 from rfl] at h4
  rw [h4, show (15 : Nat) = 2 ^ 4 - 1 from rfl, Nat.and_two_pow_sub_one_eq_mod]
  have e2 : (64 * q + s) / 4 = i := by omega
  rw [e2] at h3
  exact congrArg _ h3
theorem bits_word3 (e s i : Nat) (hs : s % 4 = 0) (hs2 : s < 64) (hi : 64 * 3 + s = i * 4) :
    bits .and .u64 ((limb e 3 : Int) / 2 ^ s) 15 = (nib e i : Int) := by
  have h1 : (limb e 3 : Int) / 2 ^ s = ((limb e 3 / 2 ^ s : Nat) : Int) := by rw [Int.natCast_ediv, Int.natCast_pow]; rfl
  have l1 : limb e 3 / 2 ^ s < B64 := Nat.lt_of_le_of_lt (Nat.div_le_self _ _) (limb_lt e 3)
  have h3 := nib_word (e := e) (q := 3) hs hs2 0
  rw [Nat.zero_mul, Nat.zero_mod, Nat.or_zero] at h3
  have h4 := bits_and_nat _ 15 l1 (by decide)
  rw [show ((15 : Nat) : Int) = 15 from rfl] at h4
  rw [h1, h4, show (15 : Nat) = 2 ^ 4 - 1 from rfl, Nat.and_two_pow_sub_one_eq_mod]
  have e2 : (64 * 3 + s) / 4 = i := by omega
  rw [e2] at h3
  exact congrArg _ h3
set_option maxHeartbeats 1000000 in
theorem isz_any (v : Value) (l : List Nat) (w : World) (hS : WordSl w v l) (hl : l.length < 1000000) :
    Calls Tryd.prog 70 #[v] w fun e w' => e = .returned (.int .u64 (zmk (orl l) : Int)) ∧ w = w' := by
  have hlt := hS.lt
  obtain ⟨a, cap, rfl, _, hr⟩ := hS
  obtain ⟨n, hn⟩ : ∃ n, l.length = n := ⟨_, rfl⟩
  rw [hn] at hl ⊢
  have HR := hid hr
  clear hr
  go_enter Tryd.func70, Tryd.ntmps70
  go_wp2
  go_loop [3, 8] (fun u i => ∃ k : Nat, k ≤ n ∧ i = .int .i64 (k : Int) ∧ u = .int .u64 (orl (l.take k) : Int)) (fun _ i => n - (intOf i).toNat)
  case atStart => exact ⟨0, Nat.zero_le _, rfl, by rw [List.take_zero, orl_nil]; rfl⟩
  case round =>
    obtain ⟨k, hk, rfl, rfl⟩ := hrel
    by_cases hlt2 : k < n
    · obtain ⟨x, hx⟩ : ∃ x, l[k]? = some x := ⟨l[k]'(by omega), List.getElem?_eq_getElem _⟩
      obtain ⟨g, off, rfl, he⟩ : ∃ g off, a = some ⟨g, off, none⟩ ∧ WordsAt w g off l := by
        rcases HR.out with h | h
        · rw [h] at hx; cases hx
        · exact h
      obtain ⟨hxl, d0⟩ := he k x hx
      have hol := orl_lt (l := l.take k) (fun y hy => hlt y (List.mem_of_mem_take hy))
      have hor := bits_or_nat (orl (l.take k)) x hol hxl
      have HT := hid (orl_take hx)
      obtain ⟨u, hu⟩ : ∃ u, orl (l.take k) = u := ⟨_, rfl⟩
      rw [hu] at hor HT ⊢
      have HO := hid hor
      clear he hx hol hxl hlt hu hor
      go_wp2
      go_round
      case rel => exact ⟨k + 1, by omega, by go_num, by rw [HO.out, HT.out]⟩
      case measure => simp [intOf]; omega
    · obtain rfl : n = k := by omega
      have hol := orl_lt (l := l) hlt
      rw [List.take_of_length_le (by omega)]
      obtain ⟨u, hu⟩ : ∃ u, orl l = u := ⟨_, rfl⟩
      rw [hu] at hol ⊢
      have hz := zbt_word u hol
      have HU := hid hu
      have HF := hid (fun W : World => fromBit_any (zbt u) (zbt_lt u) W)
      rw [msk_zbt] at HF
      clear hlt hol hu
      go_wp2_with fail
      refine (HF.out _).mono ?_
      rintro e w' ⟨rfl, rfl⟩
      go_wp2
      go_ret
      exact ⟨by rw [HU.out]; rfl, rfl⟩
set_option maxHeartbeats 1000000 in
theorem equal_any (a b : Nat) (ha : a < B64) (hb : b < B64) (w : World) :
    Calls Tryd.prog 153 #[.int .u64 (a : Int), .int .u64 (b : Int)] w (Ret (.int .u64 (zmk (a ^^^ b) : Int)) w) := by
  have hx := hid (bits_xor_nat a b ha hb)
  have hlt := xor_lt64 ha hb
  have hor : orl [a ^^^ b] = a ^^^ b := by have := orl_snoc [] (a ^^^ b); rw [orl_nil, Nat.zero_or] at this; exact this
  obtain ⟨x, he⟩ : ∃ x, a ^^^ b = x := ⟨_, rfl⟩
  rw [he] at hx hlt hor ⊢
  have HI := hid (fun (W : World) (v : Value) (h : WordSl W v [x]) => isz_any v _ W h (by simp))
  rw [hor] at HI
  have HL := hid hlt
  have hx := hx.out
  clear ha hb he hlt hor
  go_enter Tryd.func153, Tryd.ntmps153
  go_wp2_with fail
  refine (HI.out _ _ ⟨_, _, rfl, by simp, .inr ⟨_, _, rfl, fun j y hy => ?_⟩⟩).mono ?_
  · match j, hy with
    | 0, hy => cases hy; exact ⟨HL.out, Blk.cell (i := 0) (Blk.new rfl) rfl⟩
  rintro e w' ⟨rfl, rfl⟩
  go_wp2
  go_ret
  exact ⟨rfl, by go_grown⟩
set_option maxRecDepth 100000 in
set_option maxHeartbeats 1000000 in
theorem bits_any (e i : Nat) (hi : i < 64) (w : World) :
    Calls Tryd.prog 152 #[vec e, .int .i64 ((i : Int) * 4), .int .i64 4] w (Ret (.int .u64 (nib e i : Int)) w) := by
  obtain ⟨s, hs, hs4⟩ : ∃ s : Nat, i * 4 % 64 = s ∧ s % 4 = 0 := ⟨_, rfl, by omega⟩
  have h2 : ((i : Int) * 4) % 64 = (s : Int) := by omega
  have hsl : (s : Int) < 64 := by omega
  have hs0 : (0 : Int) ≤ (s : Int) := by omega
  have hi0 : (0 : Int) ≤ (i : Int) * 4 := by omega
  have hi1 : (i : Int) * 4 < 256 := by omega
  have hlim : ∀ j, (limb e j : Int) ≤ 18446744073709551615 := fun j => by have := limb_lt e j; unfold B64 at this; omega
  obtain h0 | h0 | h0 | h0 : i / 16 = 0 ∨ i / 16 = 1 ∨ i / 16 = 2 ∨ i / 16 = 3 := by omega
  · have h1 : ((i : Int) * 4) / 64 = 0 := by omega
    have l0 := hlim 0
    have l1 := hlim 1
    have HW := hid (bits_word e 0 s i hs4 (by omega) (by omega))
    clear hlim h0 hs hi hs4
    go_enter Tryd.func152, Tryd.ntmps152
    go_wp2
    go_ret
    exact ⟨by rw [← HW.out]; rfl, by go_grown⟩
  · have h1 : ((i : Int) * 4) / 64 = 1 := by omega
    have l0 := hlim 1
    have l1 := hlim 2
    have HW := hid (bits_word e 1 s i hs4 (by omega) (by omega))
    clear hlim h0 hs hi hs4
    go_enter Tryd.func152, Tryd.ntmps152
    go_wp2
    go_ret
    exact ⟨by rw [← HW.out]; rfl, by go_grown⟩
  · have h1 : ((i : Int) * 4) / 64 = 2 := by omega
    have l0 := hlim 2
    have l1 := hlim 3
    have HW := hid (bits_word e 2 s i hs4 (by omega) (by omega))
    clear hlim h0 hs hi hs4
    go_enter Tryd.func152, Tryd.ntmps152
    go_wp2
    go_ret
    exact ⟨by rw [← HW.out]; rfl, by go_grown⟩
  · have h1 : ((i : Int) * 4) / 64 = 3 := by omega
    have l0 := hlim 3
    have HW := hid (bits_word3 e s i hs4 (by omega) (by omega))
    clear hlim h0 hs hi hs4
    go_enter Tryd.func152, Tryd.ntmps152
    go_wp2
    go_ret
    exact ⟨by rw [← HW.out]; rfl, by go_grown⟩
end Go.Proofs.YtogenbggjodcnaaDoor
/-
  Elements: whether one is zero, the choice of one, squares.
-/
namespace Go.Proofs.YtogenbggjodcnaaDoor
open Go.RowKit

theorem zmk_vec {a : Nat} (ha : a < B256) : zmk (orl [limb a 0, limb a 1, limb a 2, limb a 3]) = zmk a := by
  have h : orl [limb a 0, limb a 1, limb a 2, limb a 3] = 0 ↔ a = 0 := by
    rw [orl_zero]
    constructor
    · intro h
      have e : ∀ i, limb 0 i = 0 := fun i => by rw [limb_eq]; simp
      exact vec_inj ha (by decide) ((h _ (by simp)).trans (e 0).symm) ((h _ (by simp)).trans (e 1).symm) ((h _ (by simp)).trans (e 2).symm) ((h _ (by simp)).trans (e 3).symm)
    · rintro rfl x hx
      have e : ∀ i, limb 0 i = 0 := fun i => by rw [limb_eq]; simp
      rw [e, e, e, e] at hx
      simpa using hx
  rw [zmk_eq, zmk_eq]
  by_cases h0 : a = 0
  · rw [if_pos h0, if_pos (h.2 h0)]
  · rw [if_neg h0, if_neg (fun e => h0 (h.1 e))]
set_option maxHeartbeats 1000000 in
theorem lisz_any (a : Nat) (ha : a < B256) (w : World) : Calls Tryd.prog 146 #[vec a] w (Ret (.int .u64 (zmk a : Int)) w) := by
  have BW := hid (Below.refl w.heap.size w)
  have HI := hid (fun (W : World) (v : Value) (h : WordSl W v [limb a 0, limb a 1, limb a 2, limb a 3]) => isz_any v _ W h (by simp))
  rw [zmk_vec ha] at HI
  go_enter Tryd.func146, Tryd.ntmps146
  go_wp2_with fail
  obtain ⟨v1, hv9⟩ : ∃ v, (w.alloc (.cells #[.int .u64 (limb a 0 : Int), .int .u64 (limb a 1 : Int), .int .u64 (limb a 2 : Int), .int .u64 (limb a 3 : Int)] 28)) = v := ⟨_, rfl⟩
  have hG9 : Below w.heap.size w v1 := by rw [← hv9]; go_grown
  have X_a : Blk v1 (w.heap.size) 28 [.int .u64 (limb a 0 : Int), .int .u64 (limb a 1 : Int), .int .u64 (limb a 2 : Int), .int .u64 (limb a 3 : Int)] := by rw [← hv9]; exact Blk.new (by simp)
  obtain ⟨ba, hb9⟩ : ∃ k, w.heap.size = k := ⟨_, rfl⟩
  rw [hb9] at X_a
  have g_ba : w.heap.size ≤ ba := by rw [← hb9]; exact BW.out.size
  replace BW := hid (BW.out.trans (hG9.mono BW.out.size))
  clear hG9
  rw [hv9]
  try rw [hb9]
  clear hv9 hb9
  refine (HI.out _ _ ⟨_, _, rfl, by simp, .inr ⟨_, _, rfl, fun j x hx => ?_⟩⟩).mono ?_
  · match j, hx with
    | 0, hx => cases hx; exact ⟨limb_lt _ _, X_a.cell (i := 0) rfl⟩
    | 1, hx => cases hx; exact ⟨limb_lt _ _, X_a.cell (i := 1) rfl⟩
    | 2, hx => cases hx; exact ⟨limb_lt _ _, X_a.cell (i := 2) rfl⟩
    | 3, hx => cases hx; exact ⟨limb_lt _ _, X_a.cell (i := 3) rfl⟩
  rintro e w' ⟨rfl, rfl⟩
  go_wp2
  go_ret
  exact ⟨rfl, BW.out⟩
set_option maxHeartbeats 1000000 in
theorem misz_any (a : Nat) (ha : a < B256) (w : World) : Calls Tryd.prog 133 #[vec a] w (Ret (.int .u64 (zmk a : Int)) w) := by
  have BW := hid (Below.refl w.heap.size w)
  go_enter Tryd.func133, Tryd.ntmps133
  go_wp2_with fail
  obtain ⟨v1, hv9⟩ : ∃ v, (w.alloc (.cells #[.int .u64 (limb a 0 : Int), .int .u64 (limb a 1 : Int), .int .u64 (limb a 2 : Int), .int .u64 (limb a 3 : Int)] 29)) = v := ⟨_, rfl⟩
  have hG9 : Below w.heap.size w v1 := by rw [← hv9]; go_grown
  have X_a : Blk v1 (w.heap.size) 29 [.int .u64 (limb a 0 : Int), .int .u64 (limb a 1 : Int), .int .u64 (limb a 2 : Int), .int .u64 (limb a 3 : Int)] := by rw [← hv9]; exact Blk.new (by simp)
  obtain ⟨ba, hb9⟩ : ∃ k, w.heap.size = k := ⟨_, rfl⟩
  rw [hb9] at X_a
  have g_ba : w.heap.size ≤ ba := by rw [← hb9]; exact BW.out.size
  replace BW := hid (BW.out.trans (hG9.mono BW.out.size))
  clear hG9
  rw [hv9]
  try rw [hb9]
  clear hv9 hb9
  refine (lisz_any a ha _).mono ?_
  rintro e v2 ⟨rfl, b9⟩
  replace X_a := X_a.keep b9
  replace BW := hid (BW.out.trans (b9.mono BW.out.size))
  clear b9
  go_wp2
  go_ret
  exact ⟨rfl, BW.out⟩
set_option maxHeartbeats 1000000 in
theorem mtake_any (c a b : Nat) (hc : c < B64) (w : World) : Calls Tryd.prog 132 #[.int .u64 (c : Int), vec a, vec b] w (Ret (vec (pick c a b)) w) := by
  have BW := hid (Below.refl w.heap.size w)
  go_enter Tryd.func132, Tryd.ntmps132
  go_wp2_with fail
  obtain ⟨v1, hv9⟩ : ∃ v, (((w.alloc (.cells #[.int .u64 (limb a 0 : Int), .int .u64 (limb a 1 : Int), .int .u64 (limb a 2 : Int), .int .u64 (limb a 3 : Int)] 29)).alloc (.cells #[.int .u64 (limb b 0 : Int), .int .u64 (limb b 1 : Int), .int .u64 (limb b 2 : Int), .int .u64 (limb b 3 : Int)] 29)).alloc (.cells #[.int .u64 0, .int .u64 0, .int .u64 0, .int .u64 0] 29)) = v := ⟨_, rfl⟩
  have hG9 : Below w.heap.size w v1 := by rw [← hv9]; go_grown
  have X_a : Blk v1 (w.heap.size) 29 [.int .u64 (limb a 0 : Int), .int .u64 (limb a 1 : Int), .int .u64 (limb a 2 : Int), .int .u64 (limb a 3 : Int)] := by rw [← hv9]; exact Blk.alloc (Blk.alloc (Blk.new (by simp)) _) _
  have X_b : Blk v1 (w.heap.size + 1) 29 [.int .u64 (limb b 0 : Int), .int .u64 (limb b 1 : Int), .int .u64 (limb b 2 : Int), .int .u64 (limb b 3 : Int)] := by rw [← hv9]; exact Blk.alloc (Blk.new (by simp)) _
  have X_r : Blk v1 (w.heap.size + 1 + 1) 29 [.int .u64 0, .int .u64 0, .int .u64 0, .int .u64 0] := by rw [← hv9]; exact Blk.new (by simp)
  obtain ⟨ba, hb9⟩ : ∃ k, w.heap.size = k := ⟨_, rfl⟩
  rw [hb9] at X_a
  rw [hb9] at X_b
  rw [hb9] at X_r
  have g_ba : w.heap.size ≤ ba := by rw [← hb9]; exact BW.out.size
  replace BW := hid (BW.out.trans (hG9.mono BW.out.size))
  clear hG9
  rw [hv9]
  try rw [hb9]
  clear hv9 hb9
  refine (lchoose_any c a b hc _).mono ?_
  rintro e v2 ⟨rfl, b9⟩
  replace X_a := X_a.keep b9
  replace X_b := X_b.keep b9
  replace X_r := X_r.keep b9
  replace BW := hid (BW.out.trans (b9.mono BW.out.size))
  clear b9
  have z_r := X_r.lt
  have c_r0 := X_r.cell (i := 0) rfl
  have f_r0 := X_r.frozen 0
  have c_r1 := X_r.cell (i := 1) rfl
  have f_r1 := X_r.frozen 1
  have c_r2 := X_r.cell (i := 2) rfl
  have f_r2 := X_r.frozen 2
  have c_r3 := X_r.cell (i := 3) rfl
  have f_r3 := X_r.frozen 3
  go_wp2
  refine bodyPost_ret (by simp only [results, Tryd.results132]; go_simp; try rfl) rfl ?_
  exact ⟨rfl, by have := BW.out; have := BW.out.size; go_grown; all_goals (simp; try omega)⟩
set_option maxHeartbeats 1000000 in
theorem msqr_any (id : Int) (m inv o s a : Nat) (hF : FieldOK m inv) (ha : a < m) (w : World) : Calls Tryd.prog 150 #[fld id m inv o s, vec a] w (Ret (vec (mont m a a)) w) := by
  have BW := hid (Below.refl w.heap.size w)
  go_enter Tryd.func150, Tryd.ntmps150
  go_wp2_with fail
  obtain ⟨v1, hv9⟩ : ∃ v, (((w.alloc (.cells #[.int .i64 id, .int .u64 (limb m 0 : Int), .int .u64 (limb m 1 : Int), .int .u64 (limb m 2 : Int), .int .u64 (limb m 3 : Int), .int .u64 (inv : Int), .int .u64 (limb o 0 : Int), .int .u64 (limb o 1 : Int), .int .u64 (limb o 2 : Int), .int .u64 (limb o 3 : Int), .int .u64 (limb s 0 : Int), .int .u64 (limb s 1 : Int), .int .u64 (limb s 2 : Int), .int .u64 (limb s 3 : Int)] 31)).alloc (.cells #[.int .u64 (limb a 0 : Int), .int .u64 (limb a 1 : Int), .int .u64 (limb a 2 : Int), .int .u64 (limb a 3 : Int)] 29)).alloc (.cells #[.int .u64 0, .int .u64 0, .int .u64 0, .int .u64 0] 29)) = v := ⟨_, rfl⟩
  have hG9 : Below w.heap.size w v1 := by rw [← hv9]; go_grown
  have X_f : Blk v1 (w.heap.size) 31 [.int .i64 id, .int .u64 (limb m 0 : Int), .int .u64 (limb m 1 : Int), .int .u64 (limb m 2 : Int), .int .u64 (limb m 3 : Int), .int .u64 (inv : Int), .int .u64 (limb o 0 : Int), .int .u64 (limb o 1 : Int), .int .u64 (limb o 2 : Int), .int .u64 (limb o 3 : Int), .int .u64 (limb s 0 : Int), .int .u64 (limb s 1 : Int), .int .u64 (limb s 2 : Int), .int .u64 (limb s 3 : Int)] := by rw [← hv9]; exact Blk.alloc (Blk.alloc (Blk.new (by simp)) _) _
  have X_a : Blk v1 (w.heap.size + 1) 29 [.int .u64 (limb a 0 : Int), .int .u64 (limb a 1 : Int), .int .u64 (limb a 2 : Int), .int .u64 (limb a 3 : Int)] := by rw [← hv9]; exact Blk.alloc (Blk.new (by simp)) _
  have X_r : Blk v1 (w.heap.size + 1 + 1) 29 [.int .u64 0, .int .u64 0, .int .u64 0, .int .u64 0] := by rw [← hv9]; exact Blk.new (by simp)
  obtain ⟨bf, hb9⟩ : ∃ k, w.heap.size = k := ⟨_, rfl⟩
  rw [hb9] at X_f
  rw [hb9] at X_a
  rw [hb9] at X_r
  have g_bf : w.heap.size ≤ bf := by rw [← hb9]; exact BW.out.size
  replace BW := hid (BW.out.trans (hG9.mono BW.out.size))
  clear hG9
  rw [hv9]
  try rw [hb9]
  clear hv9 hb9
  refine (mmul_any id m inv o s a a hF (by have := hF.1; omega) (by have := hF.1; omega) (Nat.mul_lt_mul_of_lt_of_lt (by have := hF.1; omega) ha) _).mono ?_
  rintro e v2 ⟨rfl, b9⟩
  replace X_f := X_f.keep b9
  replace X_a := X_a.keep b9
  replace X_r := X_r.keep b9
  replace BW := hid (BW.out.trans (b9.mono BW.out.size))
  clear b9
  have z_r := X_r.lt
  have c_r0 := X_r.cell (i := 0) rfl
  have f_r0 := X_r.frozen 0
  have c_r1 := X_r.cell (i := 1) rfl
  have f_r1 := X_r.frozen 1
  have c_r2 := X_r.cell (i := 2) rfl
  have f_r2 := X_r.frozen 2
  have c_r3 := X_r.cell (i := 3) rfl
  have f_r3 := X_r.frozen 3
  go_wp2
  refine bodyPost_ret (by simp only [results, Tryd.results150]; go_simp; try rfl) rfl ?_
  exact ⟨rfl, by have := BW.out; have := BW.out.size; go_grown; all_goals (simp; try omega)⟩
end Go.Proofs.YtogenbggjodcnaaDoor
/-
  The table of powers of an element; the entry with an index.
-/
namespace Go.Proofs.YtogenbggjodcnaaDoor
open Go.RowKit

theorem info_tbl : (Tryd.prog.info? 192).map (·.size) = some 64 := by kernel_rfl
/-- The entries of the table. -/
noncomputable def tbs (m x : Nat) : List Nat := (List.range 16).map fun j => frm m (powm m x j)
theorem tbs_len (m x : Nat) : (tbs m x).length = 16 := by simp [tbs]
theorem tbs_get (m x : Nat) {j : Nat} (h : j < 16) : (tbs m x)[j]? = some (frm m (powm m x j)) := by simp [tbs, List.getElem?_map, List.getElem?_range h]
theorem tbs_nums (m x : Nat) : (nums (tbs m x)).length = 64 := by rw [nums_len, tbs_len]
theorem results_cell {fn : Func} {p : Tmp} {ty : TypeId} (h : fn.results = #[.cell p ty]) (tmps : Array Value) (P : Program) (w : World) :
    (results fn tmps).run P w = ((asAddr (tmps.getD p undef)).run P w).andThen fun a w₁ => (loadVar ty a).run P w₁ := by
  simp only [results, h]
  simp [Sem.run_bind, Result.andThen]
theorem below_setCells {n b : Nat} {A : World} : ∀ (vs : List Value) (o : Nat) {W : World}, Below n A W → n ≤ b → Below n A (W.setCells b o vs)
  | [], _, _, h, _ => h
  | v :: r, o, _, h, hb => below_setCells r (o + 1) (h.setCell (p := ⟨b, o, none⟩) hb v) hb
theorem tbl_start {m x : Nat} (hm : 1 < m) : FRow 16 (fun t => if t ≤ 0 then frm m (powm m x t) else 0) (limbs (frm m 1) ++ List.replicate 60 (.int .u64 0)) := by
  refine ⟨by simp, fun t j ht hj => ?_⟩
  by_cases h : t = 0
  · subst h
    show _ = some (Value.int .u64 (limb (if 0 ≤ 0 then frm m (powm m x 0) else 0) j : Int))
    rw [if_pos (Nat.le_refl 0), powm_zero x hm, List.getElem?_append_left (by simp; omega), show 0 * 4 + j = j by omega, limbs_get _ hj]
  · show _ = some (Value.int .u64 (limb (if t ≤ 0 then frm m (powm m x t) else 0) j : Int))
    rw [if_neg (by omega), List.getElem?_append_right (by simp; omega), List.getElem?_replicate, if_pos (by simp; omega)]
    rw [limb_eq]; simp
theorem tbl_step {m x k : Nat} {zs : List Value} (h : FRow 16 (fun t => if t ≤ k then frm m (powm m x t) else 0) zs) (hk : k + 1 < 16) {r : Nat} (hr : frm m (powm m x (k + 1)) = r) :
    FRow 16 (fun t => if t ≤ k + 1 then frm m (powm m x t) else 0) ((((zs.set ((k + 1) * 4) (.int .u64 (limb r 0 : Int))).set ((k + 1) * 4 + 1) (.int .u64 (limb r 1 : Int))).set ((k + 1) * 4 + 2) (.int .u64 (limb r 2 : Int))).set ((k + 1) * 4 + 3) (.int .u64 (limb r 3 : Int))) := by
  refine h.store hk r (fun t _ => ?_)
  by_cases e : t = k + 1
  · rw [if_pos e, if_pos (by omega), e, hr]
  · rw [if_neg e]
    by_cases l : t ≤ k
    · rw [if_pos l, if_pos (by omega)]
    · rw [if_neg l, if_neg (by omega)]
theorem tbl_done {m x : Nat} {zs : List Value} (h : FRow 16 (fun t => if t ≤ 15 then frm m (powm m x t) else 0) zs) : zs = nums (tbs m x) := by
  rw [h.done]
  refine congrArg nums (List.map_congr_left fun t ht => ?_)
  have := List.mem_range.1 ht
  exact if_pos (by omega)
set_option maxRecDepth 100000 in
set_option maxHeartbeats 2000000 in
theorem table_any (id : Int) (m inv s x : Nat) (hF : FieldOK m inv) (hx : x < m) (w : World) :
    Calls Tryd.prog 149 #[fld id m inv (frm m 1) s, vec (frm m x)] w (Ret (.agg (nums (tbs m x)).toArray) w) := by
  have BW := hid (Below.refl w.heap.size w)
  have hF1 := hF.1
  have hF2 := hF.2.1
  have hF4 := hF.2.2.2.1
  have HFF := hid hF
  have hxl := frm_lt (m := m) x (by omega)
  clear hF
  go_enter Tryd.func149, Tryd.ntmps149
  go_wp2_with fail
  obtain ⟨v1, hv9⟩ : ∃ v, (((w.alloc (.cells #[.int .i64 id, .int .u64 (limb m 0 : Int), .int .u64 (limb m 1 : Int), .int .u64 (limb m 2 : Int), .int .u64 (limb m 3 : Int), .int .u64 (inv : Int), .int .u64 (limb (frm m 1) 0 : Int), .int .u64 (limb (frm m 1) 1 : Int), .int .u64 (limb (frm m 1) 2 : Int), .int .u64 (limb (frm m 1) 3 : Int), .int .u64 (limb s 0 : Int), .int .u64 (limb s 1 : Int), .int .u64 (limb s 2 : Int), .int .u64 (limb s 3 : Int)] 31)).alloc (.cells #[.int .u64 (limb (frm m x) 0 : Int), .int .u64 (limb (frm m x) 1 : Int), .int .u64 (limb (frm m x) 2 : Int), .int .u64 (limb (frm m x) 3 : Int)] 29)).alloc (.cells #[.int .u64 (limb (frm m 1) 0 : Int), .int .u64 (limb (frm m 1) 1 : Int), .int .u64 (limb (frm m 1) 2 : Int), .int .u64 (limb (frm m 1) 3 : Int), .int .u64 0, .int .u64 0, .int .u64 0, .int .u64 0, .int .u64 0, .int .u64 0, .int .u64 0, .int .u64 0, .int .u64 0, .int .u64 0, .int .u64 0, .int .u64 0, .int .u64 0, .int .u64 0, .int .u64 0, .int .u64 0, .int .u64 0, .int .u64 0, .int .u64 0, .int .u64 0, .int .u64 0, .int .u64 0, .int .u64 0, .int .u64 0, .int .u64 0, .int .u64 0, .int .u64 0, .int .u64 0, .int .u64 0, .int .u64 0, .int .u64 0, .int .u64 0, .int .u64 0, .int .u64 0, .int .u64 0, .int .u64 0, .int .u64 0, .int .u64 0, .int .u64 0, .int .u64 0, .int .u64 0, .int .u64 0, .int .u64 0, .int .u64 0, .int .u64 0, .int .u64 0, .int .u64 0, .int .u64 0, .int .u64 0, .int .u64 0, .int .u64 0, .int .u64 0, .int .u64 0, .int .u64 0, .int .u64 0, .int .u64 0, .int .u64 0, .int .u64 0, .int .u64 0, .int .u64 0] 192)) = v := ⟨_, rfl⟩
  have hG9 : Below w.heap.size w v1 := by rw [← hv9]; go_grown
  have X_f : Blk v1 (w.heap.size) 31 [.int .i64 id, .int .u64 (limb m 0 : Int), .int .u64 (limb m 1 : Int), .int .u64 (limb m 2 : Int), .int .u64 (limb m 3 : Int), .int .u64 (inv : Int), .int .u64 (limb (frm m 1) 0 : Int), .int .u64 (limb (frm m 1) 1 : Int), .int .u64 (limb (frm m 1) 2 : Int), .int .u64 (limb (frm m 1) 3 : Int), .int .u64 (limb s 0 : Int), .int .u64 (limb s 1 : Int), .int .u64 (limb s 2 : Int), .int .u64 (limb s 3 : Int)] := by rw [← hv9]; exact Blk.alloc (Blk.alloc (Blk.new rfl) _) _
  have X_x : Blk v1 (w.heap.size + 1) 29 [.int .u64 (limb (frm m x) 0 : Int), .int .u64 (limb (frm m x) 1 : Int), .int .u64 (limb (frm m x) 2 : Int), .int .u64 (limb (frm m x) 3 : Int)] := by rw [← hv9]; exact Blk.alloc (Blk.new (by simp)) _
  have X_t : Blk v1 (w.heap.size + 1 + 1) 192 [.int .u64 (limb (frm m 1) 0 : Int), .int .u64 (limb (frm m 1) 1 : Int), .int .u64 (limb (frm m 1) 2 : Int), .int .u64 (limb (frm m 1) 3 : Int), .int .u64 0, .int .u64 0, .int .u64 0, .int .u64 0, .int .u64 0, .int .u64 0, .int .u64 0, .int .u64 0, .int .u64 0, .int .u64 0, .int .u64 0, .int .u64 0, .int .u64 0, .int .u64 0, .int .u64 0, .int .u64 0, .int .u64 0, .int .u64 0, .int .u64 0, .int .u64 0, .int .u64 0, .int .u64 0, .int .u64 0, .int .u64 0, .int .u64 0, .int .u64 0, .int .u64 0, .int .u64 0, .int .u64 0, .int .u64 0, .int .u64 0, .int .u64 0, .int .u64 0, .int .u64 0, .int .u64 0, .int .u64 0, .int .u64 0, .int .u64 0, .int .u64 0, .int .u64 0, .int .u64 0, .int .u64 0, .int .u64 0, .int .u64 0, .int .u64 0, .int .u64 0, .int .u64 0, .int .u64 0, .int .u64 0, .int .u64 0, .int .u64 0, .int .u64 0, .int .u64 0, .int .u64 0, .int .u64 0, .int .u64 0, .int .u64 0, .int .u64 0, .int .u64 0, .int .u64 0] := by rw [← hv9]; exact Blk.new (by simp)
  obtain ⟨bf, hb9⟩ : ∃ k, w.heap.size = k := ⟨_, rfl⟩
  rw [hb9] at X_f
  rw [hb9] at X_x
  rw [hb9] at X_t
  have g_bf : w.heap.size ≤ bf := by rw [← hb9]; exact BW.out.size
  replace BW := hid (BW.out.trans (hG9.mono BW.out.size))
  clear hG9
  rw [hv9]
  try rw [hb9]
  clear hv9 hb9
  go_loopw [9] (fun i wr => ∃ (k : Nat) (zs : List Value), k ≤ 15 ∧ i = .int .i64 (k : Int) ∧ Blk wr bf 31 [.int .i64 id, .int .u64 (limb m 0 : Int), .int .u64 (limb m 1 : Int), .int .u64 (limb m 2 : Int), .int .u64 (limb m 3 : Int), .int .u64 (inv : Int), .int .u64 (limb (frm m 1) 0 : Int), .int .u64 (limb (frm m 1) 1 : Int), .int .u64 (limb (frm m 1) 2 : Int), .int .u64 (limb (frm m 1) 3 : Int), .int .u64 (limb s 0 : Int), .int .u64 (limb s 1 : Int), .int .u64 (limb s 2 : Int), .int .u64 (limb s 3 : Int)] ∧ Blk wr (bf + 1) 29 [.int .u64 (limb (frm m x) 0 : Int), .int .u64 (limb (frm m x) 1 : Int), .int .u64 (limb (frm m x) 2 : Int), .int .u64 (limb (frm m x) 3 : Int)] ∧ Blk wr (bf + 1 + 1) 192 zs ∧ FRow 16 (fun t => if t ≤ k then frm m (powm m x t) else 0) zs ∧ Below w.heap.size w wr) (fun i _ => 15 - (intOf i).toNat)
  case atStart => exact ⟨0, _, Nat.zero_le _, rfl, X_f, X_x, X_t, tbl_start (by omega), BW.out⟩
  case round =>
    obtain ⟨k, zs, hk, rfl, hf, hx2, ht, hrow, hB⟩ := hrel
    clear X_f X_x X_t BW
    have HROW := hid hrow
    have HB := hid hB
    have zt := ht.lt
    have zf := hf.lt
    have zx := hx2.lt
    clear hrow hB
    by_cases hlt : k < 15
    · skip
      have hfv : ∀ j, j < 4 → zs[k * 4 + j]? = some (.int .u64 (limb (frm m (powm m x k)) j : Int)) := fun j hj => by have := HROW.out.2 k j (by omega) hj; simpa using this
      have t0 := ht.cell (hfv 0 (by decide))
      have t1 := ht.cell (hfv 1 (by decide))
      have t2 := ht.cell (hfv 2 (by decide))
      have t3 := ht.cell (hfv 3 (by decide))
      clear hfv
      have hpl := frm_lt (m := m) (powm m x k) (by omega)
      have M := hid (mmul_any id m inv (frm m 1) s (frm m (powm m x k)) (frm m x) HFF.out (by omega) (by omega) (Nat.mul_lt_mul_of_lt_of_lt (by omega) hxl))
      rw [frm_mulm hF4, powm_step hx] at M
      obtain ⟨r, hr⟩ : ∃ r, frm m (powm m x (k + 1)) = r := ⟨_, rfl⟩
      rw [hr] at M
      have HR := hid hr
      obtain ⟨p, hp⟩ : ∃ p, frm m (powm m x k) = p := ⟨_, rfl⟩
      rw [hp] at M t0 t1 t2 t3 hpl
      clear hr hp
      have f0 := hf.cell (i := 0) rfl
      have f1 := hf.cell (i := 1) rfl
      have f2 := hf.cell (i := 2) rfl
      have f3 := hf.cell (i := 3) rfl
      have f4 := hf.cell (i := 4) rfl
      have f5 := hf.cell (i := 5) rfl
      have f6 := hf.cell (i := 6) rfl
      have f7 := hf.cell (i := 7) rfl
      have f8 := hf.cell (i := 8) rfl
      have f9 := hf.cell (i := 9) rfl
      have f10 := hf.cell (i := 10) rfl
      have f11 := hf.cell (i := 11) rfl
      have f12 := hf.cell (i := 12) rfl
      have f13 := hf.cell (i := 13) rfl
      have x0 := hx2.cell (i := 0) rfl
      have x1 := hx2.cell (i := 1) rfl
      have x2 := hx2.cell (i := 2) rfl
      have x3 := hx2.cell (i := 3) rfl
      obtain ⟨xx, hxx⟩ : ∃ z, frm m x = z := ⟨_, rfl⟩
      rw [hxx] at M x0 x1 x2 x3
      obtain ⟨oo, hoo⟩ : ∃ z, frm m 1 = z := ⟨_, rfl⟩
      rw [hoo] at M f6 f7 f8 f9
      have hki : (k : Int) < 16 := by omega
      have hki0 : (0 : Int) ≤ (k : Int) := by omega
      go_wp2_with fail
      refine wp_region_soft (C := fun W' => Below wr.heap.size wr W') 9 (by kernel_rfl) (by kernel_rfl) ((Below.refl _ _).drew) ?_
      simp only [List.take_succ_cons, List.take_zero, List.drop_succ_cons, List.drop_zero]
      refine wpQuiet_step (fun K hK => ?_)
      rw [if_pos (by rfl)]
      refine ⟨.int .i64 (k : Int), fun W' hW => ?_, hK _ ?_⟩
      · go_simp
      clear hK K
      simp only [Act.put, List.setIfInBounds_toArray, List.set_cons_zero, List.set_cons_succ]
      refine wpQuiet_step (fun K hK => ?_)
      rw [if_pos (by rfl)]
      refine ⟨.int .i64 ((k : Int) + 1), fun W' hW => ?_, hK _ ?_⟩
      · go_simp
        rw [IntKind.wrap_i64]; omega
      clear hK K
      simp only [Act.put, List.setIfInBounds_toArray, List.set_cons_zero, List.set_cons_succ]
      refine wpQuiet_step (fun K hK => ?_)
      rw [if_pos (by rfl)]
      refine ⟨fld id m inv oo s, fun W' hW => ?_, hK _ ?_⟩
      · have e0 := (hW.cell (p := ⟨bf, 0, none⟩) zf).trans f0
        have e1 := (hW.cell (p := ⟨bf, 1, none⟩) zf).trans f1
        have e2 := (hW.cell (p := ⟨bf, 2, none⟩) zf).trans f2
        have e3 := (hW.cell (p := ⟨bf, 3, none⟩) zf).trans f3
        have e4 := (hW.cell (p := ⟨bf, 4, none⟩) zf).trans f4
        have e5 := (hW.cell (p := ⟨bf, 5, none⟩) zf).trans f5
        have e6 := (hW.cell (p := ⟨bf, 6, none⟩) zf).trans f6
        have e7 := (hW.cell (p := ⟨bf, 7, none⟩) zf).trans f7
        have e8 := (hW.cell (p := ⟨bf, 8, none⟩) zf).trans f8
        have e9 := (hW.cell (p := ⟨bf, 9, none⟩) zf).trans f9
        have e10 := (hW.cell (p := ⟨bf, 10, none⟩) zf).trans f10
        have e11 := (hW.cell (p := ⟨bf, 11, none⟩) zf).trans f11
        have e12 := (hW.cell (p := ⟨bf, 12, none⟩) zf).trans f12
        have e13 := (hW.cell (p := ⟨bf, 13, none⟩) zf).trans f13
        go_simp
      clear hK K
      simp only [Act.put, List.setIfInBounds_toArray, List.set_cons_zero, List.set_cons_succ]
      refine wpQuiet_step (fun K hK => ?_)
      rw [if_pos (by rfl)]
      refine ⟨.int .i64 (k : Int), fun W' hW => ?_, hK _ ?_⟩
      · go_simp
      clear hK K
      simp only [Act.put, List.setIfInBounds_toArray, List.set_cons_zero, List.set_cons_succ]
      refine wpQuiet_step (fun K hK => ?_)
      rw [if_pos (by rfl)]
      refine ⟨.pointer (some ⟨bf + 1 + 1, k * 4, none⟩), fun W' hW => ?_, hK _ ?_⟩
      · go_simp
      clear hK K
      simp only [Act.put, List.setIfInBounds_toArray, List.set_cons_zero, List.set_cons_succ]
      refine wpQuiet_step (fun K hK => ?_)
      rw [if_pos (by rfl)]
      refine ⟨vec p, fun W' hW => ?_, hK _ ?_⟩
      · have e0 := (hW.cell (p := ⟨bf + 1 + 1, k * 4, none⟩) zt).trans t0
        have e1 := (hW.cell (p := ⟨bf + 1 + 1, k * 4 + 1, none⟩) zt).trans t1
        have e2 := (hW.cell (p := ⟨bf + 1 + 1, k * 4 + 2, none⟩) zt).trans t2
        have e3 := (hW.cell (p := ⟨bf + 1 + 1, k * 4 + 3, none⟩) zt).trans t3
        go_simp
      clear hK K
      simp only [Act.put, List.setIfInBounds_toArray, List.set_cons_zero, List.set_cons_succ]
      refine wpQuiet_step (fun K hK => ?_)
      rw [if_pos (by rfl)]
      refine ⟨vec xx, fun W' hW => ?_, hK _ ?_⟩
      · have e0 := (hW.cell (p := ⟨bf + 1, 0, none⟩) zx).trans x0
        have e1 := (hW.cell (p := ⟨bf + 1, 1, none⟩) zx).trans x1
        have e2 := (hW.cell (p := ⟨bf + 1, 2, none⟩) zx).trans x2
        have e3 := (hW.cell (p := ⟨bf + 1, 3, none⟩) zx).trans x3
        go_simp
      clear hK K
      simp only [Act.put, List.setIfInBounds_toArray, List.set_cons_zero, List.set_cons_succ]
      refine wpQuiet_step (fun K hK => ?_)
      rw [if_pos (by rfl)]
      refine ⟨vec r, fun W' hW => ?_, hK _ ?_⟩
      · go_simp
        refine (M.out _).mono ?_
        rintro e w' ⟨rfl, b⟩
        exact ⟨rfl, hW.trans (b.mono hW.size)⟩
      clear hK K
      simp only [Act.put, List.setIfInBounds_toArray, List.set_cons_zero, List.set_cons_succ]
      refine wpQuiet_step (fun K hK => ?_)
      rw [if_pos (by rfl)]
      refine ⟨.pointer (some ⟨bf + 1 + 1, (k + 1) * 4, none⟩), fun W' hW => ?_, hK _ ?_⟩
      · go_simp
        rw [if_pos ⟨by omega, by omega⟩]
        exact ⟨rfl, rfl⟩
      clear hK K
      simp only [Act.put, List.setIfInBounds_toArray, List.set_cons_zero, List.set_cons_succ]
      refine wpQuiet_nil ?_
      intro W3 hW3
      have kf := hf.below hW3 zf
      have kx := hx2.below hW3 zx
      have kt := ht.below hW3 zt
      have kb := HB.out.trans (hW3.mono HB.out.size)
      have hzl : zs.length = 64 := HROW.out.1
      obtain ⟨q0, hq0⟩ : ∃ q, zs[(k + 1) * 4]? = some q := ⟨_, List.getElem?_eq_getElem (by omega)⟩
      have u0 := kt.cell hq0
      clear hq0
      have v0 := kt.frozen ((k + 1) * 4)
      obtain ⟨q1, hq1⟩ : ∃ q, zs[(k + 1) * 4 + 1]? = some q := ⟨_, List.getElem?_eq_getElem (by omega)⟩
      have u1 := kt.cell hq1
      clear hq1
      have v1 := kt.frozen ((k + 1) * 4 + 1)
      obtain ⟨q2, hq2⟩ : ∃ q, zs[(k + 1) * 4 + 2]? = some q := ⟨_, List.getElem?_eq_getElem (by omega)⟩
      have u2 := kt.cell hq2
      clear hq2
      have v2 := kt.frozen ((k + 1) * 4 + 2)
      obtain ⟨q3, hq3⟩ : ∃ q, zs[(k + 1) * 4 + 3]? = some q := ⟨_, List.getElem?_eq_getElem (by omega)⟩
      have u3 := kt.cell hq3
      clear hq3
      have v3 := kt.frozen ((k + 1) * 4 + 3)
      have kz := kt.lt
      clear t0 t1 t2 t3 f0 f1 f2 f3 f4 f5 f6 f7 f8 f9 f10 f11 f12 f13 x0 x1 x2 x3
      have HKF := hid kf
      have HKX := hid kx
      have HKT := hid kt
      have HKB := hid kb
      clear kf kx kt kb hf hx2 ht hzl
      go_wp2
      have hwb : w.heap.size ≤ bf + 1 + 1 := by omega
      go_roundw
      case rel => exact ⟨k + 1, _, by omega, by go_num, ((((HKF.out.other ⟨bf + 1 + 1, (k + 1) * 4, none⟩ (.int .u64 (limb r 0 : Int)) (by dsimp only; omega)).other ⟨bf + 1 + 1, (k + 1) * 4 + 1, none⟩ (.int .u64 (limb r 1 : Int)) (by dsimp only; omega)).other ⟨bf + 1 + 1, (k + 1) * 4 + 2, none⟩ (.int .u64 (limb r 2 : Int)) (by dsimp only; omega)).other ⟨bf + 1 + 1, (k + 1) * 4 + 3, none⟩ (.int .u64 (limb r 3 : Int)) (by dsimp only; omega)), ((((HKX.out.other ⟨bf + 1 + 1, (k + 1) * 4, none⟩ (.int .u64 (limb r 0 : Int)) (by dsimp only; omega)).other ⟨bf + 1 + 1, (k + 1) * 4 + 1, none⟩ (.int .u64 (limb r 1 : Int)) (by dsimp only; omega)).other ⟨bf + 1 + 1, (k + 1) * 4 + 2, none⟩ (.int .u64 (limb r 2 : Int)) (by dsimp only; omega)).other ⟨bf + 1 + 1, (k + 1) * 4 + 3, none⟩ (.int .u64 (limb r 3 : Int)) (by dsimp only; omega)), ((((HKT.out.set ((k + 1) * 4) (.int .u64 (limb r 0 : Int))).set ((k + 1) * 4 + 1) (.int .u64 (limb r 1 : Int))).set ((k + 1) * 4 + 2) (.int .u64 (limb r 2 : Int))).set ((k + 1) * 4 + 3) (.int .u64 (limb r 3 : Int))), tbl_step HROW.out (by omega) HR.out, ((((HKB.out.setCell (p := ⟨bf + 1 + 1, (k + 1) * 4, none⟩) (by dsimp only; omega) (.int .u64 (limb r 0 : Int))).setCell (p := ⟨bf + 1 + 1, (k + 1) * 4 + 1, none⟩) (by dsimp only; omega) (.int .u64 (limb r 1 : Int))).setCell (p := ⟨bf + 1 + 1, (k + 1) * 4 + 2, none⟩) (by dsimp only; omega) (.int .u64 (limb r 2 : Int))).setCell (p := ⟨bf + 1 + 1, (k + 1) * 4 + 3, none⟩) (by dsimp only; omega) (.int .u64 (limb r 3 : Int)))⟩
      case measure => simp [intOf]; omega
    · skip
      obtain rfl : k = 15 := by omega
      have hzs := tbl_done HROW.out
      subst hzs
      have HT := hid ht
      clear hf hx2
      have HRG : Hid (wr.rangeAt (bf + 1 + 1) 0 (nums (tbs m x))) := hid (fun j v h => by rw [Nat.zero_add]; exact HT.out.cell h)
      have HTH : Hid (wr.there (bf + 1 + 1) 0 (nums (tbs m x)).toArray.size) := hid (fun j hj => ⟨by
        have hj' : j < (nums (tbs m x)).length := by simpa using hj
        rw [HRG.out j _ (List.getElem?_eq_getElem hj')]; rfl, HT.out.frozen _⟩)
      have HSZ : Hid ((Tryd.prog.info? 192).map (·.size) = some (nums (tbs m x)).length) := hid (by rw [tbs_nums]; exact info_tbl)
      have HOC : Hid ((nums (tbs m x)).toArray.all (·.oneCell') = true) := hid (all_oneCell_toArray (nums_cells _))
      have HSZ2 : Hid ((Tryd.prog.info? 192).map (·.size) = some (nums (tbs m x)).toArray.size) := hid (by rw [List.size_toArray]; exact HSZ.out)
      have HLV := hid (run_loadVar_mid (P := Tryd.prog) (wr.setCells (bf + 1 + 1) 0 (nums (tbs m x)).toArray.toList) (bf + 1 + 1) 0 192 (nums (tbs m x)) _ (World.rangeAt_setCells_same wr (bf + 1 + 1) 0 _ (by rw [← Array.length_toList] at HTH; exact HTH.out)) Tryd.underlying192 rfl HSZ.out)
      obtain ⟨L, hLL⟩ : ∃ L, nums (tbs m x) = L := ⟨_, rfl⟩
      rw [hLL] at HRG HTH HSZ HOC HSZ2 HLV
      have HLL := hid hLL
      clear hLL HT HROW
      go_wp2_with (first
        | (refine wpList_load_mid rfl 192 _ rfl (bf + 1 + 1) 0 rfl L _ HRG.out Tryd.underlying192 rfl HSZ.out ?_)
        | (refine wpList_store_mid rfl 192 _ _ rfl (bf + 1 + 1) 0 L.toArray rfl rfl HTH.out HSZ2.out HOC.out ?_))
      have hlv := HLV.out
      have BF := below_setCells L 0 HB.out (b := bf + 1 + 1) (by omega)
      refine bodyPost_ret (v := .agg L.toArray) (by rw [results_cell Tryd.results149]; exact hlv) rfl ⟨by rw [HLL.out], BF⟩
end Go.Proofs.YtogenbggjodcnaaDoor
/-
  The entry of a table with an index.
-/
namespace Go.Proofs.YtogenbggjodcnaaDoor
open Go.RowKit

theorem nums_take {l : List Nat} {k z : Nat} (h : l[k]? = some z) : List.take 4 (List.drop (k * 4) (nums l)) = limbs z := by
  refine List.ext_getElem? fun i => ?_
  by_cases hi : i < 4
  · rw [List.getElem?_take_of_lt hi, List.getElem?_drop, nums_get l k z h i hi, limbs_get z hi]
  · rw [List.getElem?_eq_none (by simp; omega), List.getElem?_eq_none (by simp; omega)]
theorem run_index_tbl {l : List Nat} {k z : Nat} (hk : k < 16) (hz : l[k]? = some z) (w : World) :
    (Instr.index 192 (.agg (nums l).toArray) (.int .i64 (k : Int))).run Tryd.prog w = .ok (vec z) w := by
  have h1 : (0 : Int) ≤ (k : Int) ∧ (k : Int) < ((16 : Nat) : Int) := by omega
  simp [Instr.index, run_underlying Tryd.underlying192, asIntOf, h1, part, go_sem]
  rw [if_pos hk, nums_take hz]
theorem run_conv_u64 (k : Nat) (hk : k < 16) : IntKind.u64.wrap (k : Int) = (k : Int) := by rw [IntKind.wrap_u64]; omega
set_option maxRecDepth 100000 in
set_option maxHeartbeats 2000000 in
theorem scan_any (l : List Nat) (i : Nat) (hl : l.length = 16) (hi : i < 16) (w : World) :
    Calls Tryd.prog 151 #[.agg (nums l).toArray, .pointer none, .int .u64 (i : Int)] w (Ret (vec (l.getD i 0)) w) := by
  have BW := hid (Below.refl w.heap.size w)
  have HIX := hid (fun (k z : Nat) (hk : k < 16) (hz : l[k]? = some z) (w : World) => run_index_tbl hk hz w)
  have HLN := hid (show (nums l).length = 64 by rw [nums_len, hl])
  obtain ⟨L, hL⟩ : ∃ L, nums l = L := ⟨_, rfl⟩
  rw [hL] at HIX HLN ⊢
  clear hL
  have HSZ : Hid ((Tryd.prog.info? 192).map (·.size) = some L.length) := hid (by rw [HLN.out]; exact info_tbl)
  have HEL := hid hl
  clear hl
  go_enter Tryd.func151, Tryd.ntmps151
  have HRG : Hid (((w.alloc (.cells L.toArray 192)).alloc (.cells #[.int .u64 0, .int .u64 0, .int .u64 0, .int .u64 0] 29)).rangeAt w.heap.size 0 L) := hid (fun j v h => by rw [Nat.zero_add]; exact Blk.cell (b := w.heap.size) (t := 192) (Blk.alloc (Blk.new rfl) _) h)
  go_wp2_with (refine wpList_load_mid rfl 192 _ rfl w.heap.size 0 rfl L _ HRG.out Tryd.underlying192 rfl HSZ.out ?_)
  obtain ⟨v1, hv9⟩ : ∃ v, (w.alloc (.cells L.toArray 192)).alloc (.cells #[.int .u64 0, .int .u64 0, .int .u64 0, .int .u64 0] 29) = v := ⟨_, rfl⟩
  have B1 : Below w.heap.size w v1 := by rw [← hv9]; go_grown
  have X_r : Blk v1 (w.heap.size + 1) 29 [.int .u64 0, .int .u64 0, .int .u64 0, .int .u64 0] := by rw [← hv9]; exact Blk.new (by simp)
  rw [hv9]
  clear hv9 HRG
  obtain ⟨b, hb⟩ : ∃ b, w.heap.size + 1 = b := ⟨_, rfl⟩
  rw [hb] at X_r ⊢
  have hwb : w.heap.size ≤ b := by omega
  obtain ⟨tc, htc⟩ : ∃ tc, L.toArray = tc := ⟨_, rfl⟩
  rw [htc] at HIX ⊢
  clear htc HSZ HLN hb
  go_loopw [10] (fun q wr => ∃ k : Nat, k ≤ 16 ∧ q = .int .i64 (k : Int) ∧ Blk wr b 29 (limbs (if i < k then l.getD i 0 else 0)) ∧ Below w.heap.size w wr) (fun q _ => 16 - (intOf q).toNat)
  case atStart => exact ⟨0, Nat.zero_le _, rfl, by rw [if_neg (by omega), limbs_0]; exact X_r, B1⟩
  case round =>
    obtain ⟨k, hk, rfl, X, hB⟩ := hrel
    clear X_r B1
    by_cases hlt : k < 16
    · obtain ⟨z, hz⟩ : ∃ z, l[k]? = some z := ⟨l[k]'(by rw [HEL.out]; omega), List.getElem?_eq_getElem _⟩
      have hix := HIX.out k z hlt hz
      have hcv := run_conv_u64 k hlt
      have HGD : Hid (l.getD k 0 = z) := hid (getD_some hz)
      obtain ⟨p, hp⟩ : ∃ p, (if i < k then l.getD i 0 else 0) = p := ⟨_, rfl⟩
      rw [hp] at X
      have HP := hid hp
      have HE := hid (fun W : World => equal_any i k (by unfold B64; omega) (by unfold B64; omega) W)
      have HC := hid (fun W : World => mtake_any (zmk (i ^^^ k)) z p (zmk_lt _) W)
      obtain ⟨r, hr⟩ : ∃ r, pick (zmk (i ^^^ k)) z p = r := ⟨_, rfl⟩
      rw [hr] at HC
      have HR : Hid (r = if i < k + 1 then l.getD i 0 else 0) := hid (by
        rw [← hr, pick_zmk, ← hp]
        by_cases e : i = k
        · rw [if_pos ((xor_zero i k).2 e), if_pos (by omega), e, HGD.out]
        · rw [if_neg (fun h => e ((xor_zero i k).1 h))]
          by_cases l2 : i < k
          · rw [if_pos l2, if_pos (by omega)]
          · rw [if_neg l2, if_neg (by omega)])
      obtain ⟨c, hc⟩ : ∃ c, zmk (i ^^^ k) = c := ⟨_, rfl⟩
      rw [hc] at HE HC
      have hki : (k : Int) < 16 := by omega
      have hki0 : (0 : Int) ≤ (k : Int) := by omega
      have zb := X.lt
      have HB := hid hB
      clear hz hp hr hc hB HGD
      go_wp2_with (go_at_call 64; refine (note_nil _ _ _ _).mono ?_; rintro e w' ⟨rfl, rfl⟩)
      obtain ⟨v2, hv9⟩ : ∃ v, wr.alloc (.cells #[.int .u64 (limb z 0 : Int), .int .u64 (limb z 1 : Int), .int .u64 (limb z 2 : Int), .int .u64 (limb z 3 : Int)] 29) = v := ⟨_, rfl⟩
      have X_z : Blk v2 wr.heap.size 29 [.int .u64 (limb z 0 : Int), .int .u64 (limb z 1 : Int), .int .u64 (limb z 2 : Int), .int .u64 (limb z 3 : Int)] := by rw [← hv9]; exact Blk.new rfl
      have G2 : Below wr.heap.size wr v2 := by rw [← hv9]; go_grown
      have X2 := X.keep G2
      have HB2 := hid (HB.out.trans (G2.mono HB.out.size))
      obtain ⟨bz, hbz⟩ : ∃ b, wr.heap.size = b := ⟨_, rfl⟩
      rw [hbz] at X_z zb
      rw [hv9, hbz]
      clear hv9 hbz G2 X HB
      have zp := X2.lt
      have zz := X_z.lt
      have p0 := X2.cell (i := 0) rfl
      have z0 := X_z.cell (i := 0) rfl
      have p1 := X2.cell (i := 1) rfl
      have z1 := X_z.cell (i := 1) rfl
      have p2 := X2.cell (i := 2) rfl
      have z2 := X_z.cell (i := 2) rfl
      have p3 := X2.cell (i := 3) rfl
      have z3 := X_z.cell (i := 3) rfl
      refine wp_region_soft (C := fun W' => Below v2.heap.size v2 W') 7 (by kernel_rfl) (by kernel_rfl) ((Below.refl _ _).drew) ?_
      simp only [List.take_succ_cons, List.take_zero, List.drop_succ_cons, List.drop_zero]
      refine wpQuiet_step (fun K hK => ?_)
      rw [if_pos (by rfl)]
      refine ⟨.int .u64 (i : Int), fun W' hW => ?_, hK _ ?_⟩
      · go_simp
      clear hK K
      simp only [Act.put, List.setIfInBounds_toArray, List.set_cons_zero, List.set_cons_succ]
      refine wpQuiet_step (fun K hK => ?_)
      rw [if_pos (by rfl)]
      refine ⟨.int .i64 (k : Int), fun W' hW => ?_, hK _ ?_⟩
      · go_simp
      clear hK K
      simp only [Act.put, List.setIfInBounds_toArray, List.set_cons_zero, List.set_cons_succ]
      refine wpQuiet_step (fun K hK => ?_)
      rw [if_pos (by rfl)]
      refine ⟨.int .u64 (k : Int), fun W' hW => ?_, hK _ ?_⟩
      · go_simp
      clear hK K
      simp only [Act.put, List.setIfInBounds_toArray, List.set_cons_zero, List.set_cons_succ]
      refine wpQuiet_step (fun K hK => ?_)
      rw [if_pos (by rfl)]
      refine ⟨.int .u64 (c : Int), fun W' hW => ?_, hK _ ?_⟩
      · go_simp
        refine (HE.out _).mono ?_
        rintro e w' ⟨rfl, b⟩
        exact ⟨rfl, hW.trans (b.mono hW.size)⟩
      clear hK K
      simp only [Act.put, List.setIfInBounds_toArray, List.set_cons_zero, List.set_cons_succ]
      refine wpQuiet_step (fun K hK => ?_)
      rw [if_pos (by rfl)]
      refine ⟨vec z, fun W' hW => ?_, hK _ ?_⟩
      · have e0 := (hW.cell (p := ⟨bz, 0, none⟩) zz).trans z0
        have e1 := (hW.cell (p := ⟨bz, 1, none⟩) zz).trans z1
        have e2 := (hW.cell (p := ⟨bz, 2, none⟩) zz).trans z2
        have e3 := (hW.cell (p := ⟨bz, 3, none⟩) zz).trans z3
        go_simp
      clear hK K
      simp only [Act.put, List.setIfInBounds_toArray, List.set_cons_zero, List.set_cons_succ]
      refine wpQuiet_step (fun K hK => ?_)
      rw [if_pos (by rfl)]
      refine ⟨vec p, fun W' hW => ?_, hK _ ?_⟩
      · have e0 := (hW.cell (p := ⟨b, 0, none⟩) zp).trans p0
        have e1 := (hW.cell (p := ⟨b, 1, none⟩) zp).trans p1
        have e2 := (hW.cell (p := ⟨b, 2, none⟩) zp).trans p2
        have e3 := (hW.cell (p := ⟨b, 3, none⟩) zp).trans p3
        go_simp
      clear hK K
      simp only [Act.put, List.setIfInBounds_toArray, List.set_cons_zero, List.set_cons_succ]
      refine wpQuiet_step (fun K hK => ?_)
      rw [if_pos (by rfl)]
      refine ⟨vec r, fun W' hW => ?_, hK _ ?_⟩
      · go_simp
        refine (HC.out _).mono ?_
        rintro e w' ⟨rfl, b⟩
        exact ⟨rfl, hW.trans (b.mono hW.size)⟩
      clear hK K
      simp only [Act.put, List.setIfInBounds_toArray, List.set_cons_zero, List.set_cons_succ]
      refine wpQuiet_nil ?_
      intro W3 hW3
      have X3 := X2.below hW3 zp
      have HB3 := hid (HB2.out.trans (hW3.mono HB2.out.size))
      have z3 := X3.lt
      have u0 := X3.cell (i := 0) rfl
      have f0 := X3.frozen 0
      have u1 := X3.cell (i := 1) rfl
      have f1 := X3.frozen 1
      have u2 := X3.cell (i := 2) rfl
      have f2 := X3.frozen 2
      have u3 := X3.cell (i := 3) rfl
      have f3 := X3.frozen 3
      clear p0 p1 p2 p3 z0 z1 z2 X2 X_z hix hcv
      go_wp2
      go_roundw
      case rel => exact ⟨k + 1, by omega, by go_num, by rw [← HR.out]; exact X3.set4 (.int .u64 (limb r 0 : Int)) (.int .u64 (limb r 1 : Int)) (.int .u64 (limb r 2 : Int)) (.int .u64 (limb r 3 : Int)), below_set4 HB3.out hwb (.int .u64 (limb r 0 : Int)) (.int .u64 (limb r 1 : Int)) (.int .u64 (limb r 2 : Int)) (.int .u64 (limb r 3 : Int))⟩
      case measure => simp [intOf]; omega
    · obtain rfl : k = 16 := by omega
      rw [if_pos hi] at X
      obtain ⟨r, hr⟩ : ∃ r, l.getD i 0 = r := ⟨_, rfl⟩
      rw [hr] at X
      have HR := hid hr
      have zb := X.lt
      have HB := hid hB
      clear hr hB
      have u0 := X.cell (i := 0) rfl
      have f0 := X.frozen 0
      have u1 := X.cell (i := 1) rfl
      have f1 := X.frozen 1
      have u2 := X.cell (i := 2) rfl
      have f2 := X.frozen 2
      have u3 := X.cell (i := 3) rfl
      have f3 := X.frozen 3
      go_wp2
      refine bodyPost_ret (by simp only [results, Tryd.results151]; go_simp; try rfl) rfl ?_
      exact ⟨by rw [HR.out], below_set4 HB.out hwb (.int .u64 (limb r 0 : Int)) (.int .u64 (limb r 1 : Int)) (.int .u64 (limb r 2 : Int)) (.int .u64 (limb r 3 : Int))⟩
end Go.Proofs.YtogenbggjodcnaaDoor
/-
  Powers of elements.
-/
namespace Go.Proofs.YtogenbggjodcnaaDoor
open Go.RowKit

theorem range_keep {w w' : World} {b o : Nat} {cs : List Value} (h : w.rangeAt b o cs) (hb : Below w.heap.size w w') : w'.rangeAt b o cs := fun j v hj =>
  (hb.cell (p := ⟨b, o + j, none⟩) (World.block_lt_of_cell? _ _ (h j v hj))).trans (h j v hj)
theorem range_only {F : Nat → Prop} {w w' : World} {b o : Nat} {cs : List Value} (h : w.rangeAt b o cs) (ho : Only F w w') (hF : ¬ F b) : w'.rangeAt b o cs := fun j v hj => ho.cell hF (h j v hj)
theorem quiet_load_mid {P : Program} {C : World → Prop} {op : Oper} {a : Act} {w : World} (ty : TypeId) (x : Operand) (ho : op.op = .load ty x) (b o : Nat) (hx : a.eval x = .pointer (some ⟨b, o, none⟩)) (cs : List Value) (d : TypeDesc)
    (hc : w.rangeAt b o cs) (hu : P.underlying ty = some d) (hd : d.isRow = true) (hi : (P.info? ty).map (·.size) = some cs.length) : op.quietAt P a C w (.agg cs.toArray) := by
  unfold Oper.quietAt execOp
  simp only [ho, hx, Instr.loadAt, Instr.sureAddr, Sem.run_bind, Sem.run_pure, Result.andThen_ok, run_loadVar_mid w b o ty cs d hc hu hd hi]
  exact ⟨rfl, rfl⟩
theorem fresh_there (v : World) {L : List Value} (hL : L.length = 64) : (v.alloc (.cells #[.int .u64 0, .int .u64 0, .int .u64 0, .int .u64 0, .int .u64 0, .int .u64 0, .int .u64 0, .int .u64 0, .int .u64 0, .int .u64 0, .int .u64 0, .int .u64 0, .int .u64 0, .int .u64 0, .int .u64 0, .int .u64 0, .int .u64 0, .int .u64 0, .int .u64 0, .int .u64 0, .int .u64 0, .int .u64 0, .int .u64 0, .int .u64 0, .int .u64 0, .int .u64 0, .int .u64 0, .int .u64 0, .int .u64 0, .int .u64 0, .int .u64 0, .int .u64 0, .int .u64 0, .int .u64 0, .int .u64 0, .int .u64 0, .int .u64 0, .int .u64 0, .int .u64 0, .int .u64 0, .int .u64 0, .int .u64 0, .int .u64 0, .int .u64 0, .int .u64 0, .int .u64 0, .int .u64 0, .int .u64 0, .int .u64 0, .int .u64 0, .int .u64 0, .int .u64 0, .int .u64 0, .int .u64 0, .int .u64 0, .int .u64 0, .int .u64 0, .int .u64 0, .int .u64 0, .int .u64 0, .int .u64 0, .int .u64 0, .int .u64 0, .int .u64 0] 192)).there v.heap.size 0 L.toArray.size := fun j hj => ⟨by
  have hj' : j < 64 := by rw [List.size_toArray, hL] at hj; exact hj
  rw [Nat.zero_add, Blk.cell (xs := [.int .u64 0, .int .u64 0, .int .u64 0, .int .u64 0, .int .u64 0, .int .u64 0, .int .u64 0, .int .u64 0, .int .u64 0, .int .u64 0, .int .u64 0, .int .u64 0, .int .u64 0, .int .u64 0, .int .u64 0, .int .u64 0, .int .u64 0, .int .u64 0, .int .u64 0, .int .u64 0, .int .u64 0, .int .u64 0, .int .u64 0, .int .u64 0, .int .u64 0, .int .u64 0, .int .u64 0, .int .u64 0, .int .u64 0, .int .u64 0, .int .u64 0, .int .u64 0, .int .u64 0, .int .u64 0, .int .u64 0, .int .u64 0, .int .u64 0, .int .u64 0, .int .u64 0, .int .u64 0, .int .u64 0, .int .u64 0, .int .u64 0, .int .u64 0, .int .u64 0, .int .u64 0, .int .u64 0, .int .u64 0, .int .u64 0, .int .u64 0, .int .u64 0, .int .u64 0, .int .u64 0, .int .u64 0, .int .u64 0, .int .u64 0, .int .u64 0, .int .u64 0, .int .u64 0, .int .u64 0, .int .u64 0, .int .u64 0, .int .u64 0, .int .u64 0]) (Blk.new rfl) (List.getElem?_eq_getElem (by simpa using hj'))]; rfl, by rw [Nat.zero_add]; exact Blk.frozen (xs := [.int .u64 0, .int .u64 0, .int .u64 0, .int .u64 0, .int .u64 0, .int .u64 0, .int .u64 0, .int .u64 0, .int .u64 0, .int .u64 0, .int .u64 0, .int .u64 0, .int .u64 0, .int .u64 0, .int .u64 0, .int .u64 0, .int .u64 0, .int .u64 0, .int .u64 0, .int .u64 0, .int .u64 0, .int .u64 0, .int .u64 0, .int .u64 0, .int .u64 0, .int .u64 0, .int .u64 0, .int .u64 0, .int .u64 0, .int .u64 0, .int .u64 0, .int .u64 0, .int .u64 0, .int .u64 0, .int .u64 0, .int .u64 0, .int .u64 0, .int .u64 0, .int .u64 0, .int .u64 0, .int .u64 0, .int .u64 0, .int .u64 0, .int .u64 0, .int .u64 0, .int .u64 0, .int .u64 0, .int .u64 0, .int .u64 0, .int .u64 0, .int .u64 0, .int .u64 0, .int .u64 0, .int .u64 0, .int .u64 0, .int .u64 0, .int .u64 0, .int .u64 0, .int .u64 0, .int .u64 0, .int .u64 0, .int .u64 0, .int .u64 0, .int .u64 0]) (Blk.new rfl) _⟩
theorem fresh_table {v v' : World} {L : List Value} (hL : L.length = 64) (h : (v.alloc (.cells #[.int .u64 0, .int .u64 0, .int .u64 0, .int .u64 0, .int .u64 0, .int .u64 0, .int .u64 0, .int .u64 0, .int .u64 0, .int .u64 0, .int .u64 0, .int .u64 0, .int .u64 0, .int .u64 0, .int .u64 0, .int .u64 0, .int .u64 0, .int .u64 0, .int .u64 0, .int .u64 0, .int .u64 0, .int .u64 0, .int .u64 0, .int .u64 0, .int .u64 0, .int .u64 0, .int .u64 0, .int .u64 0, .int .u64 0, .int .u64 0, .int .u64 0, .int .u64 0, .int .u64 0, .int .u64 0, .int .u64 0, .int .u64 0, .int .u64 0, .int .u64 0, .int .u64 0, .int .u64 0, .int .u64 0, .int .u64 0, .int .u64 0, .int .u64 0, .int .u64 0, .int .u64 0, .int .u64 0, .int .u64 0, .int .u64 0, .int .u64 0, .int .u64 0, .int .u64 0, .int .u64 0, .int .u64 0, .int .u64 0, .int .u64 0, .int .u64 0, .int .u64 0, .int .u64 0, .int .u64 0, .int .u64 0, .int .u64 0, .int .u64 0, .int .u64 0] 192)).setCells v.heap.size 0 L.toArray.toList = v') : Below v.heap.size v v' ∧ v'.rangeAt v.heap.size 0 L ∧ v.heap.size < v'.heap.size := by
  have h1 : v'.rangeAt v.heap.size 0 L := by
    rw [← h]
    refine World.rangeAt_setCells_same _ _ 0 _ ?_
    have := fresh_there v hL
    rw [← Array.length_toList] at this; exact this
  exact ⟨by rw [← h]; exact below_setCells _ 0 ((Below.refl _ _).alloc (Nat.le_refl _) _) (Nat.le_refl _), h1, World.block_lt_of_cell? _ _ (h1 0 _ (List.getElem?_eq_getElem (by rw [hL]; decide)))⟩
/-- What a power holds on its way. -/
def PowSt (w wr : World) (bf bt bo : Nat) (fc xc ec L yc : List Value) : Prop :=
  Blk wr bf 31 fc ∧ Blk wr (bf + 1) 29 xc ∧ Blk wr (bf + 1 + 1) 28 ec ∧ Blk wr (bf + 1 + 1 + 1) 29 [.int .u64 0, .int .u64 0, .int .u64 0, .int .u64 0] ∧ wr.rangeAt bt 0 L ∧ Blk wr bo 29 yc ∧ Below w.heap.size w wr
theorem PowSt.keep {w wr w' : World} {bf bt bo : Nat} {fc xc ec L yc : List Value} (h : PowSt w wr bf bt bo fc xc ec L yc) (b : Below wr.heap.size wr w') : PowSt w w' bf bt bo fc xc ec L yc :=
  ⟨h.1.keep b, h.2.1.keep b, h.2.2.1.keep b, h.2.2.2.1.keep b, range_keep h.2.2.2.2.1 b, h.2.2.2.2.2.1.keep b, h.2.2.2.2.2.2.trans (b.mono h.2.2.2.2.2.2.size)⟩
theorem PowSt.set {w wr : World} {bf bt bo : Nat} {fc xc ec L : List Value} {p : Nat} (h : PowSt w wr bf bt bo fc xc ec L (limbs p)) (h1 : bf + 1 + 1 + 1 < bo) (h2 : bt < bo) (h3 : w.heap.size ≤ bf) (r : Nat) :
    PowSt w ((((wr.setCell ⟨bo, 0, none⟩ (.int .u64 (limb r 0 : Int))).setCell ⟨bo, 1, none⟩ (.int .u64 (limb r 1 : Int))).setCell ⟨bo, 2, none⟩ (.int .u64 (limb r 2 : Int))).setCell ⟨bo, 3, none⟩ (.int .u64 (limb r 3 : Int))) bf bt bo fc xc ec L (limbs r) :=
  ⟨h.1.other4 (c := bo) (by omega) _ _ _ _, h.2.1.other4 (c := bo) (by omega) _ _ _ _, h.2.2.1.other4 (c := bo) (by omega) _ _ _ _, h.2.2.2.1.other4 (c := bo) (by omega) _ _ _ _,
    range_only h.2.2.2.2.1 (only_set4 wr bo _ _ _ _) (by omega), h.2.2.2.2.2.1.set4 _ _ _ _, below_set4 h.2.2.2.2.2.2 (by omega) _ _ _ _⟩
set_option maxRecDepth 100000 in
set_option maxHeartbeats 2000000 in
theorem pow_any (id : Int) (m inv s x e : Nat) (hF : FieldOK m inv) (hx : x < m) (he : e < B256) (w : World) :
    Calls Tryd.prog 147 #[.pointer none, fld id m inv (frm m 1) s, vec (frm m x), vec e] w (Ret (vec (frm m (powm m x e))) w) := by
  have BW := hid (Below.refl w.heap.size w)
  have hF1 := hF.1
  have hF2 := hF.2.1
  have HF4 := hid hF.2.2.2.1
  have HFF := hid hF
  clear hF
  have HTB := hid (fun W : World => table_any id m inv s x HFF.out hx W)
  have HSC := hid (fun (i : Nat) (hi : i < 16) (W : World) => scan_any (tbs m x) i (tbs_len m x) hi W)
  have HLN := hid (tbs_nums m x)
  have HNC := hid (nums_cells (tbs m x))
  obtain ⟨L, hL⟩ : ∃ L, nums (tbs m x) = L := ⟨_, rfl⟩
  rw [hL] at HTB HSC HLN HNC
  clear hL
  have HSZ : Hid ((Tryd.prog.info? 192).map (·.size) = some L.length) := hid (by rw [HLN.out]; exact info_tbl)
  have HSZ2 : Hid ((Tryd.prog.info? 192).map (·.size) = some L.toArray.size) := hid (by rw [List.size_toArray]; exact HSZ.out)
  have HOC : Hid (L.toArray.all (·.oneCell') = true) := hid (all_oneCell_toArray HNC.out)
  obtain ⟨xx, hxx⟩ : ∃ z, frm m x = z := ⟨_, rfl⟩
  obtain ⟨oo, hoo⟩ : ∃ z, frm m 1 = z := ⟨_, rfl⟩
  have HOO := hid hoo
  rw [hxx, hoo] at HTB ⊢
  clear hxx hoo
  go_enter Tryd.func147, Tryd.ntmps147
  go_wp2_with fail
  obtain ⟨v1, hv9⟩ : ∃ v, ((((w.alloc (.cells #[.int .i64 id, .int .u64 (limb m 0 : Int), .int .u64 (limb m 1 : Int), .int .u64 (limb m 2 : Int), .int .u64 (limb m 3 : Int), .int .u64 (inv : Int), .int .u64 (limb oo 0 : Int), .int .u64 (limb oo 1 : Int), .int .u64 (limb oo 2 : Int), .int .u64 (limb oo 3 : Int), .int .u64 (limb s 0 : Int), .int .u64 (limb s 1 : Int), .int .u64 (limb s 2 : Int), .int .u64 (limb s 3 : Int)] 31)).alloc (.cells #[.int .u64 (limb xx 0 : Int), .int .u64 (limb xx 1 : Int), .int .u64 (limb xx 2 : Int), .int .u64 (limb xx 3 : Int)] 29)).alloc (.cells #[.int .u64 (limb e 0 : Int), .int .u64 (limb e 1 : Int), .int .u64 (limb e 2 : Int), .int .u64 (limb e 3 : Int)] 28)).alloc (.cells #[.int .u64 0, .int .u64 0, .int .u64 0, .int .u64 0] 29)) = v := ⟨_, rfl⟩
  have hG9 : Below w.heap.size w v1 := by rw [← hv9]; go_grown
  have X_f : Blk v1 (w.heap.size) 31 [.int .i64 id, .int .u64 (limb m 0 : Int), .int .u64 (limb m 1 : Int), .int .u64 (limb m 2 : Int), .int .u64 (limb m 3 : Int), .int .u64 (inv : Int), .int .u64 (limb oo 0 : Int), .int .u64 (limb oo 1 : Int), .int .u64 (limb oo 2 : Int), .int .u64 (limb oo 3 : Int), .int .u64 (limb s 0 : Int), .int .u64 (limb s 1 : Int), .int .u64 (limb s 2 : Int), .int .u64 (limb s 3 : Int)] := by rw [← hv9]; exact Blk.alloc (Blk.alloc (Blk.alloc (Blk.new rfl) _) _) _
  have X_x : Blk v1 (w.heap.size + 1) 29 [.int .u64 (limb xx 0 : Int), .int .u64 (limb xx 1 : Int), .int .u64 (limb xx 2 : Int), .int .u64 (limb xx 3 : Int)] := by rw [← hv9]; exact Blk.alloc (Blk.alloc (Blk.new (by simp)) _) _
  have X_e : Blk v1 (w.heap.size + 1 + 1) 28 [.int .u64 (limb e 0 : Int), .int .u64 (limb e 1 : Int), .int .u64 (limb e 2 : Int), .int .u64 (limb e 3 : Int)] := by rw [← hv9]; exact Blk.alloc (Blk.new (by simp)) _
  have X_r : Blk v1 (w.heap.size + 1 + 1 + 1) 29 [.int .u64 0, .int .u64 0, .int .u64 0, .int .u64 0] := by rw [← hv9]; exact Blk.new (by simp)
  obtain ⟨bf, hb9⟩ : ∃ k, w.heap.size = k := ⟨_, rfl⟩
  rw [hb9] at X_f
  rw [hb9] at X_x
  rw [hb9] at X_e
  rw [hb9] at X_r
  have g_bf : w.heap.size ≤ bf := by rw [← hb9]; exact BW.out.size
  replace BW := hid (BW.out.trans (hG9.mono BW.out.size))
  clear hG9
  rw [hv9]
  try rw [hb9]
  clear hv9 hb9
  refine (HTB.out _).mono ?_
  rintro e v2 ⟨rfl, b9⟩
  replace X_f := X_f.keep b9
  replace X_x := X_x.keep b9
  replace X_e := X_e.keep b9
  replace X_r := X_r.keep b9
  replace BW := hid (BW.out.trans (b9.mono BW.out.size))
  clear b9
  have z_f := X_f.lt
  have c_f0 := X_f.cell (i := 0) rfl
  have c_f1 := X_f.cell (i := 1) rfl
  have c_f2 := X_f.cell (i := 2) rfl
  have c_f3 := X_f.cell (i := 3) rfl
  have c_f4 := X_f.cell (i := 4) rfl
  have c_f5 := X_f.cell (i := 5) rfl
  have c_f6 := X_f.cell (i := 6) rfl
  have c_f7 := X_f.cell (i := 7) rfl
  have c_f8 := X_f.cell (i := 8) rfl
  have c_f9 := X_f.cell (i := 9) rfl
  have c_f10 := X_f.cell (i := 10) rfl
  have c_f11 := X_f.cell (i := 11) rfl
  have c_f12 := X_f.cell (i := 12) rfl
  have c_f13 := X_f.cell (i := 13) rfl
  have HTH := hid (fresh_there v2 HLN.out)
  clear z_f c_f0 c_f1 c_f2 c_f3 c_f4 c_f5 c_f6 c_f7 c_f8 c_f9 c_f10 c_f11 c_f12 c_f13
  go_wp2_with (refine wpList_store_mid rfl 192 _ _ rfl v2.heap.size 0 L.toArray rfl rfl HTH.out HSZ2.out HOC.out ?_; go_must (obtain ⟨v3, hv9⟩ : ∃ z, (v2.alloc (.cells #[.int .u64 0, .int .u64 0, .int .u64 0, .int .u64 0, .int .u64 0, .int .u64 0, .int .u64 0, .int .u64 0, .int .u64 0, .int .u64 0, .int .u64 0, .int .u64 0, .int .u64 0, .int .u64 0, .int .u64 0, .int .u64 0, .int .u64 0, .int .u64 0, .int .u64 0, .int .u64 0, .int .u64 0, .int .u64 0, .int .u64 0, .int .u64 0, .int .u64 0, .int .u64 0, .int .u64 0, .int .u64 0, .int .u64 0, .int .u64 0, .int .u64 0, .int .u64 0, .int .u64 0, .int .u64 0, .int .u64 0, .int .u64 0, .int .u64 0, .int .u64 0, .int .u64 0, .int .u64 0, .int .u64 0, .int .u64 0, .int .u64 0, .int .u64 0, .int .u64 0, .int .u64 0, .int .u64 0, .int .u64 0, .int .u64 0, .int .u64 0, .int .u64 0, .int .u64 0, .int .u64 0, .int .u64 0, .int .u64 0, .int .u64 0, .int .u64 0, .int .u64 0, .int .u64 0, .int .u64 0, .int .u64 0, .int .u64 0, .int .u64 0, .int .u64 0] 192)).setCells v2.heap.size 0 L.toArray.toList = z := ⟨_, rfl⟩; obtain ⟨G9, rt, zbt⟩ := fresh_table HLN.out hv9; have RT := hid rt; clear rt; obtain ⟨bt, hbt⟩ : ∃ k, v2.heap.size = k := ⟨_, rfl⟩; have qbt : bf + 1 + 1 + 1 < bt := (by rw [← hbt]; exact X_r.lt); rw [hbt] at RT zbt; replace X_f := X_f.keep G9; replace X_x := X_x.keep G9; replace X_e := X_e.keep G9; replace X_r := X_r.keep G9; replace BW := hid (BW.out.trans (G9.mono BW.out.size)); clear G9; have z_f := X_f.lt; have c_f0 := X_f.cell (i := 0) rfl; have c_f1 := X_f.cell (i := 1) rfl; have c_f2 := X_f.cell (i := 2) rfl; have c_f3 := X_f.cell (i := 3) rfl; have c_f4 := X_f.cell (i := 4) rfl; have c_f5 := X_f.cell (i := 5) rfl; have c_f6 := X_f.cell (i := 6) rfl; have c_f7 := X_f.cell (i := 7) rfl; have c_f8 := X_f.cell (i := 8) rfl; have c_f9 := X_f.cell (i := 9) rfl; have c_f10 := X_f.cell (i := 10) rfl; have c_f11 := X_f.cell (i := 11) rfl; have c_f12 := X_f.cell (i := 12) rfl; have c_f13 := X_f.cell (i := 13) rfl; rw [hv9, hbt]; clear hv9 hbt HTH))
  obtain ⟨v4, hv9⟩ : ∃ v, (v3.alloc (.cells #[.int .u64 (limb oo 0 : Int), .int .u64 (limb oo 1 : Int), .int .u64 (limb oo 2 : Int), .int .u64 (limb oo 3 : Int)] 29)) = v := ⟨_, rfl⟩
  have hG9 : Below v3.heap.size v3 v4 := by rw [← hv9]; go_grown
  have X_o : Blk v4 (v3.heap.size) 29 [.int .u64 (limb oo 0 : Int), .int .u64 (limb oo 1 : Int), .int .u64 (limb oo 2 : Int), .int .u64 (limb oo 3 : Int)] := by rw [← hv9]; exact Blk.new rfl
  obtain ⟨bo, hb9⟩ : ∃ k, v3.heap.size = k := ⟨_, rfl⟩
  rw [hb9] at X_o
  have g_bo : w.heap.size ≤ bo := by rw [← hb9]; exact BW.out.size
  have q_f_bo : bf < bo := by rw [← hb9]; exact X_f.lt
  have q_x_bo : bf + 1 < bo := by rw [← hb9]; exact X_x.lt
  have q_e_bo : bf + 1 + 1 < bo := by rw [← hb9]; exact X_e.lt
  have q_r_bo : bf + 1 + 1 + 1 < bo := by rw [← hb9]; exact X_r.lt
  have RTO := hid (range_keep RT.out hG9)
  have qbt9 : bt < bo := by rw [← hb9]; exact zbt
  clear RT zbt
  clear z_f c_f0 c_f1 c_f2 c_f3 c_f4 c_f5 c_f6 c_f7 c_f8 c_f9 c_f10 c_f11 c_f12 c_f13
  replace X_f := X_f.keep hG9
  replace X_x := X_x.keep hG9
  replace X_e := X_e.keep hG9
  replace X_r := X_r.keep hG9
  replace BW := hid (BW.out.trans (hG9.mono BW.out.size))
  clear hG9
  rw [hv9]
  try rw [hb9]
  clear hv9 hb9
  have P0 : PowSt w v4 bf bt bo [.int .i64 id, .int .u64 (limb m 0 : Int), .int .u64 (limb m 1 : Int), .int .u64 (limb m 2 : Int), .int .u64 (limb m 3 : Int), .int .u64 (inv : Int), .int .u64 (limb oo 0 : Int), .int .u64 (limb oo 1 : Int), .int .u64 (limb oo 2 : Int), .int .u64 (limb oo 3 : Int), .int .u64 (limb s 0 : Int), .int .u64 (limb s 1 : Int), .int .u64 (limb s 2 : Int), .int .u64 (limb s 3 : Int)] (limbs xx) (limbs e) L (limbs oo) := ⟨X_f, X_x, X_e, X_r, RTO.out, X_o, BW.out⟩
  have hbf : w.heap.size ≤ bf := g_bf
  clear X_f X_x X_e X_r X_o BW HTB HSZ2 HOC HNC
  go_loopw [11] (fun i wr => ∃ (k y : Nat), k ≤ 64 ∧ i = .int .i64 ((k : Int) - 1) ∧ y = frm m (powm m x (wtop e k)) ∧ PowSt w wr bf bt bo [.int .i64 id, .int .u64 (limb m 0 : Int), .int .u64 (limb m 1 : Int), .int .u64 (limb m 2 : Int), .int .u64 (limb m 3 : Int), .int .u64 (inv : Int), .int .u64 (limb oo 0 : Int), .int .u64 (limb oo 1 : Int), .int .u64 (limb oo 2 : Int), .int .u64 (limb oo 3 : Int), .int .u64 (limb s 0 : Int), .int .u64 (limb s 1 : Int), .int .u64 (limb s 2 : Int), .int .u64 (limb s 3 : Int)] (limbs xx) (limbs e) L (limbs y)) (fun i _ => (intOf i + 1).toNat)
  case atStart => exact ⟨64, oo, Nat.le_refl _, by go_num, by rw [wtop_64 he, powm_zero x (by omega)]; exact HOO.out.symm, P0⟩
  case round =>
    obtain ⟨k, y, hk, rfl, hy, P1⟩ := hrel
    clear P0
    have HY := hid hy
    have HP := hid P1
    obtain ⟨Yf, Yx, Ye, Yr, Yt, Yo, YB⟩ := P1
    clear hy Yt YB
    cases k with
    | zero =>
      have hyE : Hid (y = frm m (powm m x e)) := hid (by rw [HY.out, wtop_zero])
      have zo := Yo.lt
      have zr := Yr.lt
      clear Yf Yx Ye
      have o0 := Yo.cell (i := 0) rfl
      have o1 := Yo.cell (i := 1) rfl
      have o2 := Yo.cell (i := 2) rfl
      have o3 := Yo.cell (i := 3) rfl
      have r0 := Yr.cell (i := 0) rfl
      have rf0 := Yr.frozen 0
      have r1 := Yr.cell (i := 1) rfl
      have rf1 := Yr.frozen 1
      have r2 := Yr.cell (i := 2) rfl
      have rf2 := Yr.frozen 2
      have r3 := Yr.cell (i := 3) rfl
      have rf3 := Yr.frozen 3
      go_wp2
      refine bodyPost_ret (by simp only [results, Tryd.results147]; go_simp; try rfl) rfl ?_
      exact ⟨by rw [hyE.out], below_set4 HP.out.2.2.2.2.2.2 (by omega) (.int .u64 (limb y 0 : Int)) (.int .u64 (limb y 1 : Int)) (.int .u64 (limb y 2 : Int)) (.int .u64 (limb y 3 : Int))⟩
    | succ k =>
      rw [show ((k + 1 : Nat) : Int) - 1 = (k : Int) by omega]
      have hki : (k : Int) < 64 := by omega
      have hki0 : (0 : Int) ≤ (k : Int) := by omega
      clear Yf Yx Ye Yr Yo
      have HYL : Hid (y < m) := hid (by rw [HY.out]; exact frm_lt _ (by omega))
      go_wp2_with (go_at_call 64; refine (note_nil _ _ _ _).mono ?_; rintro e w' ⟨rfl, rfl⟩)
      have HY0 : Hid (y = frm m (powm m x (2 ^ 0 * wtop e (k + 1)))) := hid (by rw [HY.out, Nat.pow_zero, Nat.one_mul])
      go_loopw [24] (fun j wq => ∃ (t z : Nat), t ≤ 4 ∧ j = .int .i64 (t : Int) ∧ z = frm m (powm m x (2 ^ t * wtop e (k + 1))) ∧ PowSt w wq bf bt bo [.int .i64 id, .int .u64 (limb m 0 : Int), .int .u64 (limb m 1 : Int), .int .u64 (limb m 2 : Int), .int .u64 (limb m 3 : Int), .int .u64 (inv : Int), .int .u64 (limb oo 0 : Int), .int .u64 (limb oo 1 : Int), .int .u64 (limb oo 2 : Int), .int .u64 (limb oo 3 : Int), .int .u64 (limb s 0 : Int), .int .u64 (limb s 1 : Int), .int .u64 (limb s 2 : Int), .int .u64 (limb s 3 : Int)] (limbs xx) (limbs e) L (limbs z)) (fun j _ => 4 - (intOf j).toNat)
      case atStart => exact ⟨0, y, Nat.zero_le _, rfl, HY0.out, HP.out⟩
      case round =>
        obtain ⟨t, z, ht, rfl, hz, P2⟩ := hrel
        clear HY0 HYL HY HP
        have HZ := hid hz
        have HP := hid P2
        have HZL : Hid (z < m) := hid (by rw [HZ.out]; exact frm_lt _ (by omega))
        obtain ⟨Yf, Yx, Ye, Yr, Yt, Yo, YB⟩ := P2
        have HYT := hid Yt
        clear hz YB Yt Yr
        by_cases hlt : t < 4
        · have M := hid (fun W : World => msqr_any id m inv oo s z HFF.out HZL.out W)
          obtain ⟨r, hr⟩ : ∃ r, mont m z z = r := ⟨_, rfl⟩
          have HR : Hid (r = frm m (powm m x (2 ^ (t + 1) * wtop e (k + 1)))) := hid (by rw [← hr, HZ.out, frm_mulm HF4.out, pow_double, Nat.pow_succ, ← Nat.mul_assoc, Nat.mul_comm 2 (2 ^ t)])
          rw [hr] at M
          clear hr Yx Ye
          have zf := Yf.lt
          have zo := Yo.lt
          have f0 := Yf.cell (i := 0) rfl
          have f1 := Yf.cell (i := 1) rfl
          have f2 := Yf.cell (i := 2) rfl
          have f3 := Yf.cell (i := 3) rfl
          have f4 := Yf.cell (i := 4) rfl
          have f5 := Yf.cell (i := 5) rfl
          have f6 := Yf.cell (i := 6) rfl
          have f7 := Yf.cell (i := 7) rfl
          have f8 := Yf.cell (i := 8) rfl
          have f9 := Yf.cell (i := 9) rfl
          have f10 := Yf.cell (i := 10) rfl
          have f11 := Yf.cell (i := 11) rfl
          have f12 := Yf.cell (i := 12) rfl
          have f13 := Yf.cell (i := 13) rfl
          have o0 := Yo.cell (i := 0) rfl
          have o1 := Yo.cell (i := 1) rfl
          have o2 := Yo.cell (i := 2) rfl
          have o3 := Yo.cell (i := 3) rfl
          go_wp2_with (go_at_call 150; refine (M.out _).mono ?_; rintro e w1 ⟨rfl, b1⟩; have HP1 := hid (HP.out.keep b1); have Y1 := Yo.keep b1; clear b1; have z1 := Y1.lt; have u0 := Y1.cell (i := 0) rfl; have v0 := Y1.frozen 0; have u1 := Y1.cell (i := 1) rfl; have v1 := Y1.frozen 1; have u2 := Y1.cell (i := 2) rfl; have v2 := Y1.frozen 2; have u3 := Y1.cell (i := 3) rfl; have v3 := Y1.frozen 3)
          go_roundw
          case rel => exact ⟨t + 1, r, by omega, by go_num, HR.out, HP1.out.set (by omega) (by omega) hbf r⟩
          case measure => simp [intOf]; omega
        · obtain rfl : t = 4 := by omega
          have hnl := nib_lt e k
          have HB := hid (fun W : World => bits_any e k (by omega) W)
          have HSK := hid (fun W : World => HSC.out (nib e k) hnl W)
          rw [getD_some (tbs_get m x hnl)] at HSK
          have hql := frm_lt (m := m) (powm m x (nib e k)) (by omega)
          have M := hid (mmul_any id m inv oo s z (frm m (powm m x (nib e k))) HFF.out (by have := HZL.out; omega) (by omega) (Nat.mul_lt_mul_of_lt_of_lt (by have := HZL.out; omega) hql))
          obtain ⟨r, hr⟩ : ∃ r, mont m z (frm m (powm m x (nib e k))) = r := ⟨_, rfl⟩
          have HR : Hid (r = frm m (powm m x (wtop e k))) := hid (by rw [← hr, HZ.out, frm_mulm HF4.out, show 2 ^ 4 * wtop e (k + 1) = 16 * wtop e (k + 1) from rfl, pow_window])
          rw [hr] at M
          obtain ⟨q, hq⟩ : ∃ q, frm m (powm m x (nib e k)) = q := ⟨_, rfl⟩
          rw [hq] at M HSK hql
          obtain ⟨nb, hnb⟩ : ∃ q, nib e k = q := ⟨_, rfl⟩
          rw [hnb] at HB HSK hnl
          clear hr hq hnb Yx
          have zf := Yf.lt
          have zo := Yo.lt
          have ze := Ye.lt
          have f0 := Yf.cell (i := 0) rfl
          have f1 := Yf.cell (i := 1) rfl
          have f2 := Yf.cell (i := 2) rfl
          have f3 := Yf.cell (i := 3) rfl
          have f4 := Yf.cell (i := 4) rfl
          have f5 := Yf.cell (i := 5) rfl
          have f6 := Yf.cell (i := 6) rfl
          have f7 := Yf.cell (i := 7) rfl
          have f8 := Yf.cell (i := 8) rfl
          have f9 := Yf.cell (i := 9) rfl
          have f10 := Yf.cell (i := 10) rfl
          have f11 := Yf.cell (i := 11) rfl
          have f12 := Yf.cell (i := 12) rfl
          have f13 := Yf.cell (i := 13) rfl
          have o0 := Yo.cell (i := 0) rfl
          have e0 := Ye.cell (i := 0) rfl
          have o1 := Yo.cell (i := 1) rfl
          have e1 := Ye.cell (i := 1) rfl
          have o2 := Yo.cell (i := 2) rfl
          have e2 := Ye.cell (i := 2) rfl
          have o3 := Yo.cell (i := 3) rfl
          have e3 := Ye.cell (i := 3) rfl
          go_wp2_with fail
          refine wp_region_soft (C := fun W' => Below wr.heap.size wr W') 10 (by kernel_rfl) (by kernel_rfl) ((Below.refl _ _).drew) ?_
          simp only [List.take_succ_cons, List.take_zero, List.drop_succ_cons, List.drop_zero]
          refine wpQuiet_step (fun K hK => ?_)
          rw [if_pos (by rfl)]
          refine ⟨fld id m inv oo s, fun W' hW => ?_, hK _ ?_⟩
          · have e_0 := (hW.cell (p := ⟨bf, 0, none⟩) zf).trans f0
            have e_1 := (hW.cell (p := ⟨bf, 1, none⟩) zf).trans f1
            have e_2 := (hW.cell (p := ⟨bf, 2, none⟩) zf).trans f2
            have e_3 := (hW.cell (p := ⟨bf, 3, none⟩) zf).trans f3
            have e_4 := (hW.cell (p := ⟨bf, 4, none⟩) zf).trans f4
            have e_5 := (hW.cell (p := ⟨bf, 5, none⟩) zf).trans f5
            have e_6 := (hW.cell (p := ⟨bf, 6, none⟩) zf).trans f6
            have e_7 := (hW.cell (p := ⟨bf, 7, none⟩) zf).trans f7
            have e_8 := (hW.cell (p := ⟨bf, 8, none⟩) zf).trans f8
            have e_9 := (hW.cell (p := ⟨bf, 9, none⟩) zf).trans f9
            have e_10 := (hW.cell (p := ⟨bf, 10, none⟩) zf).trans f10
            have e_11 := (hW.cell (p := ⟨bf, 11, none⟩) zf).trans f11
            have e_12 := (hW.cell (p := ⟨bf, 12, none⟩) zf).trans f12
            have e_13 := (hW.cell (p := ⟨bf, 13, none⟩) zf).trans f13
            go_simp
          clear hK K
          simp only [Act.put, List.setIfInBounds_toArray, List.set_cons_zero, List.set_cons_succ]
          refine wpQuiet_step (fun K hK => ?_)
          rw [if_pos (by rfl)]
          refine ⟨vec z, fun W' hW => ?_, hK _ ?_⟩
          · have e_0 := (hW.cell (p := ⟨bo, 0, none⟩) zo).trans o0
            have e_1 := (hW.cell (p := ⟨bo, 1, none⟩) zo).trans o1
            have e_2 := (hW.cell (p := ⟨bo, 2, none⟩) zo).trans o2
            have e_3 := (hW.cell (p := ⟨bo, 3, none⟩) zo).trans o3
            go_simp
          clear hK K
          simp only [Act.put, List.setIfInBounds_toArray, List.set_cons_zero, List.set_cons_succ]
          refine wpQuiet_step (fun K hK => ?_)
          rw [if_pos (by rfl)]
          refine ⟨.agg L.toArray, fun W' hW => ?_, hK _ ?_⟩
          · exact quiet_load_mid 192 _ rfl bt 0 rfl L _ (fun j v hj => (hW.cell (p := ⟨bt, 0 + j, none⟩) (World.block_lt_of_cell? _ _ (HYT.out j v hj))).trans (HYT.out j v hj)) Tryd.underlying192 rfl HSZ.out
          clear hK K
          simp only [Act.put, List.setIfInBounds_toArray, List.set_cons_zero, List.set_cons_succ]
          refine wpQuiet_step (fun K hK => ?_)
          rw [if_pos (by rfl)]
          refine ⟨.pointer none, fun W' hW => ?_, hK _ ?_⟩
          · go_simp
          clear hK K
          simp only [Act.put, List.setIfInBounds_toArray, List.set_cons_zero, List.set_cons_succ]
          refine wpQuiet_step (fun K hK => ?_)
          rw [if_pos (by rfl)]
          refine ⟨vec e, fun W' hW => ?_, hK _ ?_⟩
          · have e_0 := (hW.cell (p := ⟨bf + 1 + 1, 0, none⟩) ze).trans e0
            have e_1 := (hW.cell (p := ⟨bf + 1 + 1, 1, none⟩) ze).trans e1
            have e_2 := (hW.cell (p := ⟨bf + 1 + 1, 2, none⟩) ze).trans e2
            have e_3 := (hW.cell (p := ⟨bf + 1 + 1, 3, none⟩) ze).trans e3
            go_simp
          clear hK K
          simp only [Act.put, List.setIfInBounds_toArray, List.set_cons_zero, List.set_cons_succ]
          refine wpQuiet_step (fun K hK => ?_)
          rw [if_pos (by rfl)]
          refine ⟨.int .i64 (k : Int), fun W' hW => ?_, hK _ ?_⟩
          · go_simp
          clear hK K
          simp only [Act.put, List.setIfInBounds_toArray, List.set_cons_zero, List.set_cons_succ]
          refine wpQuiet_step (fun K hK => ?_)
          rw [if_pos (by rfl)]
          refine ⟨.int .i64 ((k : Int) * 4), fun W' hW => ?_, hK _ ?_⟩
          · go_simp
            rw [IntKind.wrap_i64]; omega
          clear hK K
          simp only [Act.put, List.setIfInBounds_toArray, List.set_cons_zero, List.set_cons_succ]
          refine wpQuiet_step (fun K hK => ?_)
          rw [if_pos (by rfl)]
          refine ⟨.int .u64 (nb : Int), fun W' hW => ?_, hK _ ?_⟩
          · go_simp
            refine (HB.out _).mono ?_
            rintro e w' ⟨rfl, b⟩
            exact ⟨rfl, hW.trans (b.mono hW.size)⟩
          clear hK K
          simp only [Act.put, List.setIfInBounds_toArray, List.set_cons_zero, List.set_cons_succ]
          refine wpQuiet_step (fun K hK => ?_)
          rw [if_pos (by rfl)]
          refine ⟨vec q, fun W' hW => ?_, hK _ ?_⟩
          · go_simp
            refine (HSK.out _).mono ?_
            rintro e w' ⟨rfl, b⟩
            exact ⟨rfl, hW.trans (b.mono hW.size)⟩
          clear hK K
          simp only [Act.put, List.setIfInBounds_toArray, List.set_cons_zero, List.set_cons_succ]
          refine wpQuiet_step (fun K hK => ?_)
          rw [if_pos (by rfl)]
          refine ⟨vec r, fun W' hW => ?_, hK _ ?_⟩
          · go_simp
            refine (M.out _).mono ?_
            rintro e w' ⟨rfl, b⟩
            exact ⟨rfl, hW.trans (b.mono hW.size)⟩
          clear hK K
          simp only [Act.put, List.setIfInBounds_toArray, List.set_cons_zero, List.set_cons_succ]
          refine wpQuiet_nil ?_
          intro W3 hW3
          have HP3 := hid (HP.out.keep hW3)
          have Y3 := Yo.keep hW3
          have z3 := Y3.lt
          have u0 := Y3.cell (i := 0) rfl
          have v0 := Y3.frozen 0
          have u1 := Y3.cell (i := 1) rfl
          have v1 := Y3.frozen 1
          have u2 := Y3.cell (i := 2) rfl
          have v2 := Y3.frozen 2
          have u3 := Y3.cell (i := 3) rfl
          have v3 := Y3.frozen 3
          clear Yf Yo Ye f0 f1 f2 f3 f4 f5 f6 f7 f8 f9 f10 f11 f12 f13 o0 e0 o1 e1 o2 e2 o3 e3
          go_wp2
          go_roundw
          case rel => exact ⟨k, r, by omega, by go_num, HR.out, HP3.out.set (by omega) (by omega) hbf r⟩
          case measure => simp [intOf] <;> omega
end Go.Proofs.YtogenbggjodcnaaDoor
/-
  Inverses of elements.
-/
namespace Go.Proofs.YtogenbggjodcnaaDoor
open Go.RowKit

theorem dif_two {m : Nat} (hm : m < B256) (h2 : 2 < m) : dif m 2 = m - 2 := by
  rw [dif_eq]; unfold B256 at *
  rw [show m + 115792089237316195423570985008687907853269984665640564039457584007913129639936 - 2 = m - 2 + 115792089237316195423570985008687907853269984665640564039457584007913129639936 by omega, Nat.add_mod_right, Nat.mod_eq_of_lt (by omega)]
set_option maxHeartbeats 1000000 in
theorem inverse_any (id : Int) (m inv s x : Nat) (hF : FieldOK m inv) (hx : x < m) (w : World) :
    Calls Tryd.prog 134 #[.pointer none, fld id m inv (frm m 1) s, vec (frm m x)] w (Ret (vec (frm m (invm m x))) w) := by
  have BW := hid (Below.refl w.heap.size w)
  have HP := hid (fun (e : Nat) (he : e < B256) (W : World) => pow_any id m inv s x e hF hx he W)
  have HS := hid (fun W : World => lsub_any m 2 hF.1 (by decide) W)
  rw [← vec_two, dif_two hF.1 hF.2.1] at HS
  have HM := hid (show m - 2 < B256 by have := hF.1; omega)
  have HI : Hid (powm m x (m - 2) = invm m x) := hid rfl
  obtain ⟨d, hd⟩ : ∃ d, m - 2 = d := ⟨_, rfl⟩
  rw [hd] at HS HM HI
  clear hd hF hx
  go_enter Tryd.func134, Tryd.ntmps134
  go_wp2_with fail
  obtain ⟨v1, hv9⟩ : ∃ v, (((w.alloc (.cells #[.int .i64 id, .int .u64 (limb m 0 : Int), .int .u64 (limb m 1 : Int), .int .u64 (limb m 2 : Int), .int .u64 (limb m 3 : Int), .int .u64 (inv : Int), .int .u64 (limb (frm m 1) 0 : Int), .int .u64 (limb (frm m 1) 1 : Int), .int .u64 (limb (frm m 1) 2 : Int), .int .u64 (limb (frm m 1) 3 : Int), .int .u64 (limb s 0 : Int), .int .u64 (limb s 1 : Int), .int .u64 (limb s 2 : Int), .int .u64 (limb s 3 : Int)] 31)).alloc (.cells #[.int .u64 (limb (frm m x) 0 : Int), .int .u64 (limb (frm m x) 1 : Int), .int .u64 (limb (frm m x) 2 : Int), .int .u64 (limb (frm m x) 3 : Int)] 29)).alloc (.cells #[.int .u64 0, .int .u64 0, .int .u64 0, .int .u64 0] 29)) = v := ⟨_, rfl⟩
  have hG9 : Below w.heap.size w v1 := by rw [← hv9]; go_grown
  have X_f : Blk v1 (w.heap.size) 31 [.int .i64 id, .int .u64 (limb m 0 : Int), .int .u64 (limb m 1 : Int), .int .u64 (limb m 2 : Int), .int .u64 (limb m 3 : Int), .int .u64 (inv : Int), .int .u64 (limb (frm m 1) 0 : Int), .int .u64 (limb (frm m 1) 1 : Int), .int .u64 (limb (frm m 1) 2 : Int), .int .u64 (limb (frm m 1) 3 : Int), .int .u64 (limb s 0 : Int), .int .u64 (limb s 1 : Int), .int .u64 (limb s 2 : Int), .int .u64 (limb s 3 : Int)] := by rw [← hv9]; exact Blk.alloc (Blk.alloc (Blk.new rfl) _) _
  have X_x : Blk v1 (w.heap.size + 1) 29 [.int .u64 (limb (frm m x) 0 : Int), .int .u64 (limb (frm m x) 1 : Int), .int .u64 (limb (frm m x) 2 : Int), .int .u64 (limb (frm m x) 3 : Int)] := by rw [← hv9]; exact Blk.alloc (Blk.new (by simp)) _
  have X_r : Blk v1 (w.heap.size + 1 + 1) 29 [.int .u64 0, .int .u64 0, .int .u64 0, .int .u64 0] := by rw [← hv9]; exact Blk.new (by simp)
  obtain ⟨bf, hb9⟩ : ∃ k, w.heap.size = k := ⟨_, rfl⟩
  rw [hb9] at X_f
  rw [hb9] at X_x
  rw [hb9] at X_r
  have g_bf : w.heap.size ≤ bf := by rw [← hb9]; exact BW.out.size
  replace BW := hid (BW.out.trans (hG9.mono BW.out.size))
  clear hG9
  rw [hv9]
  try rw [hb9]
  clear hv9 hb9
  refine (HS.out _).mono ?_
  rintro e v2 ⟨rfl, b9⟩
  replace X_f := X_f.keep b9
  replace X_x := X_x.keep b9
  replace X_r := X_r.keep b9
  replace BW := hid (BW.out.trans (b9.mono BW.out.size))
  clear b9
  have z_f := X_f.lt
  have c_f0 := X_f.cell (i := 0) rfl
  have c_f1 := X_f.cell (i := 1) rfl
  have c_f2 := X_f.cell (i := 2) rfl
  have c_f3 := X_f.cell (i := 3) rfl
  have c_f4 := X_f.cell (i := 4) rfl
  have c_f5 := X_f.cell (i := 5) rfl
  have c_f6 := X_f.cell (i := 6) rfl
  have c_f7 := X_f.cell (i := 7) rfl
  have c_f8 := X_f.cell (i := 8) rfl
  have c_f9 := X_f.cell (i := 9) rfl
  have c_f10 := X_f.cell (i := 10) rfl
  have c_f11 := X_f.cell (i := 11) rfl
  have c_f12 := X_f.cell (i := 12) rfl
  have c_f13 := X_f.cell (i := 13) rfl
  have z_x := X_x.lt
  have c_x0 := X_x.cell (i := 0) rfl
  have c_x1 := X_x.cell (i := 1) rfl
  have c_x2 := X_x.cell (i := 2) rfl
  have c_x3 := X_x.cell (i := 3) rfl
  go_wp2_with fail
  obtain ⟨v3, hv9⟩ : ∃ v, (v2.alloc (.cells #[.int .u64 (limb d 0 : Int), .int .u64 (limb d 1 : Int), .int .u64 (limb d 2 : Int), .int .u64 (limb d 3 : Int)] 28)) = v := ⟨_, rfl⟩
  have hG9 : Below v2.heap.size v2 v3 := by rw [← hv9]; go_grown
  have X_d : Blk v3 (v2.heap.size) 28 [.int .u64 (limb d 0 : Int), .int .u64 (limb d 1 : Int), .int .u64 (limb d 2 : Int), .int .u64 (limb d 3 : Int)] := by rw [← hv9]; exact Blk.new rfl
  obtain ⟨bd, hb9⟩ : ∃ k, v2.heap.size = k := ⟨_, rfl⟩
  rw [hb9] at X_d
  have g_bd : w.heap.size ≤ bd := by rw [← hb9]; exact BW.out.size
  have q_f_bd : bf < bd := by rw [← hb9]; exact X_f.lt
  have q_x_bd : bf + 1 < bd := by rw [← hb9]; exact X_x.lt
  have q_r_bd : bf + 1 + 1 < bd := by rw [← hb9]; exact X_r.lt
  clear z_f c_f0 c_f1 c_f2 c_f3 c_f4 c_f5 c_f6 c_f7 c_f8 c_f9 c_f10 c_f11 c_f12 c_f13 z_x c_x0 c_x1 c_x2 c_x3
  replace X_f := X_f.keep hG9
  replace X_x := X_x.keep hG9
  replace X_r := X_r.keep hG9
  replace BW := hid (BW.out.trans (hG9.mono BW.out.size))
  clear hG9
  rw [hv9]
  try rw [hb9]
  clear hv9 hb9
  refine (HP.out d HM.out _).mono ?_
  rintro e v4 ⟨rfl, b9⟩
  replace X_f := X_f.keep b9
  replace X_x := X_x.keep b9
  replace X_r := X_r.keep b9
  replace X_d := X_d.keep b9
  replace BW := hid (BW.out.trans (b9.mono BW.out.size))
  clear b9
  have z_r := X_r.lt
  have c_r0 := X_r.cell (i := 0) rfl
  have f_r0 := X_r.frozen 0
  have c_r1 := X_r.cell (i := 1) rfl
  have f_r1 := X_r.frozen 1
  have c_r2 := X_r.cell (i := 2) rfl
  have f_r2 := X_r.frozen 2
  have c_r3 := X_r.cell (i := 3) rfl
  have f_r3 := X_r.frozen 3
  go_wp2
  refine bodyPost_ret (by simp only [results, Tryd.results134]; go_simp; try rfl) rfl ?_
  exact ⟨by rw [HI.out], by have := BW.out; have := BW.out.size; go_grown; all_goals (simp; try omega)⟩
end Go.Proofs.YtogenbggjodcnaaDoor
