/-
  Len, Note, New, from.
-/
import Derived.Test.YtbkpiegkiokdlaaTapeAdd
import Derived.LoopN
namespace Go.Proofs.Ytbkpiegkiokdlaa
open Go.RowKit

theorem len_nil (w : World) : Calls Try.prog 22 #[.pointer none] w fun e w' => e = .returned (.int .i64 0) ∧ w = w' := by
  go_enter Try.func22, Try.ntmps22
  go_wp2
  go_ret
  exact ⟨rfl, rfl⟩
theorem len_at (p : Nat) (fs : List Nat) (l : List Ev) (w : World) (h : Tape w p fs l) : Calls Try.prog 22 #[ptr p] w fun e w' => e = .returned (.int .i64 (l.length : Int)) ∧ w = w' := by
  obtain ⟨v, hb⟩ := h.len
  have c1 := hb.cell (i := 1) rfl
  clear hb h
  go_enter Try.func22, Try.ntmps22
  go_wp2
  go_ret
  exact ⟨rfl, rfl⟩
theorem note_nil (k a b : Int) (w : World) : Calls Try.prog 20 #[.pointer none, .int .i64 k, .int .i64 a, .int .i64 b] w fun e w' => (∃ x, e = .returned x) ∧ w = w' := by
  go_enter Try.func20, Try.ntmps20
  go_wp2
  go_end0
  exact ⟨⟨_, rfl⟩, rfl⟩
theorem note_at (p : Nat) (fs : List Nat) (l : List Ev) (k a b : Int) (w : World) (h : Tape w p fs l) (hl : l.length < 1000000000) :
    Calls Try.prog 20 #[ptr p, .int .i64 k, .int .i64 a, .int .i64 b] w fun e' w' => ∃ x fs', e' = .returned x ∧ Tape w' p fs' (l ++ [⟨k, a, b⟩]) ∧ Only (fun k => k ∈ fs) w w' ∧ ∀ k ∈ fs', k ∈ fs ∨ w.heap.size ≤ k := by
  have H := hid h
  clear h
  go_enter Try.func20, Try.ntmps20
  go_wp2_with (go_at_call 26; refine (add_any p fs l ⟨k, a, b⟩ _ H.out hl).mono ?_; rintro e w' ⟨x, fs', rfl, h1, h2, h3⟩)
  go_end0
  exact ⟨_, fs', rfl, h1, h2, h3⟩

/-- The events l lie from an address on. -/
def EvsAt (w : World) (g off : Nat) (l : List Ev) : Prop := ∀ i e, l[i]? = some e → w.cell? ⟨g, off + i * 3, none⟩ = some (.int .i64 e.k) ∧ w.cell? ⟨g, off + i * 3 + 1, none⟩ = some (.int .i64 e.a) ∧ w.cell? ⟨g, off + i * 3 + 2, none⟩ = some (.int .i64 e.b)
/-- A slice of the events l. -/
def EvSl (w : World) (v : Value) (l : List Ev) : Prop := ∃ a cap, v = .slice a l.length cap ∧ l.length ≤ cap ∧ (l = [] ∨ ∃ g off, a = some ⟨g, off, none⟩ ∧ EvsAt w g off l)
theorem EvsAt.lt {w : World} {g off : Nat} {l : List Ev} (h : EvsAt w g off l) (hl : l ≠ []) : g < w.heap.size := by
  cases l with
  | nil => exact absurd rfl hl
  | cons x l => exact World.block_lt_of_cell? _ _ (h 0 x rfl).1
theorem EvSl.only {w w' : World} {F : Nat → Prop} {v : Value} {l : List Ev} (h : EvSl w v l) (g : Only F w w') (hF : ∀ k, k < w.heap.size → ¬ F k) : EvSl w' v l := by
  obtain ⟨a, cap, rfl, hc, rfl | ⟨g0, off, rfl, he⟩⟩ := h
  · exact ⟨a, cap, rfl, hc, .inl rfl⟩
  · refine ⟨_, cap, rfl, hc, ?_⟩
    by_cases hl : l = []
    · exact .inl hl
    · have := he.lt hl
      exact .inr ⟨g0, off, rfl, fun i e hi => ⟨g.cell (hF _ this) (he i e hi).1, g.cell (hF _ this) (he i e hi).2.1, g.cell (hF _ this) (he i e hi).2.2⟩⟩
theorem EvSl.below {w w' : World} {v : Value} {l : List Ev} (h : EvSl w v l) (hb : Below w.heap.size w w') : EvSl w' v l :=
  h.only (Below.only hb (fun _ => False)) (fun _ _ h => h)

set_option maxRecDepth 100000 in
set_option maxHeartbeats 1000000 in
theorem new_any (v : Value) (l : List Ev) (w : World) (h : EvSl w v l) (hl : l.length < 1000000000) :
    Calls Try.prog 11 #[v] w fun e w' => ∃ p fs, e = .returned (ptr p) ∧ Tape w' p fs l ∧ Below w.heap.size w w' ∧ ∀ k ∈ fs, w.heap.size ≤ k := by
  obtain ⟨a, cap, rfl, _, hev⟩ := h
  obtain ⟨n, hn⟩ : ∃ n, l.length = n := ⟨_, rfl⟩
  have HV := hid hev
  have HN := hid hn
  rw [hn] at hl ⊢
  clear hev hn
  go_enter Try.func11, Try.ntmps11
  go_wp2
  go_loopw [10] (fun i wr => ∃ (k : Nat) (fs : List Nat), k ≤ n ∧ i = .int .i64 (k : Int) ∧ Below w.heap.size w wr ∧ Tape wr w.heap.size fs (l.take k) ∧ ∀ b ∈ fs, w.heap.size ≤ b) (fun i _ => n - (intOf i).toNat)
  case atStart => exact ⟨0, [w.heap.size], by omega, rfl, by go_grown, Tape.new (Blk.new rfl), by simp⟩
  case round =>
    obtain ⟨k, fs, hk, rfl, hB, hT, hfs⟩ := hrel
    have HT := hid hT
    have HF := hid hfs
    clear hT hfs
    by_cases hlt : k < n
    · obtain ⟨x, hx⟩ : ∃ x, l[k]? = some x := ⟨l[k]'(by rw [HN.out]; exact hlt), List.getElem?_eq_getElem _⟩
      obtain ⟨g, off, rfl, he⟩ : ∃ g off, a = some ⟨g, off, none⟩ ∧ EvsAt w g off l := by
        rcases HV.out with h | h
        · subst h; cases hx
        · exact h
      obtain ⟨e0, e1, e2⟩ := he k x hx
      have zg := World.block_lt_of_cell? _ _ e0
      have d0 := (hB.cell (p := ⟨g, off + k * 3, none⟩) zg).trans e0
      have d1 := (hB.cell (p := ⟨g, off + k * 3 + 1, none⟩) zg).trans e1
      have d2 := (hB.cell (p := ⟨g, off + k * 3 + 2, none⟩) zg).trans e2
      have zB := hB.size
      have zg2 : g < wr.heap.size := Nat.lt_of_lt_of_le zg zB
      have HX := hid hx
      have HT2 := hid (Tape.alloc HT.out (.cells #[.int .i64 x.k, .int .i64 x.a, .int .i64 x.b] 41))
      clear e0 e1 e2 he hx
      go_wp2_with (go_at_call 26; refine (add_any w.heap.size fs (l.take k) x _ HT2.out (by rw [List.length_take]; omega)).mono ?_; rintro e w1 ⟨y, fs', rfl, h1, h2, h3⟩; have H1 := hid h1; have H2 := hid h2; have H3 := hid h3; clear h1 h2 h3)
      go_roundw
      case rel =>
        refine ⟨k + 1, fs', by omega, by go_num, ?_, ?_, ?_⟩
        · exact (hB.alloc zB _).trans (H2.out.below (fun b hb => HF.out b hb) (by simp; omega))
        · rw [List.take_add_one, HX.out]; exact H1.out
        · intro b hb
          rcases H3.out b hb with h | h
          · exact HF.out b h
          · simp at h; omega
      case measure => simp [intOf]; omega
    · obtain rfl : k = n := by omega
      have e0 : l.take k = l := by rw [List.take_of_length_le]; rw [HN.out]; exact Nat.le_refl _
      go_wp2
      go_ret
      exact ⟨w.heap.size, fs, rfl, e0 ▸ HT.out, hB, HF.out⟩
theorem from_any (p : Option Addr) (n : Int) (w : World) :
    Calls Try.prog 27 #[.pointer p, .int .i64 n] w fun e w' => e = .returned (.func (.func 30) #[] #[ptr (w.heap.size + 1), ptr w.heap.size]) ∧ w' = (w.alloc (.cells #[.pointer p] 25)).alloc (.cells #[.int .i64 n] 3) := by
  go_enter Try.func27, Try.ntmps27
  go_wp2
  go_ret
  exact ⟨rfl, rfl⟩
end Go.Proofs.Ytbkpiegkiokdlaa
