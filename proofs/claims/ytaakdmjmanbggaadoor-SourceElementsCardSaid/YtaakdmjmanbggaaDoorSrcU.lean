/-
  What the laws need of sources and bytes: contracts in the form in which they are used; what stays behind a take.
-/
import Derived.Test.YtaakdmjmanbggaaDoorElems
import Derived.Test.YtaakdmjmanbggaaDoorBEq
import Derived.Lib.AppendZerosOnto
import Derived.Laws.AppendOwn
namespace Go.Proofs.YtaakdmjmanbggaaDoor
open Go.RowKit

section
variable {w w' : World} {t : TypeId} {s g : Nat} {l : List Nat} {v : Value}
/-- Numbers behind a take. -/
theorem NumSl.src {xs : List Nat} (h : NumSl w v xs) (hs : Src w t s g l) (ho : Only (fun k => k = s) w w') : NumSl w' v xs := by
  obtain ⟨a, cap, rfl, hc, h0 | ⟨g', off, rfl, he⟩⟩ := h
  · exact ⟨a, cap, rfl, hc, .inl h0⟩
  · by_cases hx : xs = []
    · exact ⟨_, cap, rfl, hc, .inl hx⟩
    · refine ⟨_, cap, rfl, hc, .inr ⟨g', off, rfl, he.only ho (fun e => ?_)⟩⟩
      subst e
      have hl : 0 < xs.length := List.length_pos_iff.2 hx
      obtain ⟨_, h1, h2, _⟩ := he 0 _ (List.getElem?_eq_getElem hl)
      obtain ⟨a, c, hX, _⟩ := hs
      unfold Blk at hX
      simp only [World.cell?, hX] at h1 h2
      simp at h2
theorem Below.src {w0 : World} (h : Below w0.heap.size w0 w) (ho : Only (fun k => k = s) w w') (hs : w0.heap.size ≤ s) : Below w0.heap.size w0 w' :=
  h.trans (ho.below (fun k e => by subst e; exact hs) h.size)
/-- Integers in a row. -/
def IntSl (w : World) (v : Value) (l : List Int) : Prop := ∃ a cap, v = .slice a l.length cap ∧ (l = [] ∨ ∃ g off, a = some ⟨g, off, none⟩ ∧ ∀ (j : Nat) (x : Int), l[j]? = some x → w.cell? ⟨g, off + j, none⟩ = some (.int .i64 x))
theorem IntSl.below {l : List Int} (h : IntSl w v l) (hb : Below w.heap.size w w') : IntSl w' v l := by
  obtain ⟨a, cap, hv, h0 | ⟨g, off, ha, he⟩⟩ := h
  · exact ⟨a, cap, hv, .inl h0⟩
  · exact ⟨a, cap, hv, .inr ⟨g, off, ha, fun j x hj => (hb.cell (World.block_lt_of_cell? w _ (he j x hj))).trans (he j x hj)⟩⟩
theorem IntSl.at {l : List Int} {a : Option Addr} {n c k : Nat} {x : Int} (h : IntSl w (.slice a n c) l) (hx : l[k]? = some x) : ∃ g off, a = some ⟨g, off, none⟩ ∧ g < w.heap.size ∧ w.cell? ⟨g, off + k, none⟩ = some (.int .i64 x) := by
  obtain ⟨a', cap, hv, h0 | ⟨g, off, ha, he⟩⟩ := h
  · rw [h0] at hx; cases hx
  · cases hv
    exact ⟨g, off, ha, World.block_lt_of_cell? w _ (he k x hx), he k x hx⟩
theorem Src.noint (hs : Src w t s g l) : ∀ (k o : Nat) (i : IntKind) (x : Int), k = s → w.cell? ⟨k, o, none⟩ ≠ some (.int i x) := by
  rintro k o i x rfl e
  obtain ⟨a, cap, hX, _⟩ := hs
  unfold Blk at hX
  rw [World.cell?] at e
  simp only [hX] at e
  match o with
  | 0 => simp at e
  | o + 1 => simp at e
theorem IntSl.src {m : List Int} (h : IntSl w v m) (hs : Src w t s g l) (ho : Only (fun k => k = s) w w') : IntSl w' v m := by
  obtain ⟨a, cap, hv, h0 | ⟨g', off, ha, he⟩⟩ := h
  · exact ⟨a, cap, hv, .inl h0⟩
  · exact ⟨a, cap, hv, .inr ⟨g', off, ha, fun j x hj => ho.cell (fun e => hs.noint _ _ _ _ e (he j x hj)) (he j x hj)⟩⟩
/-- A source that is made of a slice as it is. -/
theorem src_arg (hX : Blk w s t [v]) (hB : ByteSl w v l) : ∃ g, Src w t s g l := by
  obtain ⟨a, c, rfl, _, _⟩ := id hB
  cases a with
  | none => exact ⟨0, none, c, hX, hB, fun ad e => by cases e⟩
  | some ad => exact ⟨ad.block, some ad, c, hX, hB, fun ad' e => by cases e; rfl⟩
/-- A new block of bytes. -/
theorem bytes_new {b n c : Nat} (h : Blk w b t (bys l)) (hb : Byt l) (hn : l.length = n) (hc : n ≤ c) : ByteSl w (.slice (some ⟨b, 0, none⟩) n c) l := by
  refine ⟨_, c, by rw [hn], by omega, .inr ⟨b, 0, rfl, fun j x hj => ⟨hb x (List.mem_of_getElem? hj), ?_⟩⟩⟩
  have e1 : (bys l)[j]? = some (.int .u8 (x : Int)) := by unfold bys; rw [List.getElem?_map, hj]; rfl
  rw [Nat.zero_add]; exact h.cell e1
/-- A new source. -/
theorem src_new {r : Value} {base n : Nat} (hX : Blk w s t [r]) (ho : w.ownsRow base 5 1 r n (bys l)) (hn : l.length = n) (hb : Byt l) (hs : base ≤ s) : ∃ g, base ≤ g ∧ g < w.heap.size ∧ Src w t s g l := by
  have hB := bys_own ho hn hb
  obtain ⟨a, c, rfl, _, ha, _⟩ := owns_form ho
  subst hn
  cases a with
  | none => exact ⟨s, hs, hX.lt, none, c, hX, hB, fun ad e => by cases e⟩
  | some ad =>
    obtain ⟨g, rfl, hg, hlt⟩ := ha ad rfl
    exact ⟨g, hg, hlt, _, c, hX, hB, fun ad e => by cases e; rfl⟩
end
theorem newsrc_any (v : Value) (l : List Nat) (w : World) (hS : ByteSl w v l) (hl : l.length < 1000000) :
    Calls Tryd.prog 10 #[v] w fun e w' => ∃ s g, e = .returned (.pointer (some ⟨s, 0, none⟩)) ∧ Src w' 65 s g l ∧ w.heap.size ≤ s ∧ w.heap.size ≤ g ∧ g < w'.heap.size ∧ Below w.heap.size w w' :=
  (new_any v l w hS hl).mono fun e w' ⟨s, r, he, hX, ho, hs, hb⟩ => by
    obtain ⟨g, hg, hlt, hS'⟩ := src_new hX ho rfl hS.byt hs
    exact ⟨s, g, he, hS', hs, hg, hlt, hb⟩
theorem equal_same (v1 v2 : Value) (l : List Nat) (w : World) (h1 : ByteSl w v1 l) (h2 : ByteSl w v2 l) : Calls Tryd.prog 14 #[v1, v2] w (Ret (.bool true) w) :=
  (equalb_any v1 v2 l l w h1 h2).mono fun e w' ⟨he, hw⟩ => by
    subst hw
    exact ⟨by rw [he]; simp, Below.refl _ _⟩
theorem left_ret (s g : Nat) (l : List Nat) (w : World) (hS : Src w 65 s g l) : Calls Tryd.prog 11 #[.pointer (some ⟨s, 0, none⟩)] w (Ret (.int .i64 (l.length : Int)) w) :=
  (left_any s g l w hS).mono fun e w' ⟨he, hw⟩ => by
    subst hw
    exact ⟨he, Below.refl _ _⟩
theorem tkn_le (m : Nat) (n : Int) : tkn m n ≤ m := by
  by_cases h : chk m n 1 = 0
  · obtain ⟨k, _, h1, h2⟩ := chk_ok h; omega
  · unfold tkn; rw [if_neg h]; omega
theorem take_ok (s g : Nat) (l : List Nat) (k : Nat) (hl : l.length < 1000000) (hk : k ≤ l.length) (w : World) (hS : Src w 65 s g l) :
    Calls Tryd.prog 12 #[.pointer (some ⟨s, 0, none⟩), .int .i64 (k : Int)] w fun e w' => ∃ r, e = .returned (.tuple #[r, .int .i64 0]) ∧
      w'.ownsRow w.heap.size 5 1 r k (bys (l.take k)) ∧ ByteSl w' r (l.take k) ∧ Src w' 65 s g (l.drop k) ∧ Only (fun j => j = s) w w' := by
  have h : chk l.length (k : Int) 1 = 0 := by unfold chk; rw [if_neg (by omega), if_neg (by omega)]
  obtain ⟨k', hk', _, ht⟩ := chk_ok h
  obtain rfl : k = k' := by omega
  have hb := hS.byt
  refine (take_any s g l (k : Int) hl w hS).mono ?_
  rintro e w' ⟨r, rfl, ho, hs, hO⟩
  rw [ht] at ho hs
  rw [h]
  exact ⟨r, rfl, ho, bys_own ho (by simp; omega) (hb.take k), hs, hO⟩
theorem take_no (s g : Nat) (l : List Nat) (n : Int) (q : Int) (hl : l.length < 1000000) (hq : chk l.length n 1 = q) (h0 : q ≠ 0) (w : World) (hS : Src w 65 s g l) :
    Calls Tryd.prog 12 #[.pointer (some ⟨s, 0, none⟩), .int .i64 n] w fun e w' => ∃ r, e = .returned (.tuple #[r, .int .i64 q]) ∧
      w'.ownsRow w.heap.size 5 1 r 0 [] ∧ ByteSl w' r [] ∧ Src w' 65 s g l ∧ Only (fun j => j = s) w w' := by
  have ht : tkn l.length n = 0 := by unfold tkn; rw [if_neg (by rw [hq]; exact h0)]
  refine (take_any s g l n hl w hS).mono ?_
  rintro e w' ⟨r, rfl, ho, hs, hO⟩
  rw [ht] at ho hs
  rw [hq]
  exact ⟨r, rfl, ho, bys_own (l := []) ho rfl (fun x hx => by cases hx), hs, hO⟩
end Go.Proofs.YtaakdmjmanbggaaDoor
