/-
  Rows of shares that are owned; what CheckShares finds in a part of accepted shares and in another order.
-/
import Derived.Test.YticpjaooegpipaaDoorParShares
import Derived.Laws.AppendOwn
import Derived.Laws.OwnMore
namespace Go.Proofs.YticpjaooegpipaaDoor
open Go.RowKit

theorem owns_shape {w : World} {base : Nat} {e : TypeId} {size n : Nat} {v : Value} {xs : List Value} (h : w.ownsRow base e size v n xs) : ∃ a c, v = .slice a n c ∧ n ≤ c ∧ (0 < n → ∃ g, a = some ⟨g, 0, none⟩) := by
  obtain ⟨_, ⟨rfl, rfl⟩ | ⟨g, cap, cur, rfl, _, _, hnc, _⟩⟩ := h
  · exact ⟨none, 0, rfl, Nat.le_refl _, fun h => absurd h (Nat.lt_irrefl _)⟩
  · exact ⟨_, cap, rfl, hnc, fun _ => ⟨g, rfl⟩⟩
/-- The cells of shares. -/
def shs (ss : List Shr) : List Value := ss.flatMap Shr.cells
theorem shs_len : ∀ ss : List Shr, (shs ss).length = ss.length * 5
  | [] => rfl
  | s :: r => by
    have := shs_len r
    unfold shs at *
    rw [List.flatMap_cons, List.length_append, this]
    simp; omega
theorem shs_append (ss rr : List Shr) : shs (ss ++ rr) = shs ss ++ shs rr := by unfold shs; exact List.flatMap_append
theorem shs_get : ∀ (ss : List Shr) (j : Nat) (s : Shr), ss[j]? = some s → ∀ i, i < 5 → (shs ss)[j * 5 + i]? = s.cells[i]?
  | [], j, s, h, i, hi => by simp at h
  | x :: r, 0, s, h, i, hi => by
    obtain rfl : x = s := by simpa using h
    unfold shs
    rw [List.flatMap_cons, Nat.zero_mul, Nat.zero_add, List.getElem?_append_left (by simpa using hi)]
  | x :: r, j + 1, s, h, i, hi => by
    have := shs_get r j s (by simpa using h) i hi
    unfold shs at *
    rw [List.flatMap_cons, List.getElem?_append_right (by simp; omega), ← this]
    congr 1
    simp; omega
theorem shs_one (ss : List Shr) (pv : ∀ s ∈ ss, s.v.oneCell' = true) : ∀ u ∈ shs ss, u.oneCell' = true := by
  intro u hu
  simp only [shs, List.mem_flatMap] at hu
  obtain ⟨s, hs, hu⟩ := hu
  simp only [Shr.cells, List.mem_cons, List.not_mem_nil, or_false] at hu
  rcases hu with rfl | rfl | rfl | rfl | rfl
  · rfl
  · rfl
  · rfl
  · rfl
  · exact pv s hs
theorem pay_one {w : World} {v : Value} {ps : List Nat} (h : PaySl w v ps) : v.oneCell' = true := by
  obtain ⟨a, cap, rfl, _⟩ := h
  rfl
/-- An owned row that holds the shares' cells is a slice of the shares. -/
theorem shs_sl {w : World} {base : Nat} {v : Value} {ss : List Shr} {xs : List Value} (h : w.ownsRow base 31 5 v ss.length xs) (hx : ∀ j s, ss[j]? = some s → ∀ i, i < 5 → xs[j * 5 + i]? = s.cells[i]?) (hp : ∀ s ∈ ss, PaySl w s.v s.ps) : ShSl w v ss := by
  obtain ⟨a, c, rfl, hc, hg⟩ := owns_shape h
  refine ⟨a, c, rfl, hc, ?_⟩
  by_cases h0 : ss = []
  · exact .inl h0
  · obtain ⟨g, rfl⟩ := hg (List.length_pos_iff.2 h0)
    refine .inr ⟨g, 0, rfl, fun j s hs => ?_⟩
    have hj : j < ss.length := (List.getElem?_eq_some_iff.1 hs).1
    have hat : ∀ i, i < 5 → w.cell? ⟨g, j * 5 + i, none⟩ = s.cells[i]? := fun i hi => (h.cellAt (j * 5 + i) (by omega)).trans (hx j s hs i hi)
    rw [Nat.zero_add]
    exact ⟨hp s (List.mem_of_getElem? hs), hat 0 (by omega), hat 1 (by omega), hat 2 (by omega), hat 3 (by omega), hat 4 (by omega)⟩
/-- Slices of a slice. -/
theorem ShSl.at {w : World} {a : Option Addr} {n cap : Nat} {ss : List Shr} (h : ShSl w (.slice a n cap) ss) (h0 : ss ≠ []) : n = ss.length ∧ n ≤ cap ∧ ∃ g off, a = some ⟨g, off, none⟩ ∧ ShsAt w g off ss := by
  obtain ⟨a', c', e, hc, hr⟩ := h
  cases e
  exact ⟨rfl, hc, hr.resolve_left h0⟩
theorem sh_take {w : World} {g off m cap : Nat} {ss : List Shr} (h : ShsAt w g off ss) (hm : ss.length = m) (hc : m ≤ cap) {r : Nat} (hr : r ≤ m) : ShSl w (.slice (some ⟨g, off, none⟩) r cap) (ss.take r) := by
  refine ⟨_, cap, by rw [List.length_take, Nat.min_eq_left (by omega)], by rw [List.length_take]; omega, .inr ⟨g, off, rfl, fun j s hs => h j s ?_⟩⟩
  rw [List.getElem?_take] at hs
  split at hs
  · exact hs
  · cases hs
theorem sh_drop {w : World} {g off m cap : Nat} {ss : List Shr} (h : ShsAt w g off ss) (hm : ss.length = m) (hc : m ≤ cap) {r : Nat} (hr : r ≤ m) : ShSl w (.slice (some ⟨g, off + r * 5, none⟩) (m - r) (cap - r)) (ss.drop r) := by
  refine ⟨_, cap - r, by rw [List.length_drop, hm], by rw [List.length_drop, hm]; omega, .inr ⟨g, off + r * 5, rfl, fun j s hs => ?_⟩⟩
  rw [List.getElem?_drop] at hs
  have := h (r + j) s hs
  rw [show off + r * 5 + j * 5 = off + (r + j) * 5 by omega]
  exact this

/-! ### plain laws -/
theorem bad_ne : ∀ (ss : List Shr) (e : Int), bad ss = some e → e ≠ 0
  | [], e, h => by simp [bad] at h
  | s :: r, e, h => by
    unfold bad at h
    by_cases hc : s.chk = 0
    · rw [if_pos hc] at h; exact bad_ne r e h
    · rw [if_neg hc] at h; cases h; exact hc
theorem bad_all : ∀ (ss : List Shr), bad ss = none → ∀ s ∈ ss, s.chk = 0
  | [], _, s, hs => by cases hs
  | x :: r, h, s, hs => by
    unfold bad at h
    by_cases hc : x.chk = 0
    · rw [if_pos hc] at h
      rcases List.mem_cons.1 hs with rfl | hs
      · exact hc
      · exact bad_all r h s hs
    · rw [if_neg hc] at h; cases h
theorem chkL_zero {ss : List Shr} (h : chkL ss = 0) : (∀ s ∈ ss, s.chk = 0) ∧ ¬ mixd ss ss.length ∧ (ss.map Shr.i).Nodup ∧ ¬ few ss := by
  unfold chkL at h
  cases hb : bad ss with
  | some e => rw [hb] at h; exact absurd h (bad_ne ss e hb)
  | none =>
    rw [hb] at h
    simp only [chkG] at h
    by_cases h1 : mixd ss ss.length
    · rw [if_pos h1] at h; cases h
    · rw [if_neg h1] at h
      by_cases h2 : (ss.map Shr.i).Nodup
      · rw [if_neg (fun e => e h2)] at h
        by_cases h3 : few ss
        · rw [if_pos h3] at h; cases h
        · exact ⟨bad_all ss hb, h1, h2, h3⟩
      · rw [if_pos h2] at h; cases h
/-- Two shares have the same parameters. -/
def alike (s s' : Shr) : Prop := s.f = s'.f ∧ s.t = s'.t ∧ s.n = s'.n
theorem mixd_iff (ss : List Shr) : ¬ mixd ss ss.length ↔ ∀ s ∈ ss, ∀ s' ∈ ss, alike s s' := by
  constructor
  · intro h s hs s' hs'
    cases ss with
    | nil => cases hs
    | cons x r =>
      have key : ∀ y ∈ x :: r, alike y x := fun y hy => Classical.not_not.1 fun hn => h ⟨y, by rw [List.take_length]; exact hy, x, rfl, hn⟩
      obtain ⟨a1, a2, a3⟩ := key s hs
      obtain ⟨b1, b2, b3⟩ := key s' hs'
      exact ⟨a1.trans b1.symm, a2.trans b2.symm, a3.trans b3.symm⟩
  · rintro h ⟨s, hs, s0, h0, hn⟩
    rw [List.take_length] at hs
    exact hn (h s hs s0 (List.mem_of_getElem? h0))
theorem few_iff {ss : List Shr} {s0 : Shr} (h : ¬ mixd ss ss.length) (hs : s0 ∈ ss) : few ss ↔ (ss.length : Int) < s0.t := by
  constructor
  · intro hf
    cases ss with
    | nil => cases hs
    | cons x r =>
      have := hf x rfl
      rw [(((mixd_iff _).1 h) s0 hs x (by simp)).2.1]
      exact this
  · intro hl s h0
    rw [(((mixd_iff _).1 h) s (List.mem_of_getElem? h0) s0 hs).2.1]
    exact hl
/-- A part of accepted shares. -/
theorem chkL_part {ss ms : List Shr} {s0 : Shr} (h : chkL ss = 0) (hsub : ms.Sublist ss) (h0 : s0 ∈ ss) : chkL ms = if (ms.length : Int) < s0.t then 16 else 0 := by
  obtain ⟨hall, hm, hn, _⟩ := chkL_zero h
  have hin : ∀ s ∈ ms, s ∈ ss := fun s hs => hsub.subset hs
  have hmm : ¬ mixd ms ms.length := (mixd_iff ms).2 fun s hs s' hs' => (mixd_iff ss).1 hm s (hin s hs) s' (hin s' hs')
  have hnn : (ms.map Shr.i).Nodup := (hsub.map Shr.i).nodup hn
  rw [chkL_good fun s hs => hall s (hin s hs)]
  have ht : 1 ≤ s0.t := by
    have := hall s0 h0
    unfold Shr.chk chkS at this
    by_cases h1 : knownF s0.f
    · by_cases h2 : 1 ≤ s0.t ∧ s0.t ≤ 255
      · exact h2.1
      · simp [h1, h2] at this
    · simp [h1] at this
  have hfew : few ms ↔ (ms.length : Int) < s0.t := by
    cases ms with
    | nil => exact ⟨fun _ => by simp; omega, fun _ s hs => by cases hs⟩
    | cons x r =>
      rw [few_iff hmm (List.mem_cons_self : x ∈ x :: r), ((mixd_iff ss).1 hm x (hin x (by simp)) s0 h0).2.1]
  by_cases hf : (ms.length : Int) < s0.t
  · rw [if_pos hf]; exact chkG_few hmm hnn (hfew.2 hf)
  · rw [if_neg hf]; exact chkG_ok hmm hnn (fun e => hf (hfew.1 e))
/-- Shares that are correct, in another order. -/
theorem chkL_perm {ss ms : List Shr} (hall : ∀ s ∈ ss, s.chk = 0) (hp : ms.Perm ss) : chkL ms = chkL ss := by
  rw [chkL_good hall, chkL_good fun s hs => hall s (hp.subset hs)]
  by_cases hm : mixd ss ss.length
  · have hm' : mixd ms ms.length := Classical.not_not.1 fun h => (mixd_iff ss).2 (fun s hs s' hs' => (mixd_iff ms).1 h s (hp.mem_iff.2 hs) s' (hp.mem_iff.2 hs')) hm
    rw [chkG_mixed hm, chkG_mixed hm']
  · have hm' : ¬ mixd ms ms.length := (mixd_iff ms).2 fun s hs s' hs' => (mixd_iff ss).1 hm s (hp.mem_iff.1 hs) s' (hp.mem_iff.1 hs')
    have hn : (ms.map Shr.i).Nodup ↔ (ss.map Shr.i).Nodup := (hp.map Shr.i).nodup_iff
    by_cases h2 : (ss.map Shr.i).Nodup
    · have hf : few ms ↔ few ss := by
        cases ss with
        | nil => rw [List.Perm.eq_nil hp]
        | cons x r => rw [few_iff hm (List.mem_cons_self : x ∈ x :: r), few_iff hm' (hp.mem_iff.2 (List.mem_cons_self : x ∈ x :: r)), hp.length_eq]
      by_cases h3 : few ss
      · rw [chkG_few hm h2 h3, chkG_few hm' (hn.2 h2) (hf.2 h3)]
      · rw [chkG_ok hm h2 h3, chkG_ok hm' (hn.2 h2) (fun e => h3 (hf.1 e))]
    · rw [chkG_dup hm h2, chkG_dup hm' (fun e => h2 (hn.1 e))]
end Go.Proofs.YticpjaooegpipaaDoor
