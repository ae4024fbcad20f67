/-
  slices.Clone of elements.
-/
import Derived.Test.YtogenbggjodcnaaDoorKit
import Derived.Maps.AppendAt
import Derived.Lib.SliceRun
import Derived.OwnWalk
namespace Go.Proofs.YtogenbggjodcnaaDoor
open Go.RowKit

theorem info_ce : (Tryd.prog.info? 29).map (fun i => (i.zero, i.size, i.bytes)) = some (some (.agg #[.int .u64 0, .int .u64 0, .int .u64 0, .int .u64 0]), 4, 32) := by kernel_rfl
theorem nums_cells : ∀ xs : List Nat, ∀ u ∈ nums xs, u.oneCell' = true := fun xs u hu => by
  unfold nums at hu
  obtain ⟨x, _, hx⟩ := List.mem_flatMap.1 hu
  simp [limbs] at hx
  rcases hx with rfl | rfl | rfl | rfl <;> rfl
theorem NumsAt.news {w : World} {g off : Nat} {xs : List Nat} (h : NumsAt w g off xs) : ∀ j u, (nums xs)[j]? = some u → w.cell? ((⟨g, off, none⟩ : Addr).add j) = some u := by
  intro j u hj
  have hjl : j < xs.length * 4 := by
    have := (List.getElem?_eq_some_iff.1 hj).1
    rw [nums_len] at this; exact this
  obtain ⟨t, i, rfl, hi⟩ : ∃ t i, j = t * 4 + i ∧ i < 4 := ⟨j / 4, j % 4, by omega, by omega⟩
  have ht : t < xs.length := by omega
  obtain ⟨_, e0, e1, e2, e3⟩ := h t xs[t] (List.getElem?_eq_getElem ht)
  rw [nums_get xs t xs[t] (List.getElem?_eq_getElem ht) i hi] at hj
  have ha : (⟨g, off, none⟩ : Addr).add (t * 4 + i) = ⟨g, off + (t * 4 + i), none⟩ := by unfold Addr.add; split <;> simp_all
  rw [ha]
  cases hj
  match i, hi with
  | 0, _ => exact e0
  | 1, _ => exact e1
  | 2, _ => exact e2
  | 3, _ => exact e3
set_option maxRecDepth 100000 in
set_option maxHeartbeats 1000000 in
theorem clone_any (v : Value) (xs : List Nat) (w : World) (hS : NumSl w v xs) (hl : xs.length < 1000000) : Calls Tryd.prog 111 #[v] w (RetOwn 29 4 xs.length (nums xs) w) := by
  obtain ⟨i0, hi, hz0, hz1, hz2⟩ := info_parts info_ce
  obtain ⟨a, cap, rfl, hc, hrow⟩ := hS
  have qT : ∀ (w : World) (a : Option Addr) (n c n' c' : Nat), (binOp .eql 34 (.slice a n c) (.slice none n' c')).run Tryd.prog w = .ok (.bool a.isNone) w := fun w a n c n' c' => Lib.run_eql_slice_nil w _ _ a n c n' c' Tryd.underlying34
  obtain ⟨n, hn⟩ : ∃ n, xs.length = n := ⟨_, rfl⟩
  rw [hn] at hl ⊢
  have HN := hid hn
  clear hc
  cases a with
  | none =>
    have h0 : xs = [] := by
      rcases hrow with h | ⟨g, off, h, _⟩
      · exact h
      · cases h
    have HX := hid h0
    clear hrow
    go_enter Tryd.func111, Tryd.ntmps111
    go_wp2
    go_ret
    refine ⟨_, rfl, ?_, Below.refl _ _⟩
    rw [HX.out, ← HN.out, HX.out]
    exact ⟨rfl, .inl ⟨rfl, rfl⟩⟩
  | some ad =>
    have hnews : ∀ j u, (nums xs)[j]? = some u → (w.alloc (.cells #[] 29)).cell? (ad.add j) = some u := by
      rcases hrow with h | ⟨g, off, h, he⟩
      · intro j u hj; rw [h] at hj; cases hj
      · cases h; exact (he.below ((Below.refl _ w).alloc (Nat.le_refl _) (.cells #[] 29))).news
    have hnl : (nums xs).length = n * 4 := by rw [nums_len, hn]
    have HNW := hid hnews
    have HNL := hid hnl
    clear hnews hnl hrow hn
    go_enter Tryd.func111, Tryd.ntmps111
    have OWN : (w.alloc (.cells #[] 29)).ownsRow w.heap.size 29 4 (.slice (some ⟨w.heap.size, 0, none⟩) 0 0) 0 [] := ⟨rfl, .inr ⟨w.heap.size, 0, #[], rfl, Nat.le_refl _, (Blk.new (w := w) (xs := []) (t := 29) rfl : Blk _ w.heap.size 29 []), Nat.le_refl _, by unfold maxLen; omega, rfl, rfl⟩⟩
    go_wp2_with (at_builtin; refine wpList_append_own_at _ rfl _ _ 34 rfl w.heap.size 29 i0 _ 4 32 Tryd.underlying34 hi hz0 hz1 hz2 rfl (by decide) _ 0 [] rfl OWN ad n cap (nums xs) rfl HNL.out HNW.out (nums_cells xs) (by unfold maxLen; omega) (by omega) (by simp) ?_; intro v1 w1 ho1 hg1 _ _)
    go_ret
    have B1 := Below.grown (((Below.refl w.heap.size w).alloc (Nat.le_refl _) (.cells #[] 29))) hg1 (by simp) (fun j hj => by cases hj; exact Nat.le_refl _)
    refine ⟨_, rfl, ?_, B1⟩
    rw [Nat.zero_add, List.nil_append] at ho1
    exact ho1
end Go.Proofs.YtogenbggjodcnaaDoor
