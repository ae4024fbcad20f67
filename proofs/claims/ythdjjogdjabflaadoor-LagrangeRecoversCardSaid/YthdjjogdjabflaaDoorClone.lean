/-
  slices.Clone of elements.
-/
import Derived.Test.YthdjjogdjabflaaDoorKit
import Derived.Maps.AppendAt
import Derived.Lib.SliceRun
import Derived.OwnWalk
namespace Go.Proofs.YthdjjogdjabflaaDoor
open Go.RowKit

theorem info_ce : (Tryd.prog.info? 30).map (fun i => (i.zero, i.size, i.bytes)) = some (some (.agg #[.int .u64 0, .int .u64 0, .int .u64 0, .int .u64 0]), 4, 32) := by kernel_rfl
theorem nums_cells : ∀ xs : List Nat, ∀ u ∈ nums xs, u.oneCell' = true := fun xs u hu => by
  unfold nums at hu
  obtain ⟨x, _, hx⟩ := List.mem_flatMap.1 hu
  simp [limbs] at hx
  rcases hx with rfl | rfl | rfl | rfl <;> rfl
theorem NumsAt.news {w : World} {g off : Nat} {xs : List Nat} (h : NumsAt w g off xs) : ∀ j u, (nums xs)[j]? = some u → w.cell? ((⟨g, off, none⟩ : Addr).add j) = some u := by
  intro j u hj
  have hjl : j < xs.length * 4 := by
    have := (List.getElem?_eq_some_iff.1 hj).1
    rw [nums_len] at this; exact this
  obtain ⟨t, i, rfl, hi⟩ : ∃ t i, j = t * 4 + i ∧ i < 4 := ⟨j / 4, j % 4, by omega, by omega⟩
  have ht : t < xs.length := by omega
  obtain ⟨_, e0, e1, e2, e3⟩ := h t xs[t] (List.getElem?_eq_getElem ht)
  rw [nums_get xs t xs[t] (List.getElem?_eq_getElem ht) i hi] at hj
  have ha : (⟨g, off, none⟩ : Addr).add (t * 4 + i) = ⟨g, off + (t * 4 + i), none⟩ := by unfold Addr.add; split <;> simp_all
  rw [ha]
  cases hj
  match i, hi with
  | 0, _ => exact e0
  | 1, _ => exact e1
  | 2, _ => exact e2
  | 3, _ => exact e3
end Go.Proofs.YthdjjogdjabflaaDoor
