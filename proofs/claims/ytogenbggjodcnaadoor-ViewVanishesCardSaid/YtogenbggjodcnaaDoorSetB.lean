/-
  Stores of four words, regions, slices of slices.
-/
import Derived.Test.YtogenbggjodcnaaDoorKit
import Derived.Deep.RegionHeld3
import Derived.Deep.DeepCutAuto
import Derived.OwnWalk
/-
  A store of four cells: what stays.
-/
namespace Go.Proofs.YtogenbggjodcnaaDoor
open Go.RowKit

theorem only_set4 (W : World) (c : Nat) (v0 v1 v2 v3 : Value) : Only (fun k => k = c) W ((((W.setCell ⟨c, 0, none⟩ v0).setCell ⟨c, 1, none⟩ v1).setCell ⟨c, 2, none⟩ v2).setCell ⟨c, 3, none⟩ v3) :=
  (((((Only.refl (fun k => k = c) W).setCell (p := ⟨c, 0, none⟩) (.inl rfl) v0).setCell (p := ⟨c, 1, none⟩) (.inl rfl) v1).setCell (p := ⟨c, 2, none⟩) (.inl rfl) v2).setCell (p := ⟨c, 3, none⟩) (.inl rfl) v3)
theorem below_set4 {n : Nat} {A W : World} (h : Below n A W) {c : Nat} (hc : n ≤ c) (v0 v1 v2 v3 : Value) : Below n A ((((W.setCell ⟨c, 0, none⟩ v0).setCell ⟨c, 1, none⟩ v1).setCell ⟨c, 2, none⟩ v2).setCell ⟨c, 3, none⟩ v3) :=
  ((((h.setCell (p := ⟨c, 0, none⟩) hc v0).setCell (p := ⟨c, 1, none⟩) hc v1).setCell (p := ⟨c, 2, none⟩) hc v2).setCell (p := ⟨c, 3, none⟩) hc v3)
theorem limbs_0 : limbs 0 = [.int .u64 0, .int .u64 0, .int .u64 0, .int .u64 0] := by
  have e : ∀ i, limb 0 i = 0 := fun i => by rw [limb_eq]; simp
  show [Value.int .u64 (limb 0 0 : Int), .int .u64 (limb 0 1 : Int), .int .u64 (limb 0 2 : Int), .int .u64 (limb 0 3 : Int)] = _
  rw [e, e, e, e]; rfl
end Go.Proofs.YtogenbggjodcnaaDoor
/-
  For drawn regions with blocks that are made in them.
-/
namespace Go.Proofs.YtogenbggjodcnaaDoor
open Go.RowKit
/-- A block that is made where a world stands that grew out of another. -/
theorem newblk_of {n : Nat} {A W : World} (_h : Below n A W) (xs : List Value) (t : TypeId) : Blk (W.alloc (.cells xs.toArray t)) W.heap.size t xs := Blk.new rfl
theorem blk_to {w w' : World} {b : Nat} {t : TypeId} {xs : List Value} (e : w = w') (h : Blk w b t xs) : Blk w' b t xs := e ▸ h
theorem below_to {n : Nat} {a w w' : World} (e : w = w') (h : Below n a w) : Below n a w' := e ▸ h
end Go.Proofs.YtogenbggjodcnaaDoor
/-
  Slices of slices of elements: how they lie, what stays.
-/
namespace Go.Proofs.YtogenbggjodcnaaDoor
open Go.RowKit

/-- The slices rs lie from an address on: each cell holds the slice r.1 of the numbers r.2. -/
def SlsAt (w : World) (g off : Nat) (rs : List (Value × List Nat)) : Prop := ∀ j r, rs[j]? = some r → w.cell? ⟨g, off + j, none⟩ = some r.1 ∧ NumSl w r.1 r.2
/-- A slice of slices. -/
def SlsSl (w : World) (v : Value) (rs : List (Value × List Nat)) : Prop := ∃ a cap, v = .slice a rs.length cap ∧ rs.length ≤ cap ∧ (rs = [] ∨ ∃ g off, a = some ⟨g, off, none⟩ ∧ SlsAt w g off rs)
section
variable {w w' : World} {v : Value} {rs : List (Value × List Nat)}
theorem SlsSl.below (h : SlsSl w v rs) (hb : Below w.heap.size w w') : SlsSl w' v rs := by
  obtain ⟨a, cap, hv, hc, h0 | ⟨g, off, ha, he⟩⟩ := h
  · exact ⟨a, cap, hv, hc, .inl h0⟩
  · exact ⟨a, cap, hv, hc, .inr ⟨g, off, ha, fun j r hj => ⟨(hb.cell (World.block_lt_of_cell? w _ (he j r hj).1)).trans (he j r hj).1, (he j r hj).2.below hb⟩⟩⟩
theorem SlsSl.at {a : Option Addr} {n c k : Nat} {r : Value × List Nat} (h : SlsSl w (.slice a n c) rs) (hr : rs[k]? = some r) : ∃ g off, a = some ⟨g, off, none⟩ ∧ g < w.heap.size ∧ w.cell? ⟨g, off + k, none⟩ = some r.1 ∧ NumSl w r.1 r.2 := by
  obtain ⟨a', cap, hv, _, h0 | ⟨g, off, ha, he⟩⟩ := h
  · rw [h0] at hr; cases hr
  · cases hv
    exact ⟨g, off, ha, World.block_lt_of_cell? w _ (he k r hr).1, (he k r hr).1, (he k r hr).2⟩
theorem SlsSl.nil (w : World) : SlsSl w (.slice none 0 0) [] := ⟨none, 0, rfl, Nat.le_refl _, .inl rfl⟩
/-- An owned row of slices. -/
theorem SlsSl.own {base : Nat} {t : TypeId} (h : w.ownsRow base t 1 v rs.length (rs.map (·.1))) (hn : ∀ r ∈ rs, NumSl w r.1 r.2) : SlsSl w v rs := by
  obtain ⟨a, c, rfl, hc, _, hg⟩ := owns_form h
  refine ⟨a, c, rfl, hc, ?_⟩
  by_cases h0 : rs = []
  · exact .inl h0
  · obtain ⟨g, rfl⟩ := hg (List.length_pos_iff.2 h0)
    refine .inr ⟨g, 0, rfl, fun j r hj => ⟨?_, hn r (List.mem_of_getElem? hj)⟩⟩
    have hjl := (List.getElem?_eq_some_iff.1 hj).1
    rw [Nat.zero_add]
    exact (h.cellAt j (by omega)).trans (by rw [List.getElem?_map, hj]; rfl)
theorem SlsSl.len {a : Option Addr} {n c : Nat} (h : SlsSl w (.slice a n c) rs) : rs.length = n := by
  obtain ⟨a', cap, hv, _⟩ := h
  cases hv; rfl
end
end Go.Proofs.YtogenbggjodcnaaDoor
