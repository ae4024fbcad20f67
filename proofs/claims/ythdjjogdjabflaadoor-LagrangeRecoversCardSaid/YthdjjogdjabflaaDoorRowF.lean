/-
  Rows of elements that were made and are stored into: what lies in them, what stays.
-/
import Derived.Test.YthdjjogdjabflaaDoorPolys
import Derived.Test.YthdjjogdjabflaaDoorKit
import Derived.Test.YthdjjogdjabflaaDoorSet4
import Derived.OwnWalk
namespace Go.Proofs.YthdjjogdjabflaaDoor
open Go.RowKit Go.Shelf

theorem info_r9 : (Tryd.prog.info? 30).map (fun i => (i.zero, i.size, i.bytes)) = some (some (.agg #[.int .u64 0, .int .u64 0, .int .u64 0, .int .u64 0]), 4, 32) := by kernel_rfl
/-- The block g is a made row of the n numbers f 0, f 1, ... -/
def RowF (w : World) (base : Nat) (t : TypeId) (g n c : Nat) (f : Nat → Nat) : Prop := ∃ ys, w.ownsRow base t 4 (.slice (some ⟨g, 0, none⟩) n c) n ys ∧ FRow n f ys
section
variable {w w' : World} {base g n c : Nat} {t : TypeId} {f : Nat → Nat}
theorem RowF.keep (h : RowF w base t g n c f) (hb : Below w.heap.size w w') : RowF w' base t g n c f := by
  obtain ⟨ys, h1, h2⟩ := h
  exact ⟨ys, owns_keep h1 hb, h2⟩
theorem RowF.mono {b' : Nat} (h : RowF w base t g n c f) (hb : b' ≤ base) : RowF w b' t g n c f := by
  obtain ⟨ys, h1, h2⟩ := h
  exact ⟨ys, owns_mono h1 hb, h2⟩
theorem RowF.lt (h : RowF w base t g n c f) : g < w.heap.size := by obtain ⟨ys, h1, h2⟩ := h; exact (h1.lt _ rfl).2
theorem RowF.ge (h : RowF w base t g n c f) : base ≤ g := by obtain ⟨ys, h1, h2⟩ := h; exact (h1.lt _ rfl).1
theorem RowF.congr {f' : Nat → Nat} (h : RowF w base t g n c f) (e : ∀ t, t < n → f' t = f t) : RowF w base t g n c f' := by
  obtain ⟨ys, h1, h2⟩ := h
  exact ⟨ys, h1, h2.congr e⟩
theorem RowF.other {F : Nat → Prop} (h : RowF w base t g n c f) (o : Only F w w') (hF : ¬ F g) : RowF w' base t g n c f := by
  obtain ⟨ys, h1, h2⟩ := h
  exact ⟨ys, owns_only h1 o (fun k hk => by cases hk; exact hF), h2⟩
theorem RowF.cells {i v : Nat} (h : RowF w base t g n c f) (hi : i < n) (hv : f i = v) : w.cell? ⟨g, i * 4, none⟩ = some (.int .u64 (limb v 0 : Int)) ∧ w.cell? ⟨g, i * 4 + 1, none⟩ = some (.int .u64 (limb v 1 : Int)) ∧ w.cell? ⟨g, i * 4 + 2, none⟩ = some (.int .u64 (limb v 2 : Int)) ∧ w.cell? ⟨g, i * 4 + 3, none⟩ = some (.int .u64 (limb v 3 : Int)) := by
  obtain ⟨ys, h1, h2⟩ := h
  subst hv
  exact ⟨(h1.cellAt (i * 4) (by omega)).trans (h2.2 i 0 hi (by omega)), (h1.cellAt (i * 4 + 1) (by omega)).trans (h2.2 i 1 hi (by omega)), (h1.cellAt (i * 4 + 2) (by omega)).trans (h2.2 i 2 hi (by omega)), (h1.cellAt (i * 4 + 3) (by omega)).trans (h2.2 i 3 hi (by omega))⟩
theorem RowF.frozen (h : RowF w base t g n c f) (o : Nat) : w.frozen? ⟨g, o, none⟩ = false := by
  obtain ⟨ys, h1, h2⟩ := h
  exact h1.frozenAt o
/-- A store of the number r at i. -/
theorem RowF.store {i : Nat} (h : RowF w base t g n c f) (hi : i < n) (r : Nat) : RowF ((((w.setCell ⟨g, i * 4, none⟩ (.int .u64 (limb r 0 : Int))).setCell ⟨g, i * 4 + 1, none⟩ (.int .u64 (limb r 1 : Int))).setCell ⟨g, i * 4 + 2, none⟩ (.int .u64 (limb r 2 : Int))).setCell ⟨g, i * 4 + 3, none⟩ (.int .u64 (limb r 3 : Int))) base t g n c (fun u => if u = i then r else f u) := by
  obtain ⟨ys, h1, h2⟩ := h
  exact ⟨_, ((((h1.stored (i * 4) _).1.stored (i * 4 + 1) _).1.stored (i * 4 + 2) _).1.stored (i * 4 + 3) _).1, h2.store hi r (fun _ _ => rfl)⟩
theorem only_row (w : World) (g i : Nat) (v0 v1 v2 v3 : Value) : Only (fun k => k = g) w ((((w.setCell ⟨g, i * 4, none⟩ v0).setCell ⟨g, i * 4 + 1, none⟩ v1).setCell ⟨g, i * 4 + 2, none⟩ v2).setCell ⟨g, i * 4 + 3, none⟩ v3) :=
  (((((Only.refl (fun k => k = g) w).setCell (p := ⟨g, i * 4, none⟩) (.inl rfl) v0).setCell (p := ⟨g, i * 4 + 1, none⟩) (.inl rfl) v1).setCell (p := ⟨g, i * 4 + 2, none⟩) (.inl rfl) v2).setCell (p := ⟨g, i * 4 + 3, none⟩) (.inl rfl) v3)
theorem RowF.own (h : RowF w base t g n c f) : w.ownsRow base t 4 (.slice (some ⟨g, 0, none⟩) n c) n (nums ((List.range n).map f)) := by
  obtain ⟨ys, h1, h2⟩ := h
  rw [← h2.done]; exact h1
theorem RowF.ownl {xs : List Nat} (h : RowF w base t g n c f) (hn : xs.length = n) (hf : ∀ i, i < n → f i = xs.getD i 0) : w.ownsRow base t 4 (.slice (some ⟨g, 0, none⟩) n c) n (nums xs) := by
  have e : (List.range n).map f = xs := by
    refine List.ext_getElem? fun k => ?_
    rw [List.getElem?_map]
    by_cases hk : k < n
    · rw [List.getElem?_range hk, Option.map_some, hf k hk, List.getD_eq_getElem?_getD, List.getElem?_eq_getElem (by omega)]; rfl
    · rw [List.getElem?_eq_none (by simp; omega), List.getElem?_eq_none (by omega)]; rfl
  have := h.own
  rw [e] at this
  exact this
theorem RowF.sl {xs : List Nat} (h : RowF w base t g n c f) (hn : xs.length = n) (hf : ∀ i, i < n → f i = xs.getD i 0) (hp : ∀ x ∈ xs, x < B256) : NumSl w (.slice (some ⟨g, 0, none⟩) n c) xs := by
  have := h.ownl hn hf
  rw [← hn] at this ⊢
  exact nums_own this hp
/-- A row out of an owned slice. -/
theorem RowF.of {v : Value} {xs : List Nat} (h : w.ownsRow base t 4 v n (nums xs)) (hn : xs.length = n) (h0 : 0 < n) : ∃ g c, v = .slice (some ⟨g, 0, none⟩) n c ∧ RowF w base t g n c (fun i => xs.getD i 0) := by
  obtain ⟨a, c, rfl, _, _, hg⟩ := owns_form h
  obtain ⟨g, rfl⟩ := hg h0
  exact ⟨g, c, rfl, _, h, hn ▸ FRow.of xs⟩
end
/-- It returns a new row. -/
def RetRow (t : TypeId) (n : Nat) (f : Nat → Nat) (w : World) : Ending → World → Prop := fun e w' => ∃ g, e = .returned (.slice (some ⟨g, 0, none⟩) n n) ∧ RowF w' w.heap.size t g n n f ∧ Below w.heap.size w w'
set_option maxRecDepth 100000 in
/-- A row is made: all zero. -/
theorem run_made (w : World) (n : Nat) (hn : n < 1000000) : ∃ wq, (Instr.makeSlice 35 (.int .i64 (n : Int)) (.int .i64 (n : Int))).run Tryd.prog w = .ok (.slice (some ⟨w.heap.size, 0, none⟩) n n) wq ∧ RowF wq w.heap.size 30 w.heap.size n n (fun _ => 0) ∧ w.grownBy wq none := by
  obtain ⟨i0, hi, hz0, hz1, hz2⟩ := info_parts info_r9
  obtain ⟨wq, hmk, hoq, hgq⟩ := run_make_full (P := Tryd.prog) w w.heap.size 35 30 i0 _ 4 Tryd.underlying35 hi hz0 hz1 .i64 .i64 n (by rw [hz2]; omega) (by unfold maxLen; omega) (Nat.le_refl _)
  exact ⟨wq, hmk, ⟨_, hoq, FRow.zero n _ (by rw [Array.length_toList]; exact size_madeCells _ _) (fun j i hj hi => made_zeros n j i hj hi)⟩, hgq⟩
end Go.Proofs.YthdjjogdjabflaaDoor
