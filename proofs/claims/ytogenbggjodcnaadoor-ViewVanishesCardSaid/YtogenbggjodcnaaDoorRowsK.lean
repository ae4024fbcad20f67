/-
  Rows of rows of elements that were made: what stays of them.
-/
import Derived.Test.YtogenbggjodcnaaDoorSetB
import Derived.Test.YtogenbggjodcnaaDoorGetB
import Derived.Test.YtogenbggjodcnaaDoorLagA
namespace Go.Proofs.YtogenbggjodcnaaDoor
open Go.RowKit

theorem info_s6 : (Tryd.prog.info? 34).map (fun i => (i.zero, i.size, i.bytes)) = some (some (.slice none 0 0), 1, 24) := by kernel_rfl
/-- The slices are rows of elements that were made. -/
def RowsOk (w : World) (base : Nat) (rs : List (Value × List Nat)) : Prop := ∀ r ∈ rs, w.ownsRow base 29 4 r.1 r.2.length (nums r.2)
section
variable {w w' : World} {base : Nat} {rs : List (Value × List Nat)}
theorem RowsOk.below (h : RowsOk w base rs) (hb : Below w.heap.size w w') : RowsOk w' base rs := fun r hr => owns_keep (h r hr) hb
theorem RowsOk.sls {v : Value} (h : RowsOk w base rs) (ho : w.ownsRow base 34 1 v rs.length (rs.map (·.1))) (hp : ∀ r ∈ rs, ∀ y ∈ r.2, y < B256) : SlsSl w v rs := SlsSl.own ho (fun r hr => nums_own (h r hr) (hp r hr))
theorem RowsOk.grown {v : Value} {n : Nat} {zs : List Value} (h : RowsOk w base rs) (ho : w.ownsRow base 34 1 v n zs) (hg : w.grownBy w' v.ownBlock) : RowsOk w' base rs := fun r hr => (h r hr).kept hg (owns_apart (h r hr) ho (by decide))
theorem RowsOk.snoc {r : Value × List Nat} (h : RowsOk w base rs) (hr : w.ownsRow base 29 4 r.1 r.2.length (nums r.2)) : RowsOk w base (rs ++ [r]) := fun x hx => by
  rcases List.mem_append.1 hx with h9 | h9
  · exact h x h9
  · rw [List.mem_singleton.1 h9]; exact hr
theorem own_apart {b1 b2 n c n2 g : Nat} {v : Value} {x1 x2 : List Value} (h : w.ownsRow b1 29 4 v n x1) (k : w.ownsRow b2 34 1 (.slice (some ⟨g, 0, none⟩) n2 c) n2 x2) : ∀ j, v.ownBlock = some j → ¬ j = g := fun j hj e => by
  subst e
  rcases owns_apart h k (by decide) with h1 | h1
  · rw [hj] at h1; cases h1
  · exact h1 hj
theorem RowsOk.store {b2 n c g : Nat} {zs : List Value} (h : RowsOk w base rs) (ho : w.ownsRow b2 34 1 (.slice (some ⟨g, 0, none⟩) n c) n zs) (O : Only (fun q => q = g) w w') : RowsOk w' base rs := fun r hr => owns_only (h r hr) O (own_apart (h r hr) ho)
end
theorem Only.cellEq {F : Nat → Prop} {A B : World} (h : Only F A B) {b : Nat} (o : Nat) (hb : b < A.heap.size) (hF : ¬ F b) : B.cell? ⟨b, o, none⟩ = A.cell? ⟨b, o, none⟩ := by
  have e := Array.getElem?_eq_getElem hb
  exact World.cell?_of_block ((h.block b _ e (.inl hF)).trans e.symm)
theorem take_set {zs ys : List Value} {k : Nat} {v : Value} (h : zs.take k = ys) (hk : k < zs.length) : (zs.set k v).take (k + 1) = ys ++ [v] := by
  rw [take_next (l := zs.set k v) (k := k) (x := v) (by simp [hk]), ← h, List.take_set_of_le (Nat.le_refl k)]
theorem run_mades (w : World) (n : Nat) (hn : n < 1000000) : ∃ wq zs, (Instr.makeSlice 44 (.int .i64 (n : Int)) (.int .i64 (n : Int))).run Tryd.prog w = .ok (.slice (some ⟨w.heap.size, 0, none⟩) n n) wq ∧ wq.ownsRow w.heap.size 34 1 (.slice (some ⟨w.heap.size, 0, none⟩) n n) n zs ∧ w.grownBy wq none := by
  obtain ⟨i0, hi, hz0, hz1, hz2⟩ := info_parts info_s6
  obtain ⟨wq, hmk, hoq, hgq⟩ := run_make_full (P := Tryd.prog) w w.heap.size 44 34 i0 _ 1 Tryd.underlying44 hi hz0 hz1 .i64 .i64 n (by rw [hz2]; omega) (by unfold maxLen; omega) (Nat.le_refl _)
  exact ⟨wq, _, hmk, hoq, hgq⟩
theorem owns_len {w : World} {base n : Nat} {e : TypeId} {v : Value} {xs : List Value} (h : w.ownsRow base e 1 v n xs) : xs.length = n := by have := h.1; omega
end Go.Proofs.YtogenbggjodcnaaDoor
