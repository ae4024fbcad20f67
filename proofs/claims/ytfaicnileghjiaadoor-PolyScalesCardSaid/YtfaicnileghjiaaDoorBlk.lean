import Derived.Test.YtfaicnileghjiaaDoorRows
import Derived.Test.YtfaicnileghjiaaDoorNum
import Derived.WalkKit
import Derived.WalkSpells
import Derived.WalkLawsBesides
import Derived.Handy
namespace Go.Proofs.YtfaicnileghjiaaDoor
open Go.RowKit

/-- Behind a name the walk does not look. -/
theorem hid {p : Prop} (h : p) : Hid p := h

/-- It returns v; nothing that was there has turned. -/
def Ret (v : Value) (w : World) : Ending → World → Prop := fun e w' => e = .returned v ∧ Below w.heap.size w w'

/-- Block b holds just the cells xs, of the type t; none is frozen. -/
def Blk (w : World) (b : Nat) (t : TypeId) (xs : List Value) : Prop := w.heap[b]? = some (.cells xs.toArray t (0, 0))

section
variable {w w' : World} {b B : Nat} {t : TypeId} {xs : List Value}
theorem Blk.news (h : Blk w b t xs) : ∀ j u, xs[j]? = some u → w.cell? ((⟨b, 0, none⟩ : Addr).add j) = some u := by
  intro j u hj
  unfold Blk at h
  by_cases e : j = 0
  · subst e; simp [Addr.add, World.cell?, h, hj]
  · simp [Addr.add, e, World.cell?, h, hj]
theorem Blk.lt (h : Blk w b t xs) : b < w.heap.size := lt_of_block h
theorem Blk.cell (h : Blk w b t xs) {i : Nat} {v : Value} (hi : xs[i]? = some v) : w.cell? ⟨b, i, none⟩ = some v := by
  unfold Blk at h; simp [World.cell?, h, hi]
theorem Blk.frozen (h : Blk w b t xs) (i : Nat) : w.frozen? ⟨b, i, none⟩ = false := by
  unfold Blk at h; simp [World.frozen?, h]
theorem Blk.new (h : w.heap.size = b) : Blk (w.alloc (.cells xs.toArray t)) b t xs := by
  subst h; unfold Blk; show (w.heap.push _)[w.heap.size]? = _; simp
theorem Blk.alloc (h : Blk w b t xs) (o : Obj) : Blk (w.alloc o) b t xs := by
  unfold Blk at *; rw [Below.heap_alloc w o b (lt_of_block h)]; exact h
theorem Blk.drew (h : Blk w b t xs) : Blk w.drew b t xs := h
theorem Blk.set (h : Blk w b t xs) (i : Nat) (v : Value) : Blk (w.setCell ⟨b, i, none⟩ v) b t (xs.set i v) := by
  unfold Blk at *
  have hlt := lt_of_block h
  have h' : w.heap[b] = .cells xs.toArray t (0, 0) := by simpa [Array.getElem?_eq_getElem hlt] using h
  show (w.heap.modify b _)[b]? = _
  rw [Array.getElem?_eq_getElem (by simpa using hlt), Array.getElem_modify_self, h']
  simp
theorem Blk.other (h : Blk w b t xs) (a : Addr) (v : Value) (hne : b ≠ a.block) : Blk (w.setCell a v) b t xs := by
  unfold Blk at *; rw [Below.heap_setCell w a v b hne]; exact h
theorem Blk.below (h : Blk w b t xs) (hb : Below B w w') (hlt : b < B) : Blk w' b t xs := by
  unfold Blk at *; rw [hb.block b hlt]; exact h
theorem Blk.set4 {x0 x1 x2 x3 : Value} (h : Blk w b t [x0, x1, x2, x3]) (v0 v1 v2 v3 : Value) :
    Blk ((((w.setCell ⟨b, 0, none⟩ v0).setCell ⟨b, 1, none⟩ v1).setCell ⟨b, 2, none⟩ v2).setCell ⟨b, 3, none⟩ v3) b t [v0, v1, v2, v3] :=
  (((h.set 0 v0).set 1 v1).set 2 v2).set 3 v3
theorem Blk.other4 (h : Blk w b t xs) {c : Nat} (hne : b ≠ c) (v0 v1 v2 v3 : Value) :
    Blk ((((w.setCell ⟨c, 0, none⟩ v0).setCell ⟨c, 1, none⟩ v1).setCell ⟨c, 2, none⟩ v2).setCell ⟨c, 3, none⟩ v3) b t xs :=
  (((h.other _ _ hne).other _ _ hne).other _ _ hne).other _ _ hne
/-- Behind a call that turned nothing that was there. -/
theorem Blk.keep (h : Blk w b t xs) (hb : Below w.heap.size w w') : Blk w' b t xs := h.below hb h.lt
theorem Below.call {w W w' : World} (h : Below w.heap.size w W) (hb : Below W.heap.size W w') : Below w.heap.size w w' := h.trans (hb.mono h.size)
theorem Below.drewN' {w w' : World} {B : Nat} (h : Below B w w') (n : Nat) : Below B w (w'.drewN n) := ⟨h.os, h.tape, h.output, h.size, h.block⟩
end
/-- Behind a call that turned nothing that was there: what is owned stays owned. -/
theorem owns_keep {w w' : World} {base : Nat} {e : TypeId} {size n : Nat} {v : Value} {xs : List Value} (h : w.ownsRow base e size v n xs) (hb : Below w.heap.size w w') : w'.ownsRow base e size v n xs := by
  obtain ⟨h1, h2⟩ := h
  refine ⟨h1, ?_⟩
  rcases h2 with h2 | ⟨g, cap, cur, hv, hg, hh, r⟩
  · exact .inl h2
  · exact .inr ⟨g, cap, cur, hv, hg, by rw [hb.block g (lt_of_block hh)]; exact hh, r⟩
theorem owns_mono {w : World} {base base' : Nat} {e : TypeId} {size n : Nat} {v : Value} {xs : List Value} (h : w.ownsRow base e size v n xs) (hb : base' ≤ base) : w.ownsRow base' e size v n xs := by
  obtain ⟨h1, h2⟩ := h
  refine ⟨h1, ?_⟩
  rcases h2 with h2 | ⟨g, cap, cur, hv, hg, r⟩
  · exact .inl h2
  · exact .inr ⟨g, cap, cur, hv, Nat.le_trans hb hg, r⟩
/-- Behind an append or a make: a block that is not the row's. -/
theorem Blk.grown {w w' : World} {b : Nat} {t : TypeId} {xs : List Value} {row : Option Nat} (h : Blk w b t xs) (hg : w.grownBy w' row) (hne : some b ≠ row) : Blk w' b t xs := by
  unfold Blk at *; rw [hg.block b (lt_of_block h) hne]; exact h
/-- A row that is owned, as a block: the elements, then what is spare. -/
theorem owns_blk {w : World} {base : Nat} {e : TypeId} {size n : Nat} {v : Value} {xs : List Value} (h : w.ownsRow base e size v n xs) (hn : 0 < n) :
    ∃ g cap rest, v = .slice (some ⟨g, 0, none⟩) n cap ∧ base ≤ g ∧ n ≤ cap ∧ Blk w g e (xs ++ rest) := by
  obtain ⟨_, ⟨_, h0⟩ | ⟨g, cap, cur, hv, hg, hh, hc, _, _, hx⟩⟩ := h
  · omega
  · exact ⟨g, cap, cur.toList.drop (n * size), hv, hg, hc, by unfold Blk; rw [hh, ← hx, List.take_append_drop]⟩
/-- Behind a call that turned nothing that was there: the old cells read as they did. -/
theorem bcell {W w1 : World} (hb : Below W.heap.size W w1) : ∀ b o, b < W.heap.size → w1.cell? ⟨b, o, none⟩ = W.cell? ⟨b, o, none⟩ := fun _ _ h => hb.cell h
/-- It returns a new slice of the elements xs; nothing that was there has turned. -/
def RetOwn (t : TypeId) (size n : Nat) (xs : List Value) (w : World) : Ending → World → Prop := fun e w' => ∃ v, e = .returned v ∧ w'.ownsRow w.heap.size t size v n xs ∧ Below w.heap.size w w'
/-- The words of a number, as a block's cells. -/
noncomputable abbrev limbs (n : Nat) : List Value := [.int .u64 (limb n 0 : Int), .int .u64 (limb n 1 : Int), .int .u64 (limb n 2 : Int), .int .u64 (limb n 3 : Int)]
theorem limbs_get (n : Nat) {k : Nat} (hk : k < 4) : (limbs n)[k]? = some (.int .u64 (limb n k : Int)) := by
  match k, hk with
  | 0, _ => rfl
  | 1, _ => rfl
  | 2, _ => rfl
  | 3, _ => rfl
/-- What stands in a row behind a store at k. -/
theorem row_set {o : List Value} {k n : Nat} {u : Value} {f : Nat → Value} (hj : ∀ j, j < k → o[j]? = some (f j)) (ho : o.length = n) (hk : k < n) (hu : u = f k) : ∀ j, j < k + 1 → (o.set k u)[j]? = some (f j) := by
  intro j h
  by_cases e : j = k
  · subst e hu; rw [List.getElem?_set_self (by omega)]
  · rw [List.getElem?_set_ne (Ne.symm e)]; exact hj j (by omega)
theorem row_four {o : List Value} {f : Nat → Value} (hj : ∀ j, j < 4 → o[j]? = some (f j)) (ho : o.length = 4) : o = [f 0, f 1, f 2, f 3] := by
  match o, ho with
  | [o0, o1, o2, o3], _ =>
    have e0 := hj 0 (by omega)
    have e1 := hj 1 (by omega)
    have e2 := hj 2 (by omega)
    have e3 := hj 3 (by omega)
    simp at e0 e1 e2 e3
    rw [e0, e1, e2, e3]
end Go.Proofs.YtfaicnileghjiaaDoor
