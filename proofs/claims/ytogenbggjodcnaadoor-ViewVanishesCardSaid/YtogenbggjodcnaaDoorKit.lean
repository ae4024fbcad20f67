/-
  Blocks of memory, slices of numbers, regions and iterators: words and laws for the walks.
-/
import Derived.Test.YtogenbggjodcnaaDoorRows
import Derived.Test.YtogenbggjodcnaaDoorPlainN
import Derived.WalkKit
import Derived.WalkSpells
import Derived.WalkLawsBesides
import Derived.Handy
import Derived.RangeFuncNested
import Derived.RangeFuncBound
import Derived.RangeFuncCalls
import Derived.RangeFuncLeaves
import Derived.Deep.Quiet
import Derived.OrdersIn
import Derived.AtR
import Derived.OwnWalkIn
import Derived.StillTail
import Derived.Laws.OwnMore
import Derived.Laws.AppendOwn
namespace Go.Proofs.YtogenbggjodcnaaDoor
open Go.RowKit

/-- Behind a name the walk does not look. -/
theorem hid {p : Prop} (h : p) : Hid p := h

/-- It returns v; nothing that was there has turned. -/
def Ret (v : Value) (w : World) : Ending → World → Prop := fun e w' => e = .returned v ∧ Below w.heap.size w w'

/-- Block b holds just the cells xs, of the type t; none is frozen. -/
def Blk (w : World) (b : Nat) (t : TypeId) (xs : List Value) : Prop := w.heap[b]? = some (.cells xs.toArray t (0, 0))

section
variable {w w' : World} {b B : Nat} {t : TypeId} {xs : List Value}
theorem Blk.news (h : Blk w b t xs) : ∀ j u, xs[j]? = some u → w.cell? ((⟨b, 0, none⟩ : Addr).add j) = some u := by
  intro j u hj
  unfold Blk at h
  by_cases e : j = 0
  · subst e; simp [Addr.add, World.cell?, h, hj]
  · simp [Addr.add, e, World.cell?, h, hj]
theorem Blk.lt (h : Blk w b t xs) : b < w.heap.size := lt_of_block h
theorem Blk.cell (h : Blk w b t xs) {i : Nat} {v : Value} (hi : xs[i]? = some v) : w.cell? ⟨b, i, none⟩ = some v := by
  unfold Blk at h; simp [World.cell?, h, hi]
theorem Blk.frozen (h : Blk w b t xs) (i : Nat) : w.frozen? ⟨b, i, none⟩ = false := by
  unfold Blk at h; simp [World.frozen?, h]
theorem Blk.new (h : w.heap.size = b) : Blk (w.alloc (.cells xs.toArray t)) b t xs := by
  subst h; unfold Blk; show (w.heap.push _)[w.heap.size]? = _; simp
theorem Blk.alloc (h : Blk w b t xs) (o : Obj) : Blk (w.alloc o) b t xs := by
  unfold Blk at *; rw [Below.heap_alloc w o b (lt_of_block h)]; exact h
theorem Blk.drew (h : Blk w b t xs) : Blk w.drew b t xs := h
theorem Blk.set (h : Blk w b t xs) (i : Nat) (v : Value) : Blk (w.setCell ⟨b, i, none⟩ v) b t (xs.set i v) := by
  unfold Blk at *
  have hlt := lt_of_block h
  have h' : w.heap[b] = .cells xs.toArray t (0, 0) := by simpa [Array.getElem?_eq_getElem hlt] using h
  show (w.heap.modify b _)[b]? = _
  rw [Array.getElem?_eq_getElem (by simpa using hlt), Array.getElem_modify_self, h']
  simp
theorem Blk.other (h : Blk w b t xs) (a : Addr) (v : Value) (hne : b ≠ a.block) : Blk (w.setCell a v) b t xs := by
  unfold Blk at *; rw [Below.heap_setCell w a v b hne]; exact h
theorem Blk.below (h : Blk w b t xs) (hb : Below B w w') (hlt : b < B) : Blk w' b t xs := by
  unfold Blk at *; rw [hb.block b hlt]; exact h
theorem Blk.set4 {x0 x1 x2 x3 : Value} (h : Blk w b t [x0, x1, x2, x3]) (v0 v1 v2 v3 : Value) :
    Blk ((((w.setCell ⟨b, 0, none⟩ v0).setCell ⟨b, 1, none⟩ v1).setCell ⟨b, 2, none⟩ v2).setCell ⟨b, 3, none⟩ v3) b t [v0, v1, v2, v3] :=
  (((h.set 0 v0).set 1 v1).set 2 v2).set 3 v3
theorem Blk.other4 (h : Blk w b t xs) {c : Nat} (hne : b ≠ c) (v0 v1 v2 v3 : Value) :
    Blk ((((w.setCell ⟨c, 0, none⟩ v0).setCell ⟨c, 1, none⟩ v1).setCell ⟨c, 2, none⟩ v2).setCell ⟨c, 3, none⟩ v3) b t xs :=
  (((h.other _ _ hne).other _ _ hne).other _ _ hne).other _ _ hne
/-- Behind a call that turned nothing that was there. -/
theorem Blk.keep (h : Blk w b t xs) (hb : Below w.heap.size w w') : Blk w' b t xs := h.below hb h.lt
theorem Below.call {w W w' : World} (h : Below w.heap.size w W) (hb : Below W.heap.size W w') : Below w.heap.size w w' := h.trans (hb.mono h.size)
theorem Below.drewN' {w w' : World} {B : Nat} (h : Below B w w') (n : Nat) : Below B w (w'.drewN n) := ⟨h.os, h.tape, h.output, h.size, h.block⟩
end
/-- Behind a call that turned nothing that was there: what is owned stays owned. -/
theorem owns_keep {w w' : World} {base : Nat} {e : TypeId} {size n : Nat} {v : Value} {xs : List Value} (h : w.ownsRow base e size v n xs) (hb : Below w.heap.size w w') : w'.ownsRow base e size v n xs := by
  obtain ⟨h1, h2⟩ := h
  refine ⟨h1, ?_⟩
  rcases h2 with h2 | ⟨g, cap, cur, hv, hg, hh, r⟩
  · exact .inl h2
  · exact .inr ⟨g, cap, cur, hv, hg, by rw [hb.block g (lt_of_block hh)]; exact hh, r⟩
theorem owns_mono {w : World} {base base' : Nat} {e : TypeId} {size n : Nat} {v : Value} {xs : List Value} (h : w.ownsRow base e size v n xs) (hb : base' ≤ base) : w.ownsRow base' e size v n xs := by
  obtain ⟨h1, h2⟩ := h
  refine ⟨h1, ?_⟩
  rcases h2 with h2 | ⟨g, cap, cur, hv, hg, r⟩
  · exact .inl h2
  · exact .inr ⟨g, cap, cur, hv, Nat.le_trans hb hg, r⟩
/-- Behind an append or a make: a block that is not the row's. -/
theorem Blk.grown {w w' : World} {b : Nat} {t : TypeId} {xs : List Value} {row : Option Nat} (h : Blk w b t xs) (hg : w.grownBy w' row) (hne : some b ≠ row) : Blk w' b t xs := by
  unfold Blk at *; rw [hg.block b (lt_of_block h) hne]; exact h
/-- A row that is owned, as a block: the elements, then what is spare. -/
theorem owns_blk {w : World} {base : Nat} {e : TypeId} {size n : Nat} {v : Value} {xs : List Value} (h : w.ownsRow base e size v n xs) (hn : 0 < n) :
    ∃ g cap rest, v = .slice (some ⟨g, 0, none⟩) n cap ∧ base ≤ g ∧ n ≤ cap ∧ Blk w g e (xs ++ rest) := by
  obtain ⟨_, ⟨_, h0⟩ | ⟨g, cap, cur, hv, hg, hh, hc, _, _, hx⟩⟩ := h
  · omega
  · exact ⟨g, cap, cur.toList.drop (n * size), hv, hg, hc, by unfold Blk; rw [hh, ← hx, List.take_append_drop]⟩
/-- Behind a call that turned nothing that was there: the old cells read as they did. -/
theorem bcell {W w1 : World} (hb : Below W.heap.size W w1) : ∀ b o, b < W.heap.size → w1.cell? ⟨b, o, none⟩ = W.cell? ⟨b, o, none⟩ := fun _ _ h => hb.cell h
/-- It returns a new slice of the elements xs; nothing that was there has turned. -/
def RetOwn (t : TypeId) (size n : Nat) (xs : List Value) (w : World) : Ending → World → Prop := fun e w' => ∃ v, e = .returned v ∧ w'.ownsRow w.heap.size t size v n xs ∧ Below w.heap.size w w'
/-- The words of a number, as a block's cells. -/
noncomputable abbrev limbs (n : Nat) : List Value := [.int .u64 (limb n 0 : Int), .int .u64 (limb n 1 : Int), .int .u64 (limb n 2 : Int), .int .u64 (limb n 3 : Int)]
theorem limbs_get (n : Nat) {k : Nat} (hk : k < 4) : (limbs n)[k]? = some (.int .u64 (limb n k : Int)) := by
  match k, hk with
  | 0, _ => rfl
  | 1, _ => rfl
  | 2, _ => rfl
  | 3, _ => rfl
/-- What stands in a row behind a store at k. -/
theorem row_set {o : List Value} {k n : Nat} {u : Value} {f : Nat → Value} (hj : ∀ j, j < k → o[j]? = some (f j)) (ho : o.length = n) (hk : k < n) (hu : u = f k) : ∀ j, j < k + 1 → (o.set k u)[j]? = some (f j) := by
  intro j h
  by_cases e : j = k
  · subst e hu; rw [List.getElem?_set_self (by omega)]
  · rw [List.getElem?_set_ne (Ne.symm e)]; exact hj j (by omega)
theorem row_four {o : List Value} {f : Nat → Value} (hj : ∀ j, j < 4 → o[j]? = some (f j)) (ho : o.length = 4) : o = [f 0, f 1, f 2, f 3] := by
  match o, ho with
  | [o0, o1, o2, o3], _ =>
    have e0 := hj 0 (by omega)
    have e1 := hj 1 (by omega)
    have e2 := hj 2 (by omega)
    have e3 := hj 3 (by omega)
    simp at e0 e1 e2 e3
    rw [e0, e1, e2, e3]
end Go.Proofs.YtogenbggjodcnaaDoor
/-
  Words for regions that draw their order: old cells behind an allocation.
-/
namespace Go.Proofs.YtogenbggjodcnaaDoor
open Go.RowKit

theorem cell_alloc {w : World} {o : Obj} {b i : Nat} (h : b < w.heap.size) : (w.alloc o).cell? ⟨b, i, none⟩ = w.cell? ⟨b, i, none⟩ := ((Below.refl w.heap.size w).alloc (Nat.le_refl _) o).cell (p := ⟨b, i, none⟩) h
theorem cell_drew {w : World} {b i : Nat} : w.drew.cell? ⟨b, i, none⟩ = w.cell? ⟨b, i, none⟩ := by simp
end Go.Proofs.YtogenbggjodcnaaDoor
/-
  Worlds that grow; a range over a function: one law for the caller, one form of contract for the iterator. No program.
-/
namespace Go.Proofs.YtogenbggjodcnaaDoor
open Go.RowKit

/-- W' is W with new blocks; what is no cells and lies from B on may have turned. -/
structure Grow (B : Nat) (W W' : World) : Prop where
  os : W'.os = W.os
  tape : W'.tape = W.tape
  output : W'.output = W.output
  size : W.heap.size ≤ W'.heap.size
  block : ∀ k o, W.heap[k]? = some o → (k < B ∨ o.isCells = true) → W'.heap[k]? = some o
/-- W' is W with new blocks; cells of the blocks F may have turned. -/
structure Only (F : Nat → Prop) (W W' : World) : Prop where
  os : W'.os = W.os
  tape : W'.tape = W.tape
  output : W'.output = W.output
  size : W.heap.size ≤ W'.heap.size
  block : ∀ k o, W.heap[k]? = some o → (¬ F k ∨ o.isCells = false) → W'.heap[k]? = some o
/-- What is no cells lies as it lay. -/
abbrev Stay (W W' : World) : Prop := Only (fun _ => True) W W'

section
variable {B : Nat} {A W W' X : World} {F G : Nat → Prop}
theorem Grow.refl (B : Nat) (W : World) : Grow B W W := ⟨rfl, rfl, rfl, Nat.le_refl _, fun _ _ h _ => h⟩
theorem Grow.trans (h : Grow B A W) (k : Grow B W X) : Grow B A X :=
  ⟨k.os.trans h.os, k.tape.trans h.tape, k.output.trans h.output, Nat.le_trans h.size k.size, fun i o hi hc => k.block i o (h.block i o hi hc) hc⟩
theorem Grow.mono {B' : Nat} (h : Grow B W W') (hB : B' ≤ B) : Grow B' W W' := ⟨h.os, h.tape, h.output, h.size, fun k o hk hc => h.block k o hk (hc.imp (fun h => Nat.lt_of_lt_of_le h hB) id)⟩
theorem heap_lt {k : Nat} {o : Obj} (h : W.heap[k]? = some o) : k < W.heap.size := (Array.getElem?_eq_some_iff.1 h).1
theorem Grow.alloc (h : Grow B A W) (o : Obj) : Grow B A (W.alloc o) :=
  h.trans ⟨rfl, rfl, rfl, by simp, fun k _ hk _ => (Below.heap_alloc W o k (heap_lt hk)).trans hk⟩
theorem Grow.drew (h : Grow B A W) : Grow B A W.drew := ⟨h.os, h.tape, h.output, h.size, h.block⟩
theorem Grow.putObj (h : Grow B A W) {l : Nat} {o : Obj} (o' : Obj) (hB : B ≤ l) (hl : W.heap[l]? = some o) (ho : o.isCells = false) : Grow B A (W.putObj l o') :=
  h.trans ⟨rfl, rfl, rfl, by simp, fun k o1 hk hc => by
    by_cases e : k = l
    · subst e; rw [hl] at hk; cases hk; rcases hc with hc | hc
      · omega
      · rw [ho] at hc; cases hc
    · exact (World.putObj_heap_other e).trans hk⟩
theorem Grow.below (h : Grow B W W') {n : Nat} (hn : n ≤ B) (hs : n ≤ W.heap.size) : Below n W W' :=
  ⟨h.os, h.tape, h.output, h.size, fun k hk => by
    have hk2 : k < W.heap.size := by omega
    have e := Array.getElem?_eq_getElem hk2
    exact (h.block k _ e (.inl (by omega))).trans e.symm⟩
theorem Below.grow (h : Below W.heap.size W W') (B : Nat) : Grow B W W' :=
  ⟨h.os, h.tape, h.output, h.size, fun k _ hk _ => (h.block k (heap_lt hk)).trans hk⟩
theorem Below.behind {n : Nat} (h : Below n A W) (hA : n ≤ A.heap.size) (g : Grow B W W') (hn : n ≤ B) : Below n A W' :=
  h.trans (g.below hn (Nat.le_trans hA h.size))
theorem Blk.grow {b : Nat} {t : TypeId} {xs : List Value} (h : Blk W b t xs) (g : Grow B W W') : Blk W' b t xs := g.block b _ h (.inr rfl)
theorem owns_grow {base : Nat} {e : TypeId} {size n : Nat} {v : Value} {xs : List Value} (h : W.ownsRow base e size v n xs) (g : Grow B W W') : W'.ownsRow base e size v n xs := by
  obtain ⟨h1, h2⟩ := h
  refine ⟨h1, ?_⟩
  rcases h2 with h2 | ⟨b, cap, cur, hv, hb, hh, r⟩
  · exact .inl h2
  · exact .inr ⟨b, cap, cur, hv, hb, g.block b _ hh (.inr rfl), r⟩

theorem Only.refl (F : Nat → Prop) (W : World) : Only F W W := ⟨rfl, rfl, rfl, Nat.le_refl _, fun _ _ h _ => h⟩
theorem Only.trans (h : Only F A W) (k : Only F W X) : Only F A X :=
  ⟨k.os.trans h.os, k.tape.trans h.tape, k.output.trans h.output, Nat.le_trans h.size k.size, fun i o hi hc => k.block i o (h.block i o hi hc) hc⟩
theorem Only.mono (h : Only F W W') (hF : ∀ k, F k → G k) : Only G W W' := ⟨h.os, h.tape, h.output, h.size, fun k o hk hc => h.block k o hk (hc.imp (fun h => fun f => h (hF k f)) id)⟩
/-- The second step may touch what is new, too. -/
theorem Only.then' (h : Only F A W) (k : Only G W X) (hG : ∀ i, G i → F i ∨ A.heap.size ≤ i) : Only F A X :=
  ⟨k.os.trans h.os, k.tape.trans h.tape, k.output.trans h.output, Nat.le_trans h.size k.size, fun i o hi hc => by
    refine k.block i o (h.block i o hi hc) ?_
    rcases hc with hc | hc
    · refine .inl (fun g => ?_)
      rcases hG i g with g | g
      · exact hc g
      · have := heap_lt hi; omega
    · exact .inr hc⟩
theorem Only.alloc (h : Only F A W) (o : Obj) : Only F A (W.alloc o) :=
  h.trans ⟨rfl, rfl, rfl, by simp, fun k _ hk _ => (Below.heap_alloc W o k (heap_lt hk)).trans hk⟩
theorem Only.drew (h : Only F A W) : Only F A W.drew := ⟨h.os, h.tape, h.output, h.size, h.block⟩
theorem Only.setCell (h : Only F A W) {p : Addr} (hp : F p.block ∨ A.heap.size ≤ p.block) (u : Value) : Only F A (W.setCell p u) := by
  have hs := (Below.refl 0 W).setCell (p := p) (Nat.zero_le _) u
  refine ⟨h.os, h.tape, h.output, Nat.le_trans h.size hs.size, fun k o hk hc => ?_⟩
  have h1 := h.block k o hk hc
  by_cases e : k = p.block
  · rcases hc with hc | hc
    · rcases hp with hp | hp
      · exact absurd (e ▸ hp) hc
      · have := heap_lt hk; omega
    · subst e
      exact (KeepsOthers.setCell W p u).same _ _ h1 hc
  · exact (Below.heap_setCell W p u k e).trans h1
theorem Only.below (h : Only F W W') {n : Nat} (hF : ∀ k, F k → n ≤ k) (hn : n ≤ W.heap.size) : Below n W W' :=
  ⟨h.os, h.tape, h.output, h.size, fun k hk => by
    have hk2 : k < W.heap.size := by omega
    have e := Array.getElem?_eq_getElem hk2
    exact (h.block k _ e (.inl (fun f => by have := hF k f; omega))).trans e.symm⟩
theorem Below.only (h : Below W.heap.size W W') (F : Nat → Prop) : Only F W W' :=
  ⟨h.os, h.tape, h.output, h.size, fun k _ hk _ => (h.block k (heap_lt hk)).trans hk⟩
theorem Only.call (h : Only F A W) (hb : Below W.heap.size W X) : Only F A X := h.trans (Below.only hb F)
theorem Blk.only {b : Nat} {t : TypeId} {xs : List Value} (h : Blk W b t xs) (g : Only F W W') (hF : ¬ F b) : Blk W' b t xs := g.block b _ h (.inl hF)
theorem owns_only {base : Nat} {e : TypeId} {size n : Nat} {v : Value} {xs : List Value} (h : W.ownsRow base e size v n xs) (g : Only F W W') (hF : ∀ k, v.ownBlock = some k → ¬ F k) : W'.ownsRow base e size v n xs := by
  obtain ⟨h1, h2⟩ := h
  refine ⟨h1, ?_⟩
  rcases h2 with h2 | ⟨b, cap, cur, hv, hb, hh, r⟩
  · exact .inl h2
  · exact .inr ⟨b, cap, cur, hv, hb, g.block b _ hh (.inl (hF b (by rw [hv]; rfl))), r⟩
theorem Only.cell (g : Only F W W') {b o : Nat} {v : Value} (hF : ¬ F b) (h : W.cell? ⟨b, o, none⟩ = some v) : W'.cell? ⟨b, o, none⟩ = some v := by
  obtain ⟨ob, ho, _⟩ := cells_of_cell h
  rw [World.cell?_of_block (w := W) ((g.block b ob ho (.inl hF)).trans ho.symm)]; exact h
theorem Only.froz (g : Only F W W') {b o : Nat} (hF : ¬ F b) (hb : b < W.heap.size) : W'.frozen? ⟨b, o, none⟩ = W.frozen? ⟨b, o, none⟩ := by
  have e := Array.getElem?_eq_getElem hb
  exact World.frozen?_of_block (w := W) ((g.block b _ e (.inl hF)).trans e.symm)
theorem Only.grownBy {r : Option Nat} (hg : W.grownBy W' r) (hr : ∀ k, r = some k → F k ∧ ∀ o, W.heap[k]? = some o → o.isCells = true) : Only F W W' :=
  ⟨hg.os, hg.tape, hg.output, hg.size, fun k o hk hc => by
    refine (hg.block k (heap_lt hk) (fun e => ?_)).trans hk
    obtain ⟨h1, h2⟩ := hr k e.symm
    rcases hc with hc | hc
    · exact hc h1
    · rw [h2 o hk] at hc; cases hc⟩
end

/-- It abides whatever grows, and turns of what is no cells from B on. -/
def Soft (B : Nat) (J : World → Prop) : Prop := ∀ W W', J W → Grow B W W' → J W'

/-- What a call of yield does, at whatever depth. -/
def Yields (P : Program) (l : Nat) (args : Array Value) (W : World) (R : Ending → World → Prop) : Prop := ∀ m, YieldAt Fence.wide m P l args W R
/-- THE ITERATOR's CONTRACT: it hands the elements xs to yield, one by one, until a round says no. -/
def SeqAt {α : Type} (P : Program) (g : Nat) (lb : Array Value) (encs : α → Array Value) (Kp : World → World → Prop) (xs : List α) (W : World) : Prop :=
  ∀ (l : Nat) (J Jx : List α → World → Prop), (∀ pre, Soft W.heap.size (J pre)) → (∀ pre, Soft W.heap.size (Jx pre)) →
    (∀ pre x W1, J pre W1 → pre ++ [x] <+: xs → Yields P l (encs x) W1 fun e W' =>
      (e = .returned (.bool true) ∧ J (pre ++ [x]) W' ∧ Kp W1 W') ∨ (e = .returned (.bool false) ∧ Jx (pre ++ [x]) W')) →
    J [] W → Calls P g (#[.func (.yield l) #[] #[]] ++ lb) W fun e W' => (∃ v, e = .returned v) ∧ (J xs W' ∨ ∃ pre, pre <+: xs ∧ Jx pre W')

/-- How a round's body may be left. -/
def eachPost {α : Type} (Kp : World → World → Prop) (I : List α → World → Prop) (Ix : Code → List α → World → Prop) (xs : List α) (W W2 : World) : Exit → Act → World → Prop
  | .normal, _, W' => Stay W2 W' ∧ Kp W W' ∧ I xs W'
  | .ret, _, W' => Stay W2 W' ∧ Ix .ret xs W'
  | .exit id, _, W' => Stay W2 W' ∧ Ix (.exit id) xs W'
  | .goto t, _, W' => Stay W2 W' ∧ Ix (.goto t) xs W'
  | .panic _, _, _ => False
  | .outgrown, _, _ => False

/-- THE CALLER's LAW. -/
theorem wpIn_each {P : Program} {n : Nat} {α : Type} {g : Operand} {ps : Array Tmp} {assign body : Code} {Q : Exit → Act → World → Prop} {a : Act} {w : World}
    {gf : Nat} {lb : Array Value} (hg : a.eval g = .func (.func gf) #[] lb) (eg : ∀ args w, (callFunc gf args).run P w = .ok (.enter gf args) w)
    {encs : α → Array Value} {Kp : World → World → Prop} {xs : List α} (hseq : ∀ W, Grow w.heap.size w W → SeqAt P gf lb encs Kp xs W)
    (hKt : ∀ {A B C : World}, Kp A B → Kp B C → Kp A C) (hKb : ∀ A B : World, Grow w.heap.size A B → Kp A B) (hps : ∀ x, (encs x).size = ps.size)
    (I : List α → World → Prop) (Ix : Code → List α → World → Prop) (hI : ∀ pre, Soft w.heap.size (I pre)) (hIx : ∀ c pre, Soft w.heap.size (Ix c pre)) (h0 : I [] w)
    (hround : ∀ (m l : Nat) (pre : List α) (x : α) (W : World), I pre W → pre ++ [x] <+: xs → w.heap.size < l →
      assign.wpIn (Fence.wide.inRound l) m P (Exit.then (fun a₁ W₁ => Stay W W₁ ∧ ∀ W₂, Grow w.heap.size W₁ W₂ → body.wpIn (Fence.wide.inRound l) m P (eachPost Kp I Ix (pre ++ [x]) W W₂) a₁ W₂) (fun _ _ _ => False))
        { tmps := (ps.zip (encs x)).foldl (fun t (p, v) => t.setIfInBounds p v) a.tmps, defers := [] } W)
    (hdone : ∀ (D : Nat) (W : World), w.heap.size ≤ D → I xs W → W.heap[D]? = some (.deferred (some [])) → Q .normal { a with defers := { target := .collected D, args := #[] } :: a.defers } W)
    (hstop : ∀ (D : Nat) (c : Code) (pre : List α) (W : World), w.heap.size ≤ D → pre <+: xs → Ix c pre W → W.heap[D]? = some (.deferred (some [])) → c.wpIn Fence.wide n P Q { a with defers := { target := .collected D, args := #[] } :: a.defers } W) :
    (Code.rangeFunc g ps assign body).wpIn Fence.wide n P Q a w := by
  refine wpIn_rangeFunc ?_
  intro fn _
  obtain ⟨rc, hrc⟩ : ∃ rc : LoopState → Option Code → Loop, rc = fun st pe => { state := st, pending := pe, fn, tmps := a.tmps, params := ps, assign, body, defers := w.heap.size } := ⟨_, rfl⟩
  have hent : (Instr.enterLoop fn a.tmps ps assign body none).run P w = .ok (w.heap.size + 1, [{ target := .collected w.heap.size, args := #[] }]) ((w.alloc (.deferred (some []))).alloc (.loop (rc .ready none))) := by
    rw [hrc]; exact run_enterLoop_outer _ _ _ _ _
  have hL1 : ((w.alloc (.deferred (some []))).alloc (.loop (rc .ready none))).heap[w.heap.size + 1]? = some (.loop (rc .ready none)) := by
    have := World.alloc_heap_new (w.alloc (.deferred (some []))) (.loop (rc .ready none)); rwa [World.size_alloc] at this
  have hD1 : ((w.alloc (.deferred (some []))).alloc (.loop (rc .ready none))).heap[w.heap.size]? = some (.deferred (some [])) :=
    (Below.heap_alloc _ _ _ (by simp)).trans (World.alloc_heap_new w _)
  have hG1 : Grow w.heap.size w ((w.alloc (.deferred (some []))).alloc (.loop (rc .ready none))) := ((Grow.refl _ w).alloc _).alloc _
  have hz1 : ((w.alloc (.deferred (some []))).alloc (.loop (rc .ready none))).heap.size = w.heap.size + 2 := by simp
  generalize (w.alloc (.deferred (some []))).alloc (.loop (rc .ready none)) = W1 at hent hL1 hD1 hG1 hz1
  refine ⟨w.heap.size + 1, [{ target := .collected w.heap.size, args := #[] }], W1, { target := .fn (.func gf) lb, args := #[.func (.yield (w.heap.size + 1)) #[] #[]] }, W1, gf,
    #[.func (.yield (w.heap.size + 1)) #[] #[]] ++ lb, W1, hent, ?_, fun _ _ => trivial, ?_, (fun h => by cases h), callsIn_wide.2 ?_⟩
  · simp only [resolve, hg]
    simp [go_sem]
  · simp [invoke, go_sem, eg]
  refine (hseq W1 hG1 (w.heap.size + 1)
    (fun pre W => I pre W ∧ W.heap[w.heap.size + 1]? = some (.loop (rc .ready none)) ∧ W.heap[w.heap.size]? = some (.deferred (some [])))
    (fun pre W => ∃ c, Ix c pre W ∧ W.heap[w.heap.size + 1]? = some (.loop (rc .done (some c))) ∧ W.heap[w.heap.size]? = some (.deferred (some [])))
    (fun pre A B h k => ⟨hI pre A B h.1 (k.mono (by omega)), k.block _ _ h.2.1 (.inl (by omega)), k.block _ _ h.2.2 (.inl (by omega))⟩)
    (fun pre A B h k => by obtain ⟨c, hc, hl, hd⟩ := h; exact ⟨c, hIx c pre A B hc (k.mono (by omega)), k.block _ _ hl (.inl (by omega)), k.block _ _ hd (.inl (by omega))⟩)
    ?_ ⟨hI _ _ _ h0 hG1, hL1, hD1⟩).mono ?_
  · rintro pre x W ⟨hi, hl, hd⟩ hpre m
    have hy := run_yield (P := P) (args := encs x) hl (by rw [hrc]; exact hps x)
    rw [hrc] at hy
    refine ⟨fn, _, assign, body, hy, roundIn_of_wpIn trivial (wpIn_mono (hround m (w.heap.size + 1) pre x W hi hpre (by omega)) ?_)⟩
    clear hy
    rintro e a₁ Wa h
    cases e with
    | normal =>
      obtain ⟨hst, hb⟩ := h
      have hl2 := hst.block _ _ hl (.inr rfl)
      have hd2 := hst.block _ _ hd (.inr rfl)
      refine ⟨_, run_beginRound hl2 (by rw [hrc]), ?_⟩
      have hg2 : Grow w.heap.size Wa (Wa.putObj (w.heap.size + 1) (.loop { rc .ready none with state := .busy })) := (Grow.refl _ Wa).putObj _ (by omega) hl2 rfl
      have hl3 : (Wa.putObj (w.heap.size + 1) (.loop { rc .ready none with state := .busy })).heap[w.heap.size + 1]? = some (.loop { rc .ready none with state := .busy }) := World.putObj_heap_same (heap_lt hl2)
      have hd3 : (Wa.putObj (w.heap.size + 1) (.loop { rc .ready none with state := .busy })).heap[w.heap.size]? = some (.deferred (some [])) := (World.putObj_heap_other (by omega)).trans hd2
      refine wpIn_mono (hb _ hg2) ?_
      have fin : ∀ (jump : Option Code) (W3 : World), Stay (Wa.putObj (w.heap.size + 1) (.loop { rc .ready none with state := .busy })) W3 →
          ∃ W4, (Instr.endRound (w.heap.size + 1) jump).run P W3 = .ok (.bool jump.isNone) W4 ∧ Grow w.heap.size W3 W4 ∧
          W4.heap[w.heap.size + 1]? = some (.loop (rc (if jump.isNone then .ready else .done) jump)) ∧ W4.heap[w.heap.size]? = some (.deferred (some [])) := fun jump W3 hs3 => by
        have hl4 := hs3.block _ _ hl3 (.inr rfl)
        have hd4 := hs3.block _ _ hd3 (.inr rfl)
        have hr := run_endRound (P := P) jump hl4
        rw [hrc] at hr
        refine ⟨_, hr, (Grow.refl _ W3).putObj _ (by omega) hl4 rfl, ?_, (World.putObj_heap_other (by omega)).trans hd4⟩
        rw [hrc]
        exact World.putObj_heap_same (heap_lt hl4)
      rintro e a3 W3 hp
      cases e with
      | normal =>
        obtain ⟨hs3, hk3, hi3⟩ := hp
        obtain ⟨W4, hr, hg4, hl4, hd4⟩ := fin none W3 hs3
        exact ⟨_, _, hr, .inl ⟨rfl, ⟨hI _ _ _ hi3 hg4, hl4, hd4⟩, hKt hk3 (hKb _ _ hg4)⟩⟩
      | ret =>
        obtain ⟨hs3, hi3⟩ := hp
        obtain ⟨W4, hr, hg4, hl4, hd4⟩ := fin (some .ret) W3 hs3
        exact ⟨_, _, hr, .inr ⟨rfl, .ret, hIx _ _ _ _ hi3 hg4, hl4, hd4⟩⟩
      | exit id =>
        obtain ⟨hs3, hi3⟩ := hp
        obtain ⟨W4, hr, hg4, hl4, hd4⟩ := fin (some (.exit id)) W3 hs3
        exact ⟨_, _, hr, .inr ⟨rfl, .exit id, hIx _ _ _ _ hi3 hg4, hl4, hd4⟩⟩
      | goto t =>
        obtain ⟨hs3, hi3⟩ := hp
        obtain ⟨W4, hr, hg4, hl4, hd4⟩ := fin (some (.goto t)) W3 hs3
        exact ⟨_, _, hr, .inr ⟨rfl, .goto t, hIx _ _ _ _ hi3 hg4, hl4, hd4⟩⟩
      | panic ch => exact hp.elim
      | outgrown => exact hp.elim
    | exit id => exact h.elim
    | goto t => exact h.elim
    | ret => exact h.elim
    | panic ch => exact h.elim
    | outgrown => exact h.elim
  · rintro e W2 ⟨⟨v, rfl⟩, h⟩
    rcases h with ⟨hi, hl, hd⟩ | ⟨pre, hpre, c, hi, hl, hd⟩
    · have hg : Grow w.heap.size W2 (W2.putObj (w.heap.size + 1) (.loop { rc .ready none with state := .exhausted })) := (Grow.refl _ W2).putObj _ (by omega) hl rfl
      exact ⟨none, _, by have := run_endLoop (P := P) hl (by rw [hrc]; simp); rw [hrc] at this ⊢; exact this, hdone w.heap.size _ (Nat.le_refl _) (hI _ _ _ hi hg) ((World.putObj_heap_other (by omega)).trans hd)⟩
    · have hg : Grow w.heap.size W2 (W2.putObj (w.heap.size + 1) (.loop { rc .done (some c) with state := .exhausted })) := (Grow.refl _ W2).putObj _ (by omega) hl rfl
      exact ⟨some c, _, by have := run_endLoop (P := P) hl (by rw [hrc]; simp); rw [hrc] at this ⊢; exact this, hstop w.heap.size c pre _ (Nat.le_refl _) hpre (hIx _ _ _ _ hi hg) ((World.putObj_heap_other (by omega)).trans hd)⟩
end Go.Proofs.YtogenbggjodcnaaDoor
/-
  In a round: a region that draws its order and only reads: one walk of the order of the text serves every order. No program.
-/
namespace Go.Proofs.YtogenbggjodcnaaDoor

section
variable {n l0 : Nat} {P : Program} {ops : Array Oper} {md : Region.Mode} {C : World → Prop}

/-- No operation is a defer statement. -/
def noDefer (l : List Oper) : Bool := l.all fun o => match o.op with
  | .defer _ => false
  | _ => true
theorem noDefer_spec {l : List Oper} (h : noDefer l = true) {o : Oper} (ho : o ∈ l) : ∀ c, o.op ≠ .defer c := fun c e => by
  have := List.all_eq_true.1 h o ho
  rw [e] at this; cases this
theorem quiet_in_round {o : Oper} {a : Act} {K : Act → Prop} {K' : Act → World → Prop} {Q' : Exit → Act → World → Prop} {w : World} (hnd : ∀ c, o.op ≠ .defer c) (hw : C w) (h : ∀ a w', C w' → K a → K' a w')
    (hh : o.quiet P a C K) : o.wpIn (Fence.wide.inRound l0) n P a w K' Q' := by
  obtain ⟨v, h1, h2⟩ := hh
  have h3 := h1 w hw
  unfold Oper.quietAt at h3
  unfold Oper.wpIn
  refine ⟨fun _ _ => trivial, ?_⟩
  rw [Oper.semAt_eq _ _ _ hnd]
  generalize (execOp a.eval o).run P w = r at *
  cases r with
  | ok x w' =>
    cases x <;> simp only [Oper.quietUpon] at h3 <;> simp only [Oper.uponIn]
    case value u =>
      obtain ⟨e1, e2⟩ := h3
      rw [e1, e2]
      exact h _ _ hw h2
    case skip =>
      obtain ⟨e1, e2⟩ := h3
      rw [e1, ← e2]
      exact h _ _ hw h2
    case enter f args =>
      obtain ⟨e1, hc⟩ := h3
      rw [e1]
      exact ⟨(fun h => by cases h), (CallsIn.inRound l0 (callsIn_wide.2 hc)).mono fun e w'' ⟨he, hw''⟩ => by subst he; exact h _ _ hw'' h2⟩
  | halt x w' => simp only [Oper.quietUpon] at h3
theorem op_in_round {i : Nat} {a : Act} {K : Act → Prop} {K' : Act → World → Prop} {Q' : Exit → Act → World → Prop} {w : World} (hnd : noDefer ops.toList = true) (hC : C w) (h : ∀ a w', C w' → K a → K' a w')
    (hh : qOp P ops C i K a) : wpOpIn (Fence.wide.inRound l0) n P ops Q' i K' a w := by
  unfold qOp at hh
  unfold wpOpIn
  split
  · rename_i ho; simp only [ho] at hh; exact h _ _ hC hh
  · rename_i o ho
    simp only [ho] at hh
    have hm : o ∈ ops.toList := by rw [Array.mem_toList_iff]; exact Array.mem_of_getElem? ho
    split
    · rename_i hw; simp only [hw, if_true] at hh; exact quiet_in_round (noDefer_spec hnd hm) hC h hh
    · rename_i hw; simp only [hw] at hh; exact ⟨fun _ _ => trivial, h _ _ hC hh⟩
theorem any_in_round {Q : Act → Prop} {Q' : Exit → Act → World → Prop} (hnd : noDefer ops.toList = true) (hQ : ∀ a w, C w → Q a → Q' .normal a w) : ∀ (fuel : Nat) (listed : Array Bool) (a : Act) (w : World), C w →
    wpAnyQ P md ops C Q fuel listed a → wpAnyIn (Fence.wide.inRound l0) n P md ops Q' fuel listed a w
  | 0, _, _, _, hw, h => ⟨h.1, hQ _ _ hw h.2⟩
  | fuel + 1, _, _, _, hw, h => ⟨fun h0 => hQ _ _ hw (h.1 h0), fun i hi => op_in_round hnd hw (fun a' w' hw' => any_in_round hnd hQ fuel _ a' w' hw') (h.2 i hi)⟩
/-- THE REGION. -/
theorem wpIn_round_quiet {id : Nat} {Q : Exit → Act → World → Prop} {a : Act} {w : World} {l : List Oper} (hm : P.follows .mixedOrders = true) (hB : Region.lexB .any l.toArray = true) (hnd : noDefer l = true)
    (h : wpQuiet P l.toArray (fun w' => ∃ n, w' = w.drewN n) (fun a' => ∀ w', (∃ n, w' = w.drewN n) → Q .normal a' w') l a) : (Code.region id l.toArray true).wpIn (Fence.wide.inRound l0) n P Q a w := by
  simp only [Region.lexB, Bool.and_eq_true] at hB
  refine wpIn_region_any hm (any_in_round (C := fun w' => ∃ n, w' = w.drewN n) (Q := fun a' => ∀ w', (∃ n, w' = w.drewN n) → Q .normal a' w') (by simpa using hnd) (fun _ w' hw' h => h w' hw') _ _ _ _ ⟨1, rfl⟩ ?_)
  have := wpAnyQ_lex (P := P) (C := fun w' => ∃ n, w' = w.drewN n) (md := .any) hB.1 l 0 (Array.replicate l.toArray.size false) a (by simp) (by simpa using hB.2) h
  simpa using this
end
end Go.Proofs.YtogenbggjodcnaaDoor
/-
  A region that draws its order, in a round: all operations but the last ones give one value each in every world of a class and keep to the class (they may call functions that make memory); the last ones come in one order. One walk. No program.
-/
namespace Go.Proofs.YtogenbggjodcnaaDoor

section
variable {n0 l0 : Nat} {P : Program} {ops : Array Oper} {md : Region.Mode} {C : World → Prop}

/-- The first f operations, in whatever order; behind them: L. -/
def anyS (P : Program) (md : Region.Mode) (ops : Array Oper) (C : World → Prop) (n : Nat) (L : Array Bool → Act → Prop) : Nat → Array Bool → Act → Prop
  | 0, listed, a => L listed a
  | f + 1, listed, a => Region.ready md ops listed ≠ [] ∧ ∀ i ∈ Region.ready md ops listed, i < n ∧ qOp P ops C i (anyS P md ops C n L f (listed.setIfInBounds i true)) a
theorem anyS_round {n g : Nat} {L : Array Bool → Act → Prop} {Q' : Exit → Act → World → Prop} (hnd : noDefer ops.toList = true) (hL : ∀ listed a w, C w → L listed a → wpAnyIn (Fence.wide.inRound l0) n0 P md ops Q' g listed a w) :
    ∀ (f : Nat) (listed : Array Bool) (a : Act) (w : World), C w → anyS P md ops C n L f listed a → wpAnyIn (Fence.wide.inRound l0) n0 P md ops Q' (f + g) listed a w
  | 0, listed, a, w, hw, h => by rw [Nat.zero_add]; exact hL _ _ _ hw h
  | f + 1, listed, a, w, hw, h => by
    rw [show f + 1 + g = (f + g) + 1 by omega]
    exact ⟨fun h0 => absurd h0 h.1, fun i hi => op_in_round hnd hw (fun a' w' hw' h' => anyS_round hnd hL f _ a' w' hw' h') (h.2 i hi).2⟩
theorem anyS_first {n i : Nat} {oi : Oper} {v : Value} {L : Array Bool → Act → Prop} (hi : ops[i]? = some oi) (hsel : ∀ (j : Nat) (o : Oper) cs b, ops[j]? = some o → o.op ≠ .select cs b)
    (hs : Region.sinkB md ops n = true) (hc : Region.chainB md ops n = true) (hn : n < ops.size) (hin : i < n) (hdone : ∀ listed a, L listed a → ∀ j ∈ Region.ready md ops listed, n ≤ j) :
    ∀ (f : Nat) (listed : Array Bool) (a : Act), HeadInv md ops n listed →
      (∀ j oj, ops[j]? = some oj → j ≠ i → listed.getD j true = false → (∀ e ∈ oj.after, Region.binds md e = true → e.on ≠ i) → oi.apart ops oj = true) →
      i ∈ Region.ready md ops listed → YieldsIn P ops C oi v a → anyS P md ops C n L f (listed.setIfInBounds i true) (a.put oi.dst v) → anyS P md ops C n L (f + 1) listed a := by
  intro f
  induction f with
  | zero =>
    intro listed a inv _ hr hy H
    have hun := (mem_ready.1 hr).1
    refine ⟨fun h => (by rw [h] at hr; cases hr), fun j hj => ?_⟩
    have hjn : j < n := by
      rcases Nat.lt_or_ge j n with h | h
      · exact h
      · exact absurd hj (tail_waits hs hc hn inv _ i rfl hin hun j h)
    refine ⟨hjn, ?_⟩
    by_cases hji : j = i
    · subst hji; exact hy.qOp hi H
    · have := hdone _ _ H j (ready_mono hj hji)
      omega
  | succ f ih =>
    intro listed a inv hfree hr hy H
    have hun := (mem_ready.1 hr).1
    refine ⟨fun h => (by rw [h] at hr; cases hr), fun j hj => ?_⟩
    have hjn : j < n := by
      rcases Nat.lt_or_ge j n with h | h
      · exact h
      · exact absurd hj (tail_waits hs hc hn inv _ i rfl hin hun j h)
    refine ⟨hjn, ?_⟩
    by_cases hji : j = i
    · subst hji; exact hy.qOp hi H
    · have h1 := (H.2 j (ready_mono hj hji)).2
      obtain ⟨hjun, oj, hoj, hall⟩ := mem_ready.1 hj
      have hnot : ∀ e ∈ oj.after, Region.binds md e = true → e.on ≠ i := fun e he hb heq => by
        have h1 := hall e he hb
        rw [heq, getD_both hun] at h1
        cases h1
      have h2 := qOp_put hoj (hfree j oj hoj hji hjun hnot) (fun cs b => hsel i oi cs b hi) (fun cs b => hsel j oj cs b hoj) hy h1
      have hfree' : ∀ k ok, ops[k]? = some ok → k ≠ i → (listed.setIfInBounds j true).getD k true = false →
          (∀ e ∈ ok.after, Region.binds md e = true → e.on ≠ i) → oi.apart ops ok = true := fun k ok hk hki hun hno => by
        refine hfree k ok hk hki ?_ hno
        by_cases hjk : j = k
        · subst hjk; exact hjun
        · rw [getD_set_ne true hjk] at hun; exact hun
      refine qOp_mono (fun a' h3 => ih (listed.setIfInBounds j true) a' (inv.set hj hjn) hfree' (ready_mono hr (Ne.symm hji)) h3.1 ?_) h2
      rw [Array.setIfInBounds_comm _ _ hji]
      exact h3.2
theorem anyS_lex {n g : Nat} {Lq : Act → Prop} (hsel : Region.noSelect ops = true) (hs : Region.sinkB md ops n = true) (hc : Region.chainB md ops n = true) (hn : n < ops.size) :
    ∀ (l : List Oper) (k : Nat) (listed : Array Bool) (a : Act), (∀ j, j < l.length → l[j]? = ops[k + j]?) → k + l.length = n → HeadInv md ops n listed →
    Region.lexHead md ops g l.length k listed = true → wpQuiet P ops C Lq l a →
    anyS P md ops C n (fun listed' a' => Region.seqB md ops g n listed' = true ∧ Lq a') l.length listed a
  | [], k, listed, a, _, hk, _, hB, h => by
    obtain rfl : k = n := by simpa using hk
    exact ⟨by simpa [Region.lexHead] using hB, h⟩
  | o :: l, k, listed, a, hl, hk, inv, hB, h => by
    have h0 : ops[k]? = some o := by simpa using (hl 0 (by simp)).symm
    simp only [List.length_cons, Region.lexHead, Bool.and_eq_true] at hB
    obtain ⟨⟨hr, hf⟩, hB'⟩ := hB
    have hkn : k < n := by simp only [List.length_cons] at hk; omega
    have hr' : k ∈ Region.ready md ops listed := by simpa using hr
    have hst : qOp P ops C k (wpQuiet P ops C Lq l) a := by unfold qOp; simp only [h0]; exact h
    obtain ⟨v, hy, hK⟩ := yieldsIn_of_qOp h0 hst
    exact anyS_first h0 (Region.noSelect_spec hsel) hs hc hn hkn (fun listed' a' hL => seqB_ready hL.1) l.length listed a inv (Region.free_spec h0 hf) hr' hy
      (anyS_lex hsel hs hc hn l (k + 1) _ _ (fun j hj => by have := hl (j + 1) (by simp; omega); simpa [Nat.add_assoc, Nat.add_comm 1 j] using this) (by simp only [List.length_cons] at hk; omega) (inv.set hr' hkn) hB' hK)
theorem seq_round {Q' : Exit → Act → World → Prop} : ∀ (l : List Oper) (k : Nat) (listed : Array Bool) (a : Act) (w : World), (∀ j, l[j]? = ops[k + j]?) →
    Region.seqB md ops l.length k listed = true → wpListIn (Fence.wide.inRound l0) n0 P ops Q' l a w → wpAnyIn (Fence.wide.inRound l0) n0 P md ops Q' l.length listed a w
  | [], _, _, _, _, _, hB, h => ⟨by simpa [Region.seqB] using hB, h⟩
  | o :: l, k, listed, a, w, hl, hB, h => by
    have h0 : ops[k]? = some o := by simpa using (hl 0).symm
    simp only [List.length_cons, Region.seqB, Bool.and_eq_true, decide_eq_true_eq] at hB
    refine ⟨fun h1 => (by rw [hB.1] at h1; cases h1), fun i hi => ?_⟩
    rw [hB.1] at hi
    obtain rfl : i = k := by simpa using hi
    have hw : wpOpIn (Fence.wide.inRound l0) n0 P ops Q' i (wpListIn (Fence.wide.inRound l0) n0 P ops Q' l) a w := by unfold wpOpIn; simp only [h0]; exact h
    exact wpOpIn_mono (fun a' w' h' => seq_round l (i + 1) _ a' w' (fun j => by have := hl (j + 1); simpa [Nat.add_assoc, Nat.add_comm 1 j] using this) hB.2 h') hw
/-- THE REGION. -/
theorem wpIn_round_soft {id : Nat} {Q : Exit → Act → World → Prop} {a : Act} {w : World} {l : List Oper} (n : Nat) (hm : P.follows .mixedOrders = true) (hB : Region.lexTailB .any l.toArray n = true) (hnd : noDefer l = true) (hC : C w.drew)
    (h : wpQuiet P l.toArray C (fun a' => ∀ w', C w' → wpListIn (Fence.wide.inRound l0) n0 P l.toArray Q (l.drop n) a' w') (l.take n) a) : (Code.region id l.toArray true).wpIn (Fence.wide.inRound l0) n0 P Q a w := by
  simp only [Region.lexTailB, Bool.and_eq_true, decide_eq_true_eq] at hB
  obtain ⟨⟨⟨⟨hsel, hn⟩, hs⟩, hc⟩, hlex⟩ := hB
  have hn' : n < l.length := by simpa using hn
  have htl : (l.take n).length = n := by simp; omega
  have hdl : (l.drop n).length = l.toArray.size - n := by simp
  have inv0 : HeadInv .any l.toArray n (Array.replicate l.toArray.size false) :=
    ⟨by simp, fun j oj _ hl => (by rw [getD_replicate_false] at hl; cases hl), fun t _ ht => getD_in (by simpa using ht) (getD_replicate_false _ _)⟩
  have H := anyS_lex (md := .any) (g := l.toArray.size - n) (C := C) hsel hs hc hn (l.take n) 0 _ a (fun j hj => by
    have hj' : j < n := by rw [htl] at hj; exact hj
    simp [hj']) (by simpa using htl) inv0 (by rw [htl]; exact hlex) h
  refine wpIn_region_any hm ?_
  have := anyS_round (Q' := Q) (g := l.toArray.size - n) (n0 := n0) (l0 := l0) (by simpa using hnd) (fun listed a' w' hw' hL => by
    have := seq_round (md := .any) (Q' := Q) (n0 := n0) (l0 := l0) (l.drop n) n listed a' w' (fun j => by simp [List.getElem?_drop]) (by rw [hdl]; exact hL.1) (hL.2 w' hw')
    rwa [hdl] at this) _ _ _ _ hC H
  rw [htl, show n + (l.toArray.size - n) = l.toArray.size by omega] at this
  exact this
end
end Go.Proofs.YtogenbggjodcnaaDoor
/-
  The same outside a round; and where the first operation is a copy that may come up at any time ('x = append(x, f(..))'). No program.
-/
namespace Go.Proofs.YtogenbggjodcnaaDoor

section
variable {P : Program} {ops : Array Oper} {md : Region.Mode} {C : World → Prop}

theorem anyS_plain {n g : Nat} {L : Array Bool → Act → Prop} {Q' : Exit → Act → World → Prop} (hL : ∀ listed a w, C w → L listed a → wpAny P md ops Q' g listed a w) :
    ∀ (f : Nat) (listed : Array Bool) (a : Act) (w : World), C w → anyS P md ops C n L f listed a → wpAny P md ops Q' (f + g) listed a w
  | 0, listed, a, w, hw, h => by rw [Nat.zero_add]; exact hL _ _ _ hw h
  | f + 1, listed, a, w, hw, h => by
    rw [show f + 1 + g = (f + g) + 1 by omega]
    exact ⟨fun h0 => absurd h0 h.1, fun i hi => wpOp_of_qOp hw (fun a' w' hw' h' => anyS_plain hL f _ a' w' hw' h') (h.2 i hi).2⟩
/-- From operation m on each is waited for by one of the first n + 1. -/
def sinkFrom (md : Region.Mode) (ops : Array Oper) (n m : Nat) : Bool :=
  (List.range n).all fun i => decide (i < m) || (List.range (n + 1)).any fun j => decide (i < j) && Region.waitsFor md ops j i
theorem tail_waits1 {n m : Nat} {listed : Array Bool} (hs : sinkFrom md ops n m = true) (hc : Region.chainB md ops n = true) (hn : n < ops.size) (inv : HeadInv md ops n listed) :
    ∀ (d i : Nat), n - i = d → i < n → m ≤ i → listed.getD i true = false → ∀ t, n ≤ t → t ∉ Region.ready md ops listed := by
  intro d
  induction d using Nat.strongRecOn with
  | _ d ih =>
    intro i hd hi hmi hun t ht hr
    obtain ⟨_, ot, hot, hall⟩ := mem_ready.1 hr
    have htlt : t < ops.size := (Array.getElem?_eq_some_iff.1 hot).1
    by_cases htn : t = n
    · subst htn
      have h1 := List.all_eq_true.1 hs i (List.mem_range.2 hi)
      rw [Bool.or_eq_true, decide_eq_true_eq] at h1
      have h1 := h1.resolve_left (by omega)
      obtain ⟨j, hj, hj2⟩ := List.any_eq_true.1 h1
      simp only [Bool.and_eq_true, decide_eq_true_eq] at hj2
      obtain ⟨oj, hoj, e, he, hb, hon⟩ := Region.waitsFor_spec hj2.2
      have hjle : j ≤ t := by have := List.mem_range.1 hj; omega
      by_cases hjt : j = t
      · subst hjt
        obtain rfl : oj = ot := Option.some.inj (hoj.symm.trans hot)
        have h2 := hall e he hb
        rw [hon, getD_both hun] at h2
        cases h2
      · cases hl : listed.getD j false with
        | true =>
          have h2 := inv.closed j oj hoj hl e he hb
          rw [hon, getD_both hun] at h2
          cases h2
        | false =>
          have hjs : j < listed.size := by rw [inv.size]; omega
          exact ih (t - j) (by omega) j rfl (by omega) (by omega) (getD_in hjs hl) t (Nat.le_refl _) hr
    · have h1 := List.all_eq_true.1 hc t (List.mem_range.2 htlt)
      simp only [Bool.or_eq_true, decide_eq_true_eq] at h1
      rcases h1 with h1 | h1
      · omega
      · obtain ⟨o', ho', e, he, hb, hon⟩ := Region.waitsFor_spec h1
        obtain rfl : o' = ot := Option.some.inj (ho'.symm.trans hot)
        have h2 := hall e he hb
        rw [hon, getD_both (inv.tail (t - 1) (by omega) (by omega))] at h2
        cases h2
theorem anyS_first1 {n m i : Nat} {oi : Oper} {v : Value} {L : Array Bool → Act → Prop} (hi : ops[i]? = some oi) (hsel : ∀ (j : Nat) (o : Oper) cs b, ops[j]? = some o → o.op ≠ .select cs b)
    (hs : sinkFrom md ops n m = true) (hc : Region.chainB md ops n = true) (hn : n < ops.size) (hin : i < n) (him : m ≤ i) (hdone : ∀ listed a, L listed a → ∀ j ∈ Region.ready md ops listed, n ≤ j) :
    ∀ (f : Nat) (listed : Array Bool) (a : Act), HeadInv md ops n listed →
      (∀ j oj, ops[j]? = some oj → j ≠ i → listed.getD j true = false → (∀ e ∈ oj.after, Region.binds md e = true → e.on ≠ i) → oi.apart ops oj = true) →
      i ∈ Region.ready md ops listed → YieldsIn P ops C oi v a → anyS P md ops C n L f (listed.setIfInBounds i true) (a.put oi.dst v) → anyS P md ops C n L (f + 1) listed a := by
  intro f
  induction f with
  | zero =>
    intro listed a inv _ hr hy H
    have hun := (mem_ready.1 hr).1
    refine ⟨fun h => (by rw [h] at hr; cases hr), fun j hj => ?_⟩
    have hjn : j < n := by
      rcases Nat.lt_or_ge j n with h | h
      · exact h
      · exact absurd hj (tail_waits1 hs hc hn inv _ i rfl hin him hun j h)
    refine ⟨hjn, ?_⟩
    by_cases hji : j = i
    · subst hji; exact hy.qOp hi H
    · have := hdone _ _ H j (ready_mono hj hji)
      omega
  | succ f ih =>
    intro listed a inv hfree hr hy H
    have hun := (mem_ready.1 hr).1
    refine ⟨fun h => (by rw [h] at hr; cases hr), fun j hj => ?_⟩
    have hjn : j < n := by
      rcases Nat.lt_or_ge j n with h | h
      · exact h
      · exact absurd hj (tail_waits1 hs hc hn inv _ i rfl hin him hun j h)
    refine ⟨hjn, ?_⟩
    by_cases hji : j = i
    · subst hji; exact hy.qOp hi H
    · have h1 := (H.2 j (ready_mono hj hji)).2
      obtain ⟨hjun, oj, hoj, hall⟩ := mem_ready.1 hj
      have hnot : ∀ e ∈ oj.after, Region.binds md e = true → e.on ≠ i := fun e he hb heq => by
        have h1 := hall e he hb
        rw [heq, getD_both hun] at h1
        cases h1
      have h2 := qOp_put hoj (hfree j oj hoj hji hjun hnot) (fun cs b => hsel i oi cs b hi) (fun cs b => hsel j oj cs b hoj) hy h1
      have hfree' : ∀ k ok, ops[k]? = some ok → k ≠ i → (listed.setIfInBounds j true).getD k true = false →
          (∀ e ∈ ok.after, Region.binds md e = true → e.on ≠ i) → oi.apart ops ok = true := fun k ok hk hki hun hno => by
        refine hfree k ok hk hki ?_ hno
        by_cases hjk : j = k
        · subst hjk; exact hjun
        · rw [getD_set_ne true hjk] at hun; exact hun
      refine qOp_mono (fun a' h3 => ih (listed.setIfInBounds j true) a' (inv.set hj hjn) hfree' (ready_mono hr (Ne.symm hji)) h3.1 ?_) h2
      rw [Array.setIfInBounds_comm _ _ hji]
      exact h3.2
theorem anyS_lex1 {n m g : Nat} {Lq : Act → Prop} (hsel : Region.noSelect ops = true) (hs : sinkFrom md ops n m = true) (hc : Region.chainB md ops n = true) (hn : n < ops.size) :
    ∀ (l : List Oper) (k : Nat) (listed : Array Bool) (a : Act), (∀ j, j < l.length → l[j]? = ops[k + j]?) → m ≤ k → k + l.length = n → HeadInv md ops n listed →
    Region.lexHead md ops g l.length k listed = true → wpQuiet P ops C Lq l a →
    anyS P md ops C n (fun listed' a' => Region.seqB md ops g n listed' = true ∧ Lq a') l.length listed a
  | [], k, listed, a, _, _, hk, _, hB, h => by
    obtain rfl : k = n := by simpa using hk
    exact ⟨by simpa [Region.lexHead] using hB, h⟩
  | o :: l, k, listed, a, hl, hmk, hk, inv, hB, h => by
    have h0 : ops[k]? = some o := by simpa using (hl 0 (by simp)).symm
    simp only [List.length_cons, Region.lexHead, Bool.and_eq_true] at hB
    obtain ⟨⟨hr, hf⟩, hB'⟩ := hB
    have hkn : k < n := by simp only [List.length_cons] at hk; omega
    have hr' : k ∈ Region.ready md ops listed := by simpa using hr
    have hst : qOp P ops C k (wpQuiet P ops C Lq l) a := by unfold qOp; simp only [h0]; exact h
    obtain ⟨v, hy, hK⟩ := yieldsIn_of_qOp h0 hst
    exact anyS_first1 h0 (Region.noSelect_spec hsel) hs hc hn hkn hmk (fun listed' a' hL => seqB_ready hL.1) l.length listed a inv (Region.free_spec h0 hf) hr' hy
      (anyS_lex1 hsel hs hc hn l (k + 1) _ _ (fun j hj => by have := hl (j + 1) (by simp; omega); simpa [Nat.add_assoc, Nat.add_comm 1 j] using this) (by omega) (by simp only [List.length_cons] at hk; omega) (inv.set hr' hkn) hB' hK)
/-- THE REGION. -/
theorem wp_region_soft {id : Nat} {Q : Exit → Act → World → Prop} {a : Act} {w : World} {l : List Oper} (n : Nat) (hm : P.follows .mixedOrders = true) (hB : Region.lexTailB .any l.toArray n = true) (hC : C w.drew)
    (h : wpQuiet P l.toArray C (fun a' => ∀ w', C w' → wpList P l.toArray Q (l.drop n) a' w') (l.take n) a) : (Code.region id l.toArray true).wp P Q a w := by
  simp only [Region.lexTailB, Bool.and_eq_true, decide_eq_true_eq] at hB
  obtain ⟨⟨⟨⟨hsel, hn⟩, hs⟩, hc⟩, hlex⟩ := hB
  have hn' : n < l.length := by simpa using hn
  have htl : (l.take n).length = n := by simp; omega
  have hdl : (l.drop n).length = l.toArray.size - n := by simp
  have inv0 : HeadInv .any l.toArray n (Array.replicate l.toArray.size false) :=
    ⟨by simp, fun j oj _ hl => (by rw [getD_replicate_false] at hl; cases hl), fun t _ ht => getD_in (by simpa using ht) (getD_replicate_false _ _)⟩
  have H := anyS_lex (md := .any) (g := l.toArray.size - n) (C := C) hsel hs hc hn (l.take n) 0 _ a (fun j hj => by
    have hj' : j < n := by rw [htl] at hj; exact hj
    simp [hj']) (by simpa using htl) inv0 (by rw [htl]; exact hlex) h
  refine wp_region_any hm ?_
  have := anyS_plain (Q' := Q) (g := l.toArray.size - n) (fun listed a' w' hw' hL => by
    have := wpAny_of_seq (P := P) (md := .any) (Q' := Q) (l.drop n) n listed a' w' (fun j => by simp [List.getElem?_drop]) (by rw [hdl]; exact hL.1) (hL.2 w' hw')
    rwa [hdl] at this) _ _ _ _ hC H
  rw [htl, show n + (l.toArray.size - n) = l.toArray.size by omega] at this
  exact this
/-- THE REGION, its first operation a copy. -/
theorem wp_region_soft1 {id : Nat} {Q : Exit → Act → World → Prop} {a : Act} {w : World} {o0 : Oper} {l : List Oper} {v0 : Value} (n : Nat) (hm : P.follows .mixedOrders = true)
    (h1 : Region.noSelect (o0 :: l).toArray = true) (h2 : n < l.length) (h3 : sinkFrom .any (o0 :: l).toArray (n + 1) 1 = true) (h4 : Region.chainB .any (o0 :: l).toArray (n + 1) = true)
    (h5 : Region.lexHead .any (o0 :: l).toArray (l.length - n) n 1 ((Array.replicate (o0 :: l).toArray.size false).setIfInBounds 0 true) = true)
    (h6 : Region.free .any (o0 :: l).toArray (Array.replicate (o0 :: l).toArray.size false) 0 = true) (h7 : (Region.ready .any (o0 :: l).toArray (Array.replicate (o0 :: l).toArray.size false)).contains 0 = true)
    (hQ : ∀ c a w, Q (.panic c) (a.put o0.dst v0) w → Q (.panic c) a w) (hy : Go.Yields P (o0 :: l).toArray o0 v0 a) (hC : C w.drew)
    (h : wpQuiet P (o0 :: l).toArray C (fun a' => ∀ w', C w' → wpList P (o0 :: l).toArray Q (l.drop n) a' w') (l.take n) (a.put o0.dst v0)) : (Code.region id (o0 :: l).toArray true).wp P Q a w := by
  have h0 : (o0 :: l).toArray[0]? = some o0 := rfl
  have hsz : (o0 :: l).toArray.size = l.length + 1 := by simp
  have hr0 : 0 ∈ Region.ready .any (o0 :: l).toArray (Array.replicate (o0 :: l).toArray.size false) := by simpa using h7
  have htl : (l.take n).length = n := by simp; omega
  have hdl : (l.drop n).length = l.length - n := by simp
  have inv0 : HeadInv .any (o0 :: l).toArray (n + 1) (Array.replicate (o0 :: l).toArray.size false) :=
    ⟨by simp, fun j oj _ hl => (by rw [getD_replicate_false] at hl; cases hl), fun t _ ht => getD_in (by simpa using ht) (getD_replicate_false _ _)⟩
  have H := anyS_lex1 (m := 1) (md := .any) (g := l.length - n) (C := C) h1 h3 h4 (by rw [hsz]; omega) (l.take n) 1 _ (a.put o0.dst v0) (fun j hj => by
    have hj' : j < n := by rw [htl] at hj; exact hj
    simp [hj', Nat.add_comm 1 j]) (Nat.le_refl 1) (by rw [htl]; omega) (inv0.set hr0 (by omega)) (by rw [htl]; exact h5) h
  refine wp_region_any hm ?_
  have H2 := anyS_plain (Q' := Q) (g := l.length - n) (fun listed a' w' hw' hL => by
    have := wpAny_of_seq (P := P) (ops := (o0 :: l).toArray) (md := .any) (Q' := Q) (l.drop n) (n + 1) listed a' w' (fun j => by
      rw [show n + 1 + j = (n + j) + 1 by omega]; simp [List.getElem?_drop]) (by rw [hdl]; exact hL.1) (hL.2 w' hw')
    rwa [hdl] at this) _ _ _ _ hC H
  have e : (o0 :: l).toArray.size = ((l.take n).length + (l.length - n)) + 1 := by rw [hsz, htl]; omega
  have H3 := wpAny_take (Q := Q) h0 h1 h6 h7 hQ hy H2
  rw [e] at H3 ⊢
  exact H3
end
end Go.Proofs.YtogenbggjodcnaaDoor
/-
  A range over a function whose body runs inside another range over a function. No program.
-/
namespace Go.Proofs.YtogenbggjodcnaaDoor
open Go.RowKit

/-- What is no cells and lies behind l lies as it lay. -/
def Aft (l : Nat) (W W' : World) : Prop := ∀ k o, W.heap[k]? = some o → o.isCells = false → l < k → W'.heap[k]? = some o
/-- What is no cells and lies at D or from l on lies as it lay. -/
def Low (D l : Nat) (W W' : World) : Prop := ∀ k o, W.heap[k]? = some o → o.isCells = false → (k = D ∨ l ≤ k) → W'.heap[k]? = some o
theorem Only.low {F : Nat → Prop} {W W' : World} (h : Only F W W') (D l : Nat) : Low D l W W' := fun k o hk hc _ => h.block k o hk (.inr hc)
theorem Low.then' {D l : Nat} {A B C : World} (h : Low D l A B) (k : Low D l B C) : Low D l A C := fun i o hi hc hl => k i o (h i o hi hc hl) hc hl
/-- The blocks of cells from N on lie as they lay. -/
def Keeps (N : Nat) (W W' : World) : Prop := ∀ k o, N ≤ k → W.heap[k]? = some o → o.isCells = true → W'.heap[k]? = some o
theorem Keeps.trans {N : Nat} {A B C : World} (h : Keeps N A B) (k : Keeps N B C) : Keeps N A C := fun i o hi ho hc => k i o hi (h i o hi ho hc) hc
theorem Grow.keeps {B : Nat} {W W' : World} (h : Grow B W W') (N : Nat) : Keeps N W W' := fun k o _ ho hc => h.block k o ho (.inr hc)
theorem Only.keeps {F : Nat → Prop} {N : Nat} {W W' : World} (h : Only F W W') (hF : ∀ k, F k → k < N) : Keeps N W W' := fun k o hk ho _ => h.block k o ho (.inl (fun f => by have := hF k f; omega))
theorem Blk.keeps {N b : Nat} {t : TypeId} {xs : List Value} {W W' : World} (h : Blk W b t xs) (k : Keeps N W W') (hb : N ≤ b) : Blk W' b t xs := k b _ hb h rfl
theorem Aft.low {l0 D l : Nat} {W W' : World} (h : Aft l0 W W') (hD : l0 < D) (hl : l0 < l) : Low D l W W' := fun k o hk hc hh => h k o hk hc (by omega)
theorem Low.aft {l0 D l : Nat} {W W' : World} (h : Low D l W W') (hl : l ≤ l0 + 1) : Aft l0 W W' := fun k o hk hc hh => h k o hk hc (.inr (by omega))
/-- THE ITERATOR's CONTRACT: it hands the elements xs to yield, one by one, until a round says no. -/
def SeqIn {α : Type} (P : Program) (g : Nat) (lb : Array Value) (encs : α → Array Value) (Kp : World → World → Prop) (xs : List α) (W : World) : Prop :=
  ∀ (l : Nat) (J Jx : List α → World → Prop), l < W.heap.size → (∀ pre, Soft W.heap.size (J pre)) → (∀ pre, Soft W.heap.size (Jx pre)) →
    (∀ pre x W1, J pre W1 → pre ++ [x] <+: xs → Yields P l (encs x) W1 fun e W' =>
      (e = .returned (.bool true) ∧ J (pre ++ [x]) W' ∧ Kp W1 W' ∧ Aft l W1 W') ∨ (e = .returned (.bool false) ∧ Jx (pre ++ [x]) W' ∧ Aft l W1 W')) →
    J [] W → Calls P g (#[.func (.yield l) #[] #[]] ++ lb) W fun e W' => (∃ v, e = .returned v) ∧ (J xs W' ∨ ∃ pre, pre <+: xs ∧ Jx pre W')

/-- How a round's body may be left. -/
def eachEnd {α : Type} (D l : Nat) (Kp : World → World → Prop) (I : List α → World → Prop) (Ix : Code → List α → World → Prop) (xs : List α) (W W2 : World) : Exit → Act → World → Prop
  | .normal, _, W' => Low D l W2 W' ∧ Kp W W' ∧ I xs W'
  | .ret, _, W' => Low D l W2 W' ∧ Ix .ret xs W'
  | .exit id, _, W' => Low D l W2 W' ∧ Ix (.exit id) xs W'
  | .goto t, _, W' => Low D l W2 W' ∧ Ix (.goto t) xs W'
  | .panic _, _, _ => False
  | .outgrown, _, _ => False

/-- THE CALLER's LAW. -/
theorem wpIn_every {P : Program} {n : Nat} {α : Type} {g : Operand} {ps : Array Tmp} {assign body : Code} {Q : Exit → Act → World → Prop} {a : Act} {w : World}
    {gf : Nat} {lb : Array Value} (hg : a.eval g = .func (.func gf) #[] lb) (eg : ∀ args w, (callFunc gf args).run P w = .ok (.enter gf args) w)
    {encs : α → Array Value} {Kp : World → World → Prop} {xs : List α} (hseq : ∀ W, Grow w.heap.size w W → SeqIn P gf lb encs Kp xs W)
    (hKt : ∀ {A B C : World}, Kp A B → Kp B C → Kp A C) (hKb : ∀ A B : World, Grow w.heap.size A B → Kp A B) (hps : ∀ x, (encs x).size = ps.size)
    (I : List α → World → Prop) (Ix : Code → List α → World → Prop) (hI : ∀ pre, Soft w.heap.size (I pre)) (hIx : ∀ c pre, Soft w.heap.size (Ix c pre)) (h0 : I [] w)
    (hround : ∀ (m l : Nat) (pre : List α) (x : α) (W : World), I pre W → pre ++ [x] <+: xs → w.heap.size < l →
      assign.wpIn (Fence.wide.inRound l) m P (Exit.then (fun a₁ W₁ => Low w.heap.size l W W₁ ∧ ∀ W₂, Grow w.heap.size W₁ W₂ → body.wpIn (Fence.wide.inRound l) m P (eachEnd w.heap.size l Kp I Ix (pre ++ [x]) W W₂) a₁ W₂) (fun _ _ _ => False))
        { tmps := (ps.zip (encs x)).foldl (fun t (p, v) => t.setIfInBounds p v) a.tmps, defers := [] } W)
    (hdone : ∀ (D : Nat) (W : World), w.heap.size ≤ D → I xs W → W.heap[D]? = some (.deferred (some [])) → Q .normal { a with defers := { target := .collected D, args := #[] } :: a.defers } W)
    (hstop : ∀ (D : Nat) (c : Code) (pre : List α) (W : World), w.heap.size ≤ D → pre <+: xs → Ix c pre W → W.heap[D]? = some (.deferred (some [])) → c.wpIn Fence.wide n P Q { a with defers := { target := .collected D, args := #[] } :: a.defers } W) :
    (Code.rangeFunc g ps assign body).wpIn Fence.wide n P Q a w := by
  refine wpIn_rangeFunc ?_
  intro fn _
  obtain ⟨rc, hrc⟩ : ∃ rc : LoopState → Option Code → Loop, rc = fun st pe => { state := st, pending := pe, fn, tmps := a.tmps, params := ps, assign, body, defers := w.heap.size } := ⟨_, rfl⟩
  have hent : (Instr.enterLoop fn a.tmps ps assign body none).run P w = .ok (w.heap.size + 1, [{ target := .collected w.heap.size, args := #[] }]) ((w.alloc (.deferred (some []))).alloc (.loop (rc .ready none))) := by
    rw [hrc]; exact run_enterLoop_outer _ _ _ _ _
  have hL1 : ((w.alloc (.deferred (some []))).alloc (.loop (rc .ready none))).heap[w.heap.size + 1]? = some (.loop (rc .ready none)) := by
    have := World.alloc_heap_new (w.alloc (.deferred (some []))) (.loop (rc .ready none)); rwa [World.size_alloc] at this
  have hD1 : ((w.alloc (.deferred (some []))).alloc (.loop (rc .ready none))).heap[w.heap.size]? = some (.deferred (some [])) :=
    (Below.heap_alloc _ _ _ (by simp)).trans (World.alloc_heap_new w _)
  have hG1 : Grow w.heap.size w ((w.alloc (.deferred (some []))).alloc (.loop (rc .ready none))) := ((Grow.refl _ w).alloc _).alloc _
  have hz1 : ((w.alloc (.deferred (some []))).alloc (.loop (rc .ready none))).heap.size = w.heap.size + 2 := by simp
  generalize (w.alloc (.deferred (some []))).alloc (.loop (rc .ready none)) = W1 at hent hL1 hD1 hG1 hz1
  refine ⟨w.heap.size + 1, [{ target := .collected w.heap.size, args := #[] }], W1, { target := .fn (.func gf) lb, args := #[.func (.yield (w.heap.size + 1)) #[] #[]] }, W1, gf,
    #[.func (.yield (w.heap.size + 1)) #[] #[]] ++ lb, W1, hent, ?_, fun _ _ => trivial, ?_, (fun h => by cases h), callsIn_wide.2 ?_⟩
  · simp only [resolve, hg]
    simp [go_sem]
  · simp [invoke, go_sem, eg]
  refine (hseq W1 hG1 (w.heap.size + 1)
    (fun pre W => I pre W ∧ W.heap[w.heap.size + 1]? = some (.loop (rc .ready none)) ∧ W.heap[w.heap.size]? = some (.deferred (some [])))
    (fun pre W => ∃ c, Ix c pre W ∧ W.heap[w.heap.size + 1]? = some (.loop (rc .done (some c))) ∧ W.heap[w.heap.size]? = some (.deferred (some [])))
    (by rw [hz1]; omega)
    (fun pre A B h k => ⟨hI pre A B h.1 (k.mono (by omega)), k.block _ _ h.2.1 (.inl (by omega)), k.block _ _ h.2.2 (.inl (by omega))⟩)
    (fun pre A B h k => by obtain ⟨c, hc, hl, hd⟩ := h; exact ⟨c, hIx c pre A B hc (k.mono (by omega)), k.block _ _ hl (.inl (by omega)), k.block _ _ hd (.inl (by omega))⟩)
    ?_ ⟨hI _ _ _ h0 hG1, hL1, hD1⟩).mono ?_
  · rintro pre x W ⟨hi, hl, hd⟩ hpre m
    have hy := run_yield (P := P) (args := encs x) hl (by rw [hrc]; exact hps x)
    rw [hrc] at hy
    refine ⟨fn, _, assign, body, hy, roundIn_of_wpIn trivial (wpIn_mono (hround m (w.heap.size + 1) pre x W hi hpre (by omega)) ?_)⟩
    clear hy
    rintro e a₁ Wa h
    cases e with
    | normal =>
      obtain ⟨hst, hb⟩ := h
      have hl2 := hst _ _ hl rfl (.inr (Nat.le_refl _))
      have hd2 := hst _ _ hd rfl (.inl rfl)
      refine ⟨_, run_beginRound hl2 (by rw [hrc]), ?_⟩
      have hg2 : Grow w.heap.size Wa (Wa.putObj (w.heap.size + 1) (.loop { rc .ready none with state := .busy })) := (Grow.refl _ Wa).putObj _ (by omega) hl2 rfl
      have hl3 : (Wa.putObj (w.heap.size + 1) (.loop { rc .ready none with state := .busy })).heap[w.heap.size + 1]? = some (.loop { rc .ready none with state := .busy }) := World.putObj_heap_same (heap_lt hl2)
      have hd3 : (Wa.putObj (w.heap.size + 1) (.loop { rc .ready none with state := .busy })).heap[w.heap.size]? = some (.deferred (some [])) := (World.putObj_heap_other (by omega)).trans hd2
      refine wpIn_mono (hb _ hg2) ?_
      have fin : ∀ (jump : Option Code) (W3 : World), Low w.heap.size (w.heap.size + 1) (Wa.putObj (w.heap.size + 1) (.loop { rc .ready none with state := .busy })) W3 →
          ∃ W4, (Instr.endRound (w.heap.size + 1) jump).run P W3 = .ok (.bool jump.isNone) W4 ∧ Grow w.heap.size W3 W4 ∧
          W4.heap[w.heap.size + 1]? = some (.loop (rc (if jump.isNone then .ready else .done) jump)) ∧ W4.heap[w.heap.size]? = some (.deferred (some [])) ∧ Aft (w.heap.size + 1) W W4 := fun jump W3 hs3 => by
        have hl4 := hs3 _ _ hl3 rfl (.inr (Nat.le_refl _))
        have hd4 := hs3 _ _ hd3 rfl (.inl rfl)
        have hr := run_endRound (P := P) jump hl4
        rw [hrc] at hr
        refine ⟨_, hr, (Grow.refl _ W3).putObj _ (by omega) hl4 rfl, ?_, (World.putObj_heap_other (by omega)).trans hd4, fun k o hk hc hlk => ?_⟩
        · rw [hrc]
          exact World.putObj_heap_same (heap_lt hl4)
        · have q1 := hst k o hk hc (.inr (Nat.le_of_lt hlk))
          have q2 : (Wa.putObj (w.heap.size + 1) (.loop { rc .ready none with state := .busy })).heap[k]? = some o := (World.putObj_heap_other (by omega)).trans q1
          have q3 := hs3 k o q2 hc (.inr (Nat.le_of_lt hlk))
          exact (World.putObj_heap_other (by omega)).trans q3
      rintro e a3 W3 hp
      cases e with
      | normal =>
        obtain ⟨hs3, hk3, hi3⟩ := hp
        obtain ⟨W4, hr, hg4, hl4, hd4, ha4⟩ := fin none W3 hs3
        exact ⟨_, _, hr, .inl ⟨rfl, ⟨hI _ _ _ hi3 hg4, hl4, hd4⟩, hKt hk3 (hKb _ _ hg4), ha4⟩⟩
      | ret =>
        obtain ⟨hs3, hi3⟩ := hp
        obtain ⟨W4, hr, hg4, hl4, hd4, ha4⟩ := fin (some .ret) W3 hs3
        exact ⟨_, _, hr, .inr ⟨rfl, ⟨.ret, hIx _ _ _ _ hi3 hg4, hl4, hd4⟩, ha4⟩⟩
      | exit id =>
        obtain ⟨hs3, hi3⟩ := hp
        obtain ⟨W4, hr, hg4, hl4, hd4, ha4⟩ := fin (some (.exit id)) W3 hs3
        exact ⟨_, _, hr, .inr ⟨rfl, ⟨.exit id, hIx _ _ _ _ hi3 hg4, hl4, hd4⟩, ha4⟩⟩
      | goto t =>
        obtain ⟨hs3, hi3⟩ := hp
        obtain ⟨W4, hr, hg4, hl4, hd4, ha4⟩ := fin (some (.goto t)) W3 hs3
        exact ⟨_, _, hr, .inr ⟨rfl, ⟨.goto t, hIx _ _ _ _ hi3 hg4, hl4, hd4⟩, ha4⟩⟩
      | panic ch => exact hp.elim
      | outgrown => exact hp.elim
    | exit id => exact h.elim
    | goto t => exact h.elim
    | ret => exact h.elim
    | panic ch => exact h.elim
    | outgrown => exact h.elim
  · rintro e W2 ⟨⟨v, rfl⟩, h⟩
    rcases h with ⟨hi, hl, hd⟩ | ⟨pre, hpre, c, hi, hl, hd⟩
    · have hg : Grow w.heap.size W2 (W2.putObj (w.heap.size + 1) (.loop { rc .ready none with state := .exhausted })) := (Grow.refl _ W2).putObj _ (by omega) hl rfl
      exact ⟨none, _, by have := run_endLoop (P := P) hl (by rw [hrc]; simp); rw [hrc] at this ⊢; exact this, hdone w.heap.size _ (Nat.le_refl _) (hI _ _ _ hi hg) ((World.putObj_heap_other (by omega)).trans hd)⟩
    · have hg : Grow w.heap.size W2 (W2.putObj (w.heap.size + 1) (.loop { rc .done (some c) with state := .exhausted })) := (Grow.refl _ W2).putObj _ (by omega) hl rfl
      exact ⟨some c, _, by have := run_endLoop (P := P) hl (by rw [hrc]; simp); rw [hrc] at this ⊢; exact this, hstop w.heap.size c pre _ (Nat.le_refl _) hpre (hIx _ _ _ _ hi hg) ((World.putObj_heap_other (by omega)).trans hd)⟩
end Go.Proofs.YtogenbggjodcnaaDoor
/-
  Lists of numbers: how they lie as slices of four words.
-/
namespace Go.Proofs.YtogenbggjodcnaaDoor
open Go.RowKit

/-- The numbers xs lie from an address on. -/
def NumsAt (w : World) (g off : Nat) (xs : List Nat) : Prop := ∀ j x, xs[j]? = some x → x < B256 ∧ w.cell? ⟨g, off + j * 4, none⟩ = some (.int .u64 (limb x 0 : Int)) ∧ w.cell? ⟨g, off + j * 4 + 1, none⟩ = some (.int .u64 (limb x 1 : Int)) ∧ w.cell? ⟨g, off + j * 4 + 2, none⟩ = some (.int .u64 (limb x 2 : Int)) ∧ w.cell? ⟨g, off + j * 4 + 3, none⟩ = some (.int .u64 (limb x 3 : Int))
/-- A slice of the numbers xs. -/
def NumSl (w : World) (v : Value) (xs : List Nat) : Prop := ∃ a cap, v = .slice a xs.length cap ∧ xs.length ≤ cap ∧ (xs = [] ∨ ∃ g off, a = some ⟨g, off, none⟩ ∧ NumsAt w g off xs)
theorem NumsAt.below {w w' : World} {g off : Nat} {xs : List Nat} (h : NumsAt w g off xs) (hb : Below w.heap.size w w') : NumsAt w' g off xs := fun j x hx => by
  obtain ⟨l, e0, e1, e2, e3⟩ := h j x hx
  have hk : g < w.heap.size := World.block_lt_of_cell? w _ e0
  exact ⟨l, (hb.cell (p := ⟨g, off + j * 4, none⟩) hk).trans e0, (hb.cell (p := ⟨g, off + j * 4 + 1, none⟩) hk).trans e1, (hb.cell (p := ⟨g, off + j * 4 + 2, none⟩) hk).trans e2, (hb.cell (p := ⟨g, off + j * 4 + 3, none⟩) hk).trans e3⟩
theorem NumSl.below {w w' : World} {v : Value} {xs : List Nat} (h : NumSl w v xs) (hb : Below w.heap.size w w') : NumSl w' v xs := by
  obtain ⟨a, cap, rfl, hc, h | ⟨g, off, rfl, he⟩⟩ := h
  · exact ⟨a, cap, rfl, hc, .inl h⟩
  · exact ⟨_, cap, rfl, hc, .inr ⟨g, off, rfl, he.below hb⟩⟩
theorem NumSl.lt {w : World} {v : Value} {xs : List Nat} (h : NumSl w v xs) : ∀ x ∈ xs, x < B256 := fun x hx => by
  obtain ⟨a, cap, rfl, hc, h | ⟨g, off, rfl, he⟩⟩ := h
  · subst h; cases hx
  · obtain ⟨j, hj⟩ := List.mem_iff_getElem?.1 hx
    exact (he j x hj).1
theorem NumsAt.only {F : Nat → Prop} {w w' : World} {g off : Nat} {xs : List Nat} (h : NumsAt w g off xs) (ho : Only F w w') (hF : ¬ F g) : NumsAt w' g off xs := fun j x hx => by
  obtain ⟨l, e0, e1, e2, e3⟩ := h j x hx
  exact ⟨l, ho.cell hF e0, ho.cell hF e1, ho.cell hF e2, ho.cell hF e3⟩
theorem NumsAt.grow {B : Nat} {w w' : World} {g off : Nat} {xs : List Nat} (h : NumsAt w g off xs) (hg : Grow B w w') : NumsAt w' g off xs := fun j x hx => by
  obtain ⟨l, e0, e1, e2, e3⟩ := h j x hx
  have key : ∀ o v, w.cell? ⟨g, o, none⟩ = some v → w'.cell? ⟨g, o, none⟩ = some v := fun o v e => by
    obtain ⟨ob, h1, h2⟩ := cells_of_cell e
    rw [World.cell?_of_block (w := w) ((hg.block g ob h1 (.inr h2)).trans h1.symm)]; exact e
  exact ⟨l, key _ _ e0, key _ _ e1, key _ _ e2, key _ _ e3⟩
theorem NumSl.grow {B : Nat} {w w' : World} {v : Value} {xs : List Nat} (h : NumSl w v xs) (hg : Grow B w w') : NumSl w' v xs := by
  obtain ⟨a, cap, rfl, hc, h | ⟨g, off, rfl, he⟩⟩ := h
  · exact ⟨a, cap, rfl, hc, .inl h⟩
  · exact ⟨_, cap, rfl, hc, .inr ⟨g, off, rfl, he.grow hg⟩⟩
theorem NumSl.only {F : Nat → Prop} {w w' : World} {a : Option Addr} {n cap : Nat} {xs : List Nat} (h : NumSl w (.slice a n cap) xs) (ho : Only F w w') (hF : ∀ ad, a = some ad → ¬ F ad.block) : NumSl w' (.slice a n cap) xs := by
  obtain ⟨a', cap', e, hc, h | ⟨g, off, rfl, he⟩⟩ := h
  · exact ⟨a', cap', e, hc, .inl h⟩
  · refine ⟨_, cap', e, hc, .inr ⟨g, off, rfl, he.only ho ?_⟩⟩
    cases e
    exact hF _ rfl
/-- The numbers' cells. -/
noncomputable def nums (xs : List Nat) : List Value := xs.flatMap limbs
theorem nums_len : ∀ xs : List Nat, (nums xs).length = xs.length * 4
  | [] => rfl
  | x :: r => by
    have := nums_len r
    unfold nums at *
    rw [List.flatMap_cons, List.length_append, this]
    simp; omega
theorem nums_append (xs ys : List Nat) : nums (xs ++ ys) = nums xs ++ nums ys := by unfold nums; exact List.flatMap_append
theorem nums_snoc (xs : List Nat) (x : Nat) : nums (xs ++ [x]) = nums xs ++ [.int .u64 (limb x 0 : Int), .int .u64 (limb x 1 : Int), .int .u64 (limb x 2 : Int), .int .u64 (limb x 3 : Int)] := by
  rw [nums_append]; simp [nums]
theorem nums_get : ∀ (xs : List Nat) (j x : Nat), xs[j]? = some x → ∀ i, i < 4 → (nums xs)[j * 4 + i]? = some (.int .u64 (limb x i : Int))
  | [], j, x, h, i, hi => by simp at h
  | y :: r, 0, x, h, i, hi => by
    obtain rfl : y = x := by simpa using h
    unfold nums
    rw [List.flatMap_cons, Nat.zero_mul, Nat.zero_add, List.getElem?_append_left (by simpa using hi)]
    exact limbs_get y hi
  | y :: r, j + 1, x, h, i, hi => by
    have := nums_get r j x (by simpa using h) i hi
    unfold nums at *
    rw [List.flatMap_cons, List.getElem?_append_right (by simp; omega), ← this]
    congr 1
    simp; omega
theorem owns_form {w : World} {base : Nat} {e : TypeId} {size n : Nat} {v : Value} {xs : List Value} (h : w.ownsRow base e size v n xs) : ∃ a c, v = .slice a n c ∧ n ≤ c ∧ (∀ ad, a = some ad → ∃ g, ad = ⟨g, 0, none⟩ ∧ base ≤ g ∧ g < w.heap.size) ∧ (0 < n → ∃ g, a = some ⟨g, 0, none⟩) := by
  obtain ⟨_, ⟨rfl, rfl⟩ | ⟨g, cap, cur, rfl, hb, hh, hnc, _⟩⟩ := h
  · exact ⟨none, 0, rfl, Nat.le_refl _, fun ad h => (by cases h), fun h => absurd h (Nat.lt_irrefl _)⟩
  · exact ⟨_, cap, rfl, hnc, fun ad h => (by cases h; exact ⟨g, rfl, hb, lt_of_block hh⟩), fun _ => ⟨g, rfl⟩⟩
/-- An owned row that holds numbers' cells is a slice of the numbers. -/
theorem nums_sl {w : World} {base : Nat} {e : TypeId} {v : Value} {xs : List Nat} {ys : List Value} (h : w.ownsRow base e 4 v xs.length ys) (hx : ∀ j x, xs[j]? = some x → ∀ i, i < 4 → ys[j * 4 + i]? = some (.int .u64 (limb x i : Int))) (hp : ∀ x ∈ xs, x < B256) : NumSl w v xs := by
  obtain ⟨a, c, rfl, hc, _, hg⟩ := owns_form h
  refine ⟨a, c, rfl, hc, ?_⟩
  by_cases h0 : xs = []
  · exact .inl h0
  · obtain ⟨g, rfl⟩ := hg (List.length_pos_iff.2 h0)
    refine .inr ⟨g, 0, rfl, fun j x hs => ?_⟩
    have hj : j < xs.length := (List.getElem?_eq_some_iff.1 hs).1
    have hat : ∀ i, i < 4 → w.cell? ⟨g, j * 4 + i, none⟩ = some (.int .u64 (limb x i : Int)) := fun i hi => (h.cellAt (j * 4 + i) (by omega)).trans (hx j x hs i hi)
    rw [Nat.zero_add]
    exact ⟨hp x (List.mem_of_getElem? hs), hat 0 (by omega), hat 1 (by omega), hat 2 (by omega), hat 3 (by omega)⟩
theorem nums_own {w : World} {base : Nat} {e : TypeId} {v : Value} {xs : List Nat} (h : w.ownsRow base e 4 v xs.length (nums xs)) (hp : ∀ x ∈ xs, x < B256) : NumSl w v xs := nums_sl h (fun j x hs i hi => nums_get xs j x hs i hi) hp
/-- It returns a new slice of the numbers xs. -/
def RetNums (t : TypeId) (xs : List Nat) (w : World) : Ending → World → Prop := RetOwn t 4 xs.length (nums xs) w
theorem take_next {α : Type} {l : List α} {k : Nat} {x : α} (h : l[k]? = some x) : l.take (k + 1) = l.take k ++ [x] := by
  rw [List.take_add_one, h]; rfl
theorem NumSl.at4 {w : World} {a : Option Addr} {n c : Nat} {xs : List Nat} {k y : Nat} (h : NumSl w (.slice a n c) xs) (hy : xs[k]? = some y) : ∃ g off, a = some ⟨g, off, none⟩ ∧ g < w.heap.size ∧ w.cell? ⟨g, off + k * 4, none⟩ = some (.int .u64 (limb y 0 : Int)) ∧ w.cell? ⟨g, off + k * 4 + 1, none⟩ = some (.int .u64 (limb y 1 : Int)) ∧ w.cell? ⟨g, off + k * 4 + 2, none⟩ = some (.int .u64 (limb y 2 : Int)) ∧ w.cell? ⟨g, off + k * 4 + 3, none⟩ = some (.int .u64 (limb y 3 : Int)) := by
  obtain ⟨a', c', e, _, hr⟩ := h
  cases e
  rcases hr with h0 | ⟨g, off, rfl, he⟩
  · rw [h0] at hy; cases hy
  · obtain ⟨_, e0, e1, e2, e3⟩ := he k y hy
    exact ⟨g, off, rfl, World.block_lt_of_cell? _ _ e0, e0, e1, e2, e3⟩
end Go.Proofs.YtogenbggjodcnaaDoor
