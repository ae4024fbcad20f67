/-
  Worlds that grow; a range over a function: one law for the caller, one form of contract for the iterator. No program.
-/
import Derived.Test.YtfaicnileghjiaaDoorBlk
import Derived.RangeFuncNested
import Derived.RangeFuncBound
import Derived.RangeFuncCalls
import Derived.RangeFuncLeaves
namespace Go.Proofs.YtfaicnileghjiaaDoor
open Go.RowKit

/-- W' is W with new blocks; what is no cells and lies from B on may have turned. -/
structure Grow (B : Nat) (W W' : World) : Prop where
  os : W'.os = W.os
  tape : W'.tape = W.tape
  output : W'.output = W.output
  size : W.heap.size ≤ W'.heap.size
  block : ∀ k o, W.heap[k]? = some o → (k < B ∨ o.isCells = true) → W'.heap[k]? = some o
/-- W' is W with new blocks; cells of the blocks F may have turned. -/
structure Only (F : Nat → Prop) (W W' : World) : Prop where
  os : W'.os = W.os
  tape : W'.tape = W.tape
  output : W'.output = W.output
  size : W.heap.size ≤ W'.heap.size
  block : ∀ k o, W.heap[k]? = some o → (¬ F k ∨ o.isCells = false) → W'.heap[k]? = some o
/-- What is no cells lies as it lay. -/
abbrev Stay (W W' : World) : Prop := Only (fun _ => True) W W'

section
variable {B : Nat} {A W W' X : World} {F G : Nat → Prop}
theorem Grow.refl (B : Nat) (W : World) : Grow B W W := ⟨rfl, rfl, rfl, Nat.le_refl _, fun _ _ h _ => h⟩
theorem Grow.trans (h : Grow B A W) (k : Grow B W X) : Grow B A X :=
  ⟨k.os.trans h.os, k.tape.trans h.tape, k.output.trans h.output, Nat.le_trans h.size k.size, fun i o hi hc => k.block i o (h.block i o hi hc) hc⟩
theorem Grow.mono {B' : Nat} (h : Grow B W W') (hB : B' ≤ B) : Grow B' W W' := ⟨h.os, h.tape, h.output, h.size, fun k o hk hc => h.block k o hk (hc.imp (fun h => Nat.lt_of_lt_of_le h hB) id)⟩
theorem heap_lt {k : Nat} {o : Obj} (h : W.heap[k]? = some o) : k < W.heap.size := (Array.getElem?_eq_some_iff.1 h).1
theorem Grow.alloc (h : Grow B A W) (o : Obj) : Grow B A (W.alloc o) :=
  h.trans ⟨rfl, rfl, rfl, by simp, fun k _ hk _ => (Below.heap_alloc W o k (heap_lt hk)).trans hk⟩
theorem Grow.drew (h : Grow B A W) : Grow B A W.drew := ⟨h.os, h.tape, h.output, h.size, h.block⟩
theorem Grow.putObj (h : Grow B A W) {l : Nat} {o : Obj} (o' : Obj) (hB : B ≤ l) (hl : W.heap[l]? = some o) (ho : o.isCells = false) : Grow B A (W.putObj l o') :=
  h.trans ⟨rfl, rfl, rfl, by simp, fun k o1 hk hc => by
    by_cases e : k = l
    · subst e; rw [hl] at hk; cases hk; rcases hc with hc | hc
      · omega
      · rw [ho] at hc; cases hc
    · exact (World.putObj_heap_other e).trans hk⟩
theorem Grow.below (h : Grow B W W') {n : Nat} (hn : n ≤ B) (hs : n ≤ W.heap.size) : Below n W W' :=
  ⟨h.os, h.tape, h.output, h.size, fun k hk => by
    have hk2 : k < W.heap.size := by omega
    have e := Array.getElem?_eq_getElem hk2
    exact (h.block k _ e (.inl (by omega))).trans e.symm⟩
theorem Below.grow (h : Below W.heap.size W W') (B : Nat) : Grow B W W' :=
  ⟨h.os, h.tape, h.output, h.size, fun k _ hk _ => (h.block k (heap_lt hk)).trans hk⟩
theorem Below.behind {n : Nat} (h : Below n A W) (hA : n ≤ A.heap.size) (g : Grow B W W') (hn : n ≤ B) : Below n A W' :=
  h.trans (g.below hn (Nat.le_trans hA h.size))
theorem Blk.grow {b : Nat} {t : TypeId} {xs : List Value} (h : Blk W b t xs) (g : Grow B W W') : Blk W' b t xs := g.block b _ h (.inr rfl)
theorem owns_grow {base : Nat} {e : TypeId} {size n : Nat} {v : Value} {xs : List Value} (h : W.ownsRow base e size v n xs) (g : Grow B W W') : W'.ownsRow base e size v n xs := by
  obtain ⟨h1, h2⟩ := h
  refine ⟨h1, ?_⟩
  rcases h2 with h2 | ⟨b, cap, cur, hv, hb, hh, r⟩
  · exact .inl h2
  · exact .inr ⟨b, cap, cur, hv, hb, g.block b _ hh (.inr rfl), r⟩

theorem Only.refl (F : Nat → Prop) (W : World) : Only F W W := ⟨rfl, rfl, rfl, Nat.le_refl _, fun _ _ h _ => h⟩
theorem Only.trans (h : Only F A W) (k : Only F W X) : Only F A X :=
  ⟨k.os.trans h.os, k.tape.trans h.tape, k.output.trans h.output, Nat.le_trans h.size k.size, fun i o hi hc => k.block i o (h.block i o hi hc) hc⟩
theorem Only.mono (h : Only F W W') (hF : ∀ k, F k → G k) : Only G W W' := ⟨h.os, h.tape, h.output, h.size, fun k o hk hc => h.block k o hk (hc.imp (fun h => fun f => h (hF k f)) id)⟩
/-- The second step may touch what is new, too. -/
theorem Only.then' (h : Only F A W) (k : Only G W X) (hG : ∀ i, G i → F i ∨ A.heap.size ≤ i) : Only F A X :=
  ⟨k.os.trans h.os, k.tape.trans h.tape, k.output.trans h.output, Nat.le_trans h.size k.size, fun i o hi hc => by
    refine k.block i o (h.block i o hi hc) ?_
    rcases hc with hc | hc
    · refine .inl (fun g => ?_)
      rcases hG i g with g | g
      · exact hc g
      · have := heap_lt hi; omega
    · exact .inr hc⟩
theorem Only.alloc (h : Only F A W) (o : Obj) : Only F A (W.alloc o) :=
  h.trans ⟨rfl, rfl, rfl, by simp, fun k _ hk _ => (Below.heap_alloc W o k (heap_lt hk)).trans hk⟩
theorem Only.drew (h : Only F A W) : Only F A W.drew := ⟨h.os, h.tape, h.output, h.size, h.block⟩
theorem Only.setCell (h : Only F A W) {p : Addr} (hp : F p.block ∨ A.heap.size ≤ p.block) (u : Value) : Only F A (W.setCell p u) := by
  have hs := (Below.refl 0 W).setCell (p := p) (Nat.zero_le _) u
  refine ⟨h.os, h.tape, h.output, Nat.le_trans h.size hs.size, fun k o hk hc => ?_⟩
  have h1 := h.block k o hk hc
  by_cases e : k = p.block
  · rcases hc with hc | hc
    · rcases hp with hp | hp
      · exact absurd (e ▸ hp) hc
      · have := heap_lt hk; omega
    · subst e
      exact (KeepsOthers.setCell W p u).same _ _ h1 hc
  · exact (Below.heap_setCell W p u k e).trans h1
theorem Only.below (h : Only F W W') {n : Nat} (hF : ∀ k, F k → n ≤ k) (hn : n ≤ W.heap.size) : Below n W W' :=
  ⟨h.os, h.tape, h.output, h.size, fun k hk => by
    have hk2 : k < W.heap.size := by omega
    have e := Array.getElem?_eq_getElem hk2
    exact (h.block k _ e (.inl (fun f => by have := hF k f; omega))).trans e.symm⟩
theorem Below.only (h : Below W.heap.size W W') (F : Nat → Prop) : Only F W W' :=
  ⟨h.os, h.tape, h.output, h.size, fun k _ hk _ => (h.block k (heap_lt hk)).trans hk⟩
theorem Only.call (h : Only F A W) (hb : Below W.heap.size W X) : Only F A X := h.trans (Below.only hb F)
theorem Blk.only {b : Nat} {t : TypeId} {xs : List Value} (h : Blk W b t xs) (g : Only F W W') (hF : ¬ F b) : Blk W' b t xs := g.block b _ h (.inl hF)
theorem owns_only {base : Nat} {e : TypeId} {size n : Nat} {v : Value} {xs : List Value} (h : W.ownsRow base e size v n xs) (g : Only F W W') (hF : ∀ k, v.ownBlock = some k → ¬ F k) : W'.ownsRow base e size v n xs := by
  obtain ⟨h1, h2⟩ := h
  refine ⟨h1, ?_⟩
  rcases h2 with h2 | ⟨b, cap, cur, hv, hb, hh, r⟩
  · exact .inl h2
  · exact .inr ⟨b, cap, cur, hv, hb, g.block b _ hh (.inl (hF b (by rw [hv]; rfl))), r⟩
theorem Only.cell (g : Only F W W') {b o : Nat} {v : Value} (hF : ¬ F b) (h : W.cell? ⟨b, o, none⟩ = some v) : W'.cell? ⟨b, o, none⟩ = some v := by
  obtain ⟨ob, ho, _⟩ := cells_of_cell h
  rw [World.cell?_of_block (w := W) ((g.block b ob ho (.inl hF)).trans ho.symm)]; exact h
theorem Only.froz (g : Only F W W') {b o : Nat} (hF : ¬ F b) (hb : b < W.heap.size) : W'.frozen? ⟨b, o, none⟩ = W.frozen? ⟨b, o, none⟩ := by
  have e := Array.getElem?_eq_getElem hb
  exact World.frozen?_of_block (w := W) ((g.block b _ e (.inl hF)).trans e.symm)
theorem Only.grownBy {r : Option Nat} (hg : W.grownBy W' r) (hr : ∀ k, r = some k → F k ∧ ∀ o, W.heap[k]? = some o → o.isCells = true) : Only F W W' :=
  ⟨hg.os, hg.tape, hg.output, hg.size, fun k o hk hc => by
    refine (hg.block k (heap_lt hk) (fun e => ?_)).trans hk
    obtain ⟨h1, h2⟩ := hr k e.symm
    rcases hc with hc | hc
    · exact hc h1
    · rw [h2 o hk] at hc; cases hc⟩
end

/-- It abides whatever grows, and turns of what is no cells from B on. -/
def Soft (B : Nat) (J : World → Prop) : Prop := ∀ W W', J W → Grow B W W' → J W'

/-- What a call of yield does, at whatever depth. -/
def Yields (P : Program) (l : Nat) (args : Array Value) (W : World) (R : Ending → World → Prop) : Prop := ∀ m, YieldAt Fence.wide m P l args W R
/-- THE ITERATOR's CONTRACT: it hands the elements xs to yield, one by one, until a round says no. -/
def SeqAt {α : Type} (P : Program) (g : Nat) (lb : Array Value) (encs : α → Array Value) (Kp : World → World → Prop) (xs : List α) (W : World) : Prop :=
  ∀ (l : Nat) (J Jx : List α → World → Prop), (∀ pre, Soft W.heap.size (J pre)) → (∀ pre, Soft W.heap.size (Jx pre)) →
    (∀ pre x W1, J pre W1 → pre ++ [x] <+: xs → Yields P l (encs x) W1 fun e W' =>
      (e = .returned (.bool true) ∧ J (pre ++ [x]) W' ∧ Kp W1 W') ∨ (e = .returned (.bool false) ∧ Jx (pre ++ [x]) W')) →
    J [] W → Calls P g (#[.func (.yield l) #[] #[]] ++ lb) W fun e W' => (∃ v, e = .returned v) ∧ (J xs W' ∨ ∃ pre, pre <+: xs ∧ Jx pre W')

/-- How a round's body may be left. -/
def eachPost {α : Type} (Kp : World → World → Prop) (I : List α → World → Prop) (Ix : Code → List α → World → Prop) (xs : List α) (W W2 : World) : Exit → Act → World → Prop
  | .normal, _, W' => Stay W2 W' ∧ Kp W W' ∧ I xs W'
  | .ret, _, W' => Stay W2 W' ∧ Ix .ret xs W'
  | .exit id, _, W' => Stay W2 W' ∧ Ix (.exit id) xs W'
  | .goto t, _, W' => Stay W2 W' ∧ Ix (.goto t) xs W'
  | .panic _, _, _ => False
  | .outgrown, _, _ => False

/-- THE CALLER's LAW. -/
theorem wpIn_each {P : Program} {n : Nat} {α : Type} {g : Operand} {ps : Array Tmp} {assign body : Code} {Q : Exit → Act → World → Prop} {a : Act} {w : World}
    {gf : Nat} {lb : Array Value} (hg : a.eval g = .func (.func gf) #[] lb) (eg : ∀ args w, (callFunc gf args).run P w = .ok (.enter gf args) w)
    {encs : α → Array Value} {Kp : World → World → Prop} {xs : List α} (hseq : ∀ W, Grow w.heap.size w W → SeqAt P gf lb encs Kp xs W)
    (hKt : ∀ {A B C : World}, Kp A B → Kp B C → Kp A C) (hKb : ∀ A B : World, Grow w.heap.size A B → Kp A B) (hps : ∀ x, (encs x).size = ps.size)
    (I : List α → World → Prop) (Ix : Code → List α → World → Prop) (hI : ∀ pre, Soft w.heap.size (I pre)) (hIx : ∀ c pre, Soft w.heap.size (Ix c pre)) (h0 : I [] w)
    (hround : ∀ (m l : Nat) (pre : List α) (x : α) (W : World), I pre W → pre ++ [x] <+: xs → w.heap.size < l →
      assign.wpIn (Fence.wide.inRound l) m P (Exit.then (fun a₁ W₁ => Stay W W₁ ∧ ∀ W₂, Grow w.heap.size W₁ W₂ → body.wpIn (Fence.wide.inRound l) m P (eachPost Kp I Ix (pre ++ [x]) W W₂) a₁ W₂) (fun _ _ _ => False))
        { tmps := (ps.zip (encs x)).foldl (fun t (p, v) => t.setIfInBounds p v) a.tmps, defers := [] } W)
    (hdone : ∀ (D : Nat) (W : World), w.heap.size ≤ D → I xs W → W.heap[D]? = some (.deferred (some [])) → Q .normal { a with defers := { target := .collected D, args := #[] } :: a.defers } W)
    (hstop : ∀ (D : Nat) (c : Code) (pre : List α) (W : World), w.heap.size ≤ D → pre <+: xs → Ix c pre W → W.heap[D]? = some (.deferred (some [])) → c.wpIn Fence.wide n P Q { a with defers := { target := .collected D, args := #[] } :: a.defers } W) :
    (Code.rangeFunc g ps assign body).wpIn Fence.wide n P Q a w := by
  refine wpIn_rangeFunc ?_
  intro fn _
  obtain ⟨rc, hrc⟩ : ∃ rc : LoopState → Option Code → Loop, rc = fun st pe => { state := st, pending := pe, fn, tmps := a.tmps, params := ps, assign, body, defers := w.heap.size } := ⟨_, rfl⟩
  have hent : (Instr.enterLoop fn a.tmps ps assign body none).run P w = .ok (w.heap.size + 1, [{ target := .collected w.heap.size, args := #[] }]) ((w.alloc (.deferred (some []))).alloc (.loop (rc .ready none))) := by
    rw [hrc]; exact run_enterLoop_outer _ _ _ _ _
  have hL1 : ((w.alloc (.deferred (some []))).alloc (.loop (rc .ready none))).heap[w.heap.size + 1]? = some (.loop (rc .ready none)) := by
    have := World.alloc_heap_new (w.alloc (.deferred (some []))) (.loop (rc .ready none)); rwa [World.size_alloc] at this
  have hD1 : ((w.alloc (.deferred (some []))).alloc (.loop (rc .ready none))).heap[w.heap.size]? = some (.deferred (some [])) :=
    (Below.heap_alloc _ _ _ (by simp)).trans (World.alloc_heap_new w _)
  have hG1 : Grow w.heap.size w ((w.alloc (.deferred (some []))).alloc (.loop (rc .ready none))) := ((Grow.refl _ w).alloc _).alloc _
  have hz1 : ((w.alloc (.deferred (some []))).alloc (.loop (rc .ready none))).heap.size = w.heap.size + 2 := by simp
  generalize (w.alloc (.deferred (some []))).alloc (.loop (rc .ready none)) = W1 at hent hL1 hD1 hG1 hz1
  refine ⟨w.heap.size + 1, [{ target := .collected w.heap.size, args := #[] }], W1, { target := .fn (.func gf) lb, args := #[.func (.yield (w.heap.size + 1)) #[] #[]] }, W1, gf,
    #[.func (.yield (w.heap.size + 1)) #[] #[]] ++ lb, W1, hent, ?_, fun _ _ => trivial, ?_, (fun h => by cases h), callsIn_wide.2 ?_⟩
  · simp only [resolve, hg]
    simp [go_sem]
  · simp [invoke, go_sem, eg]
  refine (hseq W1 hG1 (w.heap.size + 1)
    (fun pre W => I pre W ∧ W.heap[w.heap.size + 1]? = some (.loop (rc .ready none)) ∧ W.heap[w.heap.size]? = some (.deferred (some [])))
    (fun pre W => ∃ c, Ix c pre W ∧ W.heap[w.heap.size + 1]? = some (.loop (rc .done (some c))) ∧ W.heap[w.heap.size]? = some (.deferred (some [])))
    (fun pre A B h k => ⟨hI pre A B h.1 (k.mono (by omega)), k.block _ _ h.2.1 (.inl (by omega)), k.block _ _ h.2.2 (.inl (by omega))⟩)
    (fun pre A B h k => by obtain ⟨c, hc, hl, hd⟩ := h; exact ⟨c, hIx c pre A B hc (k.mono (by omega)), k.block _ _ hl (.inl (by omega)), k.block _ _ hd (.inl (by omega))⟩)
    ?_ ⟨hI _ _ _ h0 hG1, hL1, hD1⟩).mono ?_
  · rintro pre x W ⟨hi, hl, hd⟩ hpre m
    have hy := run_yield (P := P) (args := encs x) hl (by rw [hrc]; exact hps x)
    rw [hrc] at hy
    refine ⟨fn, _, assign, body, hy, roundIn_of_wpIn trivial (wpIn_mono (hround m (w.heap.size + 1) pre x W hi hpre (by omega)) ?_)⟩
    clear hy
    rintro e a₁ Wa h
    cases e with
    | normal =>
      obtain ⟨hst, hb⟩ := h
      have hl2 := hst.block _ _ hl (.inr rfl)
      have hd2 := hst.block _ _ hd (.inr rfl)
      refine ⟨_, run_beginRound hl2 (by rw [hrc]), ?_⟩
      have hg2 : Grow w.heap.size Wa (Wa.putObj (w.heap.size + 1) (.loop { rc .ready none with state := .busy })) := (Grow.refl _ Wa).putObj _ (by omega) hl2 rfl
      have hl3 : (Wa.putObj (w.heap.size + 1) (.loop { rc .ready none with state := .busy })).heap[w.heap.size + 1]? = some (.loop { rc .ready none with state := .busy }) := World.putObj_heap_same (heap_lt hl2)
      have hd3 : (Wa.putObj (w.heap.size + 1) (.loop { rc .ready none with state := .busy })).heap[w.heap.size]? = some (.deferred (some [])) := (World.putObj_heap_other (by omega)).trans hd2
      refine wpIn_mono (hb _ hg2) ?_
      have fin : ∀ (jump : Option Code) (W3 : World), Stay (Wa.putObj (w.heap.size + 1) (.loop { rc .ready none with state := .busy })) W3 →
          ∃ W4, (Instr.endRound (w.heap.size + 1) jump).run P W3 = .ok (.bool jump.isNone) W4 ∧ Grow w.heap.size W3 W4 ∧
          W4.heap[w.heap.size + 1]? = some (.loop (rc (if jump.isNone then .ready else .done) jump)) ∧ W4.heap[w.heap.size]? = some (.deferred (some [])) := fun jump W3 hs3 => by
        have hl4 := hs3.block _ _ hl3 (.inr rfl)
        have hd4 := hs3.block _ _ hd3 (.inr rfl)
        have hr := run_endRound (P := P) jump hl4
        rw [hrc] at hr
        refine ⟨_, hr, (Grow.refl _ W3).putObj _ (by omega) hl4 rfl, ?_, (World.putObj_heap_other (by omega)).trans hd4⟩
        rw [hrc]
        exact World.putObj_heap_same (heap_lt hl4)
      rintro e a3 W3 hp
      cases e with
      | normal =>
        obtain ⟨hs3, hk3, hi3⟩ := hp
        obtain ⟨W4, hr, hg4, hl4, hd4⟩ := fin none W3 hs3
        exact ⟨_, _, hr, .inl ⟨rfl, ⟨hI _ _ _ hi3 hg4, hl4, hd4⟩, hKt hk3 (hKb _ _ hg4)⟩⟩
      | ret =>
        obtain ⟨hs3, hi3⟩ := hp
        obtain ⟨W4, hr, hg4, hl4, hd4⟩ := fin (some .ret) W3 hs3
        exact ⟨_, _, hr, .inr ⟨rfl, .ret, hIx _ _ _ _ hi3 hg4, hl4, hd4⟩⟩
      | exit id =>
        obtain ⟨hs3, hi3⟩ := hp
        obtain ⟨W4, hr, hg4, hl4, hd4⟩ := fin (some (.exit id)) W3 hs3
        exact ⟨_, _, hr, .inr ⟨rfl, .exit id, hIx _ _ _ _ hi3 hg4, hl4, hd4⟩⟩
      | goto t =>
        obtain ⟨hs3, hi3⟩ := hp
        obtain ⟨W4, hr, hg4, hl4, hd4⟩ := fin (some (.goto t)) W3 hs3
        exact ⟨_, _, hr, .inr ⟨rfl, .goto t, hIx _ _ _ _ hi3 hg4, hl4, hd4⟩⟩
      | panic ch => exact hp.elim
      | outgrown => exact hp.elim
    | exit id => exact h.elim
    | goto t => exact h.elim
    | ret => exact h.elim
    | panic ch => exact h.elim
    | outgrown => exact h.elim
  · rintro e W2 ⟨⟨v, rfl⟩, h⟩
    rcases h with ⟨hi, hl, hd⟩ | ⟨pre, hpre, c, hi, hl, hd⟩
    · have hg : Grow w.heap.size W2 (W2.putObj (w.heap.size + 1) (.loop { rc .ready none with state := .exhausted })) := (Grow.refl _ W2).putObj _ (by omega) hl rfl
      exact ⟨none, _, by have := run_endLoop (P := P) hl (by rw [hrc]; simp); rw [hrc] at this ⊢; exact this, hdone w.heap.size _ (Nat.le_refl _) (hI _ _ _ hi hg) ((World.putObj_heap_other (by omega)).trans hd)⟩
    · have hg : Grow w.heap.size W2 (W2.putObj (w.heap.size + 1) (.loop { rc .done (some c) with state := .exhausted })) := (Grow.refl _ W2).putObj _ (by omega) hl rfl
      exact ⟨some c, _, by have := run_endLoop (P := P) hl (by rw [hrc]; simp); rw [hrc] at this ⊢; exact this, hstop w.heap.size c pre _ (Nat.le_refl _) hpre (hIx _ _ _ _ hi hg) ((World.putObj_heap_other (by omega)).trans hd)⟩
end Go.Proofs.YtfaicnileghjiaaDoor
