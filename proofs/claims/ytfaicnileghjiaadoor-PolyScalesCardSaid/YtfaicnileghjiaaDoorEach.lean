/-
  A range over a function whose body runs inside another range over a function. No program.
-/
import Derived.Test.YtfaicnileghjiaaDoorGrow
namespace Go.Proofs.YtfaicnileghjiaaDoor
open Go.RowKit

/-- What is no cells and lies behind l lies as it lay. -/
def Aft (l : Nat) (W W' : World) : Prop := ∀ k o, W.heap[k]? = some o → o.isCells = false → l < k → W'.heap[k]? = some o
/-- What is no cells and lies at D or from l on lies as it lay. -/
def Low (D l : Nat) (W W' : World) : Prop := ∀ k o, W.heap[k]? = some o → o.isCells = false → (k = D ∨ l ≤ k) → W'.heap[k]? = some o
theorem Only.low {F : Nat → Prop} {W W' : World} (h : Only F W W') (D l : Nat) : Low D l W W' := fun k o hk hc _ => h.block k o hk (.inr hc)
theorem Low.then' {D l : Nat} {A B C : World} (h : Low D l A B) (k : Low D l B C) : Low D l A C := fun i o hi hc hl => k i o (h i o hi hc hl) hc hl
/-- The blocks of cells from N on lie as they lay. -/
def Keeps (N : Nat) (W W' : World) : Prop := ∀ k o, N ≤ k → W.heap[k]? = some o → o.isCells = true → W'.heap[k]? = some o
theorem Keeps.trans {N : Nat} {A B C : World} (h : Keeps N A B) (k : Keeps N B C) : Keeps N A C := fun i o hi ho hc => k i o hi (h i o hi ho hc) hc
theorem Grow.keeps {B : Nat} {W W' : World} (h : Grow B W W') (N : Nat) : Keeps N W W' := fun k o _ ho hc => h.block k o ho (.inr hc)
theorem Only.keeps {F : Nat → Prop} {N : Nat} {W W' : World} (h : Only F W W') (hF : ∀ k, F k → k < N) : Keeps N W W' := fun k o hk ho _ => h.block k o ho (.inl (fun f => by have := hF k f; omega))
theorem Blk.keeps {N b : Nat} {t : TypeId} {xs : List Value} {W W' : World} (h : Blk W b t xs) (k : Keeps N W W') (hb : N ≤ b) : Blk W' b t xs := k b _ hb h rfl
theorem Aft.low {l0 D l : Nat} {W W' : World} (h : Aft l0 W W') (hD : l0 < D) (hl : l0 < l) : Low D l W W' := fun k o hk hc hh => h k o hk hc (by omega)
theorem Low.aft {l0 D l : Nat} {W W' : World} (h : Low D l W W') (hl : l ≤ l0 + 1) : Aft l0 W W' := fun k o hk hc hh => h k o hk hc (.inr (by omega))
/-- THE ITERATOR's CONTRACT: it hands the elements xs to yield, one by one, until a round says no. -/
def SeqIn {α : Type} (P : Program) (g : Nat) (lb : Array Value) (encs : α → Array Value) (Kp : World → World → Prop) (xs : List α) (W : World) : Prop :=
  ∀ (l : Nat) (J Jx : List α → World → Prop), l < W.heap.size → (∀ pre, Soft W.heap.size (J pre)) → (∀ pre, Soft W.heap.size (Jx pre)) →
    (∀ pre x W1, J pre W1 → pre ++ [x] <+: xs → Yields P l (encs x) W1 fun e W' =>
      (e = .returned (.bool true) ∧ J (pre ++ [x]) W' ∧ Kp W1 W' ∧ Aft l W1 W') ∨ (e = .returned (.bool false) ∧ Jx (pre ++ [x]) W' ∧ Aft l W1 W')) →
    J [] W → Calls P g (#[.func (.yield l) #[] #[]] ++ lb) W fun e W' => (∃ v, e = .returned v) ∧ (J xs W' ∨ ∃ pre, pre <+: xs ∧ Jx pre W')

/-- How a round's body may be left. -/
def eachEnd {α : Type} (D l : Nat) (Kp : World → World → Prop) (I : List α → World → Prop) (Ix : Code → List α → World → Prop) (xs : List α) (W W2 : World) : Exit → Act → World → Prop
  | .normal, _, W' => Low D l W2 W' ∧ Kp W W' ∧ I xs W'
  | .ret, _, W' => Low D l W2 W' ∧ Ix .ret xs W'
  | .exit id, _, W' => Low D l W2 W' ∧ Ix (.exit id) xs W'
  | .goto t, _, W' => Low D l W2 W' ∧ Ix (.goto t) xs W'
  | .panic _, _, _ => False
  | .outgrown, _, _ => False

/-- THE CALLER's LAW. -/
theorem wpIn_every {P : Program} {n : Nat} {α : Type} {g : Operand} {ps : Array Tmp} {assign body : Code} {Q : Exit → Act → World → Prop} {a : Act} {w : World}
    {gf : Nat} {lb : Array Value} (hg : a.eval g = .func (.func gf) #[] lb) (eg : ∀ args w, (callFunc gf args).run P w = .ok (.enter gf args) w)
    {encs : α → Array Value} {Kp : World → World → Prop} {xs : List α} (hseq : ∀ W, Grow w.heap.size w W → SeqIn P gf lb encs Kp xs W)
    (hKt : ∀ {A B C : World}, Kp A B → Kp B C → Kp A C) (hKb : ∀ A B : World, Grow w.heap.size A B → Kp A B) (hps : ∀ x, (encs x).size = ps.size)
    (I : List α → World → Prop) (Ix : Code → List α → World → Prop) (hI : ∀ pre, Soft w.heap.size (I pre)) (hIx : ∀ c pre, Soft w.heap.size (Ix c pre)) (h0 : I [] w)
    (hround : ∀ (m l : Nat) (pre : List α) (x : α) (W : World), I pre W → pre ++ [x] <+: xs → w.heap.size < l →
      assign.wpIn (Fence.wide.inRound l) m P (Exit.then (fun a₁ W₁ => Low w.heap.size l W W₁ ∧ ∀ W₂, Grow w.heap.size W₁ W₂ → body.wpIn (Fence.wide.inRound l) m P (eachEnd w.heap.size l Kp I Ix (pre ++ [x]) W W₂) a₁ W₂) (fun _ _ _ => False))
        { tmps := (ps.zip (encs x)).foldl (fun t (p, v) => t.setIfInBounds p v) a.tmps, defers := [] } W)
    (hdone : ∀ (D : Nat) (W : World), w.heap.size ≤ D → I xs W → W.heap[D]? = some (.deferred (some [])) → Q .normal { a with defers := { target := .collected D, args := #[] } :: a.defers } W)
    (hstop : ∀ (D : Nat) (c : Code) (pre : List α) (W : World), w.heap.size ≤ D → pre <+: xs → Ix c pre W → W.heap[D]? = some (.deferred (some [])) → c.wpIn Fence.wide n P Q { a with defers := { target := .collected D, args := #[] } :: a.defers } W) :
    (Code.rangeFunc g ps assign body).wpIn Fence.wide n P Q a w := by
  refine wpIn_rangeFunc ?_
  intro fn _
  obtain ⟨rc, hrc⟩ : ∃ rc : LoopState → Option Code → Loop, rc = fun st pe => { state := st, pending := pe, fn, tmps := a.tmps, params := ps, assign, body, defers := w.heap.size } := ⟨_, rfl⟩
  have hent : (Instr.enterLoop fn a.tmps ps assign body none).run P w = .ok (w.heap.size + 1, [{ target := .collected w.heap.size, args := #[] }]) ((w.alloc (.deferred (some []))).alloc (.loop (rc .ready none))) := by
    rw [hrc]; exact run_enterLoop_outer _ _ _ _ _
  have hL1 : ((w.alloc (.deferred (some []))).alloc (.loop (rc .ready none))).heap[w.heap.size + 1]? = some (.loop (rc .ready none)) := by
    have := World.alloc_heap_new (w.alloc (.deferred (some []))) (.loop (rc .ready none)); rwa [World.size_alloc] at this
  have hD1 : ((w.alloc (.deferred (some []))).alloc (.loop (rc .ready none))).heap[w.heap.size]? = some (.deferred (some [])) :=
    (Below.heap_alloc _ _ _ (by simp)).trans (World.alloc_heap_new w _)
  have hG1 : Grow w.heap.size w ((w.alloc (.deferred (some []))).alloc (.loop (rc .ready none))) := ((Grow.refl _ w).alloc _).alloc _
  have hz1 : ((w.alloc (.deferred (some []))).alloc (.loop (rc .ready none))).heap.size = w.heap.size + 2 := by simp
  generalize (w.alloc (.deferred (some []))).alloc (.loop (rc .ready none)) = W1 at hent hL1 hD1 hG1 hz1
  refine ⟨w.heap.size + 1, [{ target := .collected w.heap.size, args := #[] }], W1, { target := .fn (.func gf) lb, args := #[.func (.yield (w.heap.size + 1)) #[] #[]] }, W1, gf,
    #[.func (.yield (w.heap.size + 1)) #[] #[]] ++ lb, W1, hent, ?_, fun _ _ => trivial, ?_, (fun h => by cases h), callsIn_wide.2 ?_⟩
  · simp only [resolve, hg]
    simp [go_sem]
  · simp [invoke, go_sem, eg]
  refine (hseq W1 hG1 (w.heap.size + 1)
    (fun pre W => I pre W ∧ W.heap[w.heap.size + 1]? = some (.loop (rc .ready none)) ∧ W.heap[w.heap.size]? = some (.deferred (some [])))
    (fun pre W => ∃ c, Ix c pre W ∧ W.heap[w.heap.size + 1]? = some (.loop (rc .done (some c))) ∧ W.heap[w.heap.size]? = some (.deferred (some [])))
    (by rw [hz1]; omega)
    (fun pre A B h k => ⟨hI pre A B h.1 (k.mono (by omega)), k.block _ _ h.2.1 (.inl (by omega)), k.block _ _ h.2.2 (.inl (by omega))⟩)
    (fun pre A B h k => by obtain ⟨c, hc, hl, hd⟩ := h; exact ⟨c, hIx c pre A B hc (k.mono (by omega)), k.block _ _ hl (.inl (by omega)), k.block _ _ hd (.inl (by omega))⟩)
    ?_ ⟨hI _ _ _ h0 hG1, hL1, hD1⟩).mono ?_
  · rintro pre x W ⟨hi, hl, hd⟩ hpre m
    have hy := run_yield (P := P) (args := encs x) hl (by rw [hrc]; exact hps x)
    rw [hrc] at hy
    refine ⟨fn, _, assign, body, hy, roundIn_of_wpIn trivial (wpIn_mono (hround m (w.heap.size + 1) pre x W hi hpre (by omega)) ?_)⟩
    clear hy
    rintro e a₁ Wa h
    cases e with
    | normal =>
      obtain ⟨hst, hb⟩ := h
      have hl2 := hst _ _ hl rfl (.inr (Nat.le_refl _))
      have hd2 := hst _ _ hd rfl (.inl rfl)
      refine ⟨_, run_beginRound hl2 (by rw [hrc]), ?_⟩
      have hg2 : Grow w.heap.size Wa (Wa.putObj (w.heap.size + 1) (.loop { rc .ready none with state := .busy })) := (Grow.refl _ Wa).putObj _ (by omega) hl2 rfl
      have hl3 : (Wa.putObj (w.heap.size + 1) (.loop { rc .ready none with state := .busy })).heap[w.heap.size + 1]? = some (.loop { rc .ready none with state := .busy }) := World.putObj_heap_same (heap_lt hl2)
      have hd3 : (Wa.putObj (w.heap.size + 1) (.loop { rc .ready none with state := .busy })).heap[w.heap.size]? = some (.deferred (some [])) := (World.putObj_heap_other (by omega)).trans hd2
      refine wpIn_mono (hb _ hg2) ?_
      have fin : ∀ (jump : Option Code) (W3 : World), Low w.heap.size (w.heap.size + 1) (Wa.putObj (w.heap.size + 1) (.loop { rc .ready none with state := .busy })) W3 →
          ∃ W4, (Instr.endRound (w.heap.size + 1) jump).run P W3 = .ok (.bool jump.isNone) W4 ∧ Grow w.heap.size W3 W4 ∧
          W4.heap[w.heap.size + 1]? = some (.loop (rc (if jump.isNone then .ready else .done) jump)) ∧ W4.heap[w.heap.size]? = some (.deferred (some [])) ∧ Aft (w.heap.size + 1) W W4 := fun jump W3 hs3 => by
        have hl4 := hs3 _ _ hl3 rfl (.inr (Nat.le_refl _))
        have hd4 := hs3 _ _ hd3 rfl (.inl rfl)
        have hr := run_endRound (P := P) jump hl4
        rw [hrc] at hr
        refine ⟨_, hr, (Grow.refl _ W3).putObj _ (by omega) hl4 rfl, ?_, (World.putObj_heap_other (by omega)).trans hd4, fun k o hk hc hlk => ?_⟩
        · rw [hrc]
          exact World.putObj_heap_same (heap_lt hl4)
        · have q1 := hst k o hk hc (.inr (Nat.le_of_lt hlk))
          have q2 : (Wa.putObj (w.heap.size + 1) (.loop { rc .ready none with state := .busy })).heap[k]? = some o := (World.putObj_heap_other (by omega)).trans q1
          have q3 := hs3 k o q2 hc (.inr (Nat.le_of_lt hlk))
          exact (World.putObj_heap_other (by omega)).trans q3
      rintro e a3 W3 hp
      cases e with
      | normal =>
        obtain ⟨hs3, hk3, hi3⟩ := hp
        obtain ⟨W4, hr, hg4, hl4, hd4, ha4⟩ := fin none W3 hs3
        exact ⟨_, _, hr, .inl ⟨rfl, ⟨hI _ _ _ hi3 hg4, hl4, hd4⟩, hKt hk3 (hKb _ _ hg4), ha4⟩⟩
      | ret =>
        obtain ⟨hs3, hi3⟩ := hp
        obtain ⟨W4, hr, hg4, hl4, hd4, ha4⟩ := fin (some .ret) W3 hs3
        exact ⟨_, _, hr, .inr ⟨rfl, ⟨.ret, hIx _ _ _ _ hi3 hg4, hl4, hd4⟩, ha4⟩⟩
      | exit id =>
        obtain ⟨hs3, hi3⟩ := hp
        obtain ⟨W4, hr, hg4, hl4, hd4, ha4⟩ := fin (some (.exit id)) W3 hs3
        exact ⟨_, _, hr, .inr ⟨rfl, ⟨.exit id, hIx _ _ _ _ hi3 hg4, hl4, hd4⟩, ha4⟩⟩
      | goto t =>
        obtain ⟨hs3, hi3⟩ := hp
        obtain ⟨W4, hr, hg4, hl4, hd4, ha4⟩ := fin (some (.goto t)) W3 hs3
        exact ⟨_, _, hr, .inr ⟨rfl, ⟨.goto t, hIx _ _ _ _ hi3 hg4, hl4, hd4⟩, ha4⟩⟩
      | panic ch => exact hp.elim
      | outgrown => exact hp.elim
    | exit id => exact h.elim
    | goto t => exact h.elim
    | ret => exact h.elim
    | panic ch => exact h.elim
    | outgrown => exact h.elim
  · rintro e W2 ⟨⟨v, rfl⟩, h⟩
    rcases h with ⟨hi, hl, hd⟩ | ⟨pre, hpre, c, hi, hl, hd⟩
    · have hg : Grow w.heap.size W2 (W2.putObj (w.heap.size + 1) (.loop { rc .ready none with state := .exhausted })) := (Grow.refl _ W2).putObj _ (by omega) hl rfl
      exact ⟨none, _, by have := run_endLoop (P := P) hl (by rw [hrc]; simp); rw [hrc] at this ⊢; exact this, hdone w.heap.size _ (Nat.le_refl _) (hI _ _ _ hi hg) ((World.putObj_heap_other (by omega)).trans hd)⟩
    · have hg : Grow w.heap.size W2 (W2.putObj (w.heap.size + 1) (.loop { rc .done (some c) with state := .exhausted })) := (Grow.refl _ W2).putObj _ (by omega) hl rfl
      exact ⟨some c, _, by have := run_endLoop (P := P) hl (by rw [hrc]; simp); rw [hrc] at this ⊢; exact this, hstop w.heap.size c pre _ (Nat.le_refl _) hpre (hIx _ _ _ _ hi hg) ((World.putObj_heap_other (by omega)).trans hd)⟩
end Go.Proofs.YtfaicnileghjiaaDoor
