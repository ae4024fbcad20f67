/-
  Lists of shares: how they lie, and what CheckShares finds.
-/
import Derived.Test.YticpjaooegpipaaDoorParSh
import Derived.Maps.OwnOps
import Derived.Maps.OwnSet
namespace Go.Proofs.YticpjaooegpipaaDoor
open Go.RowKit Go.Maps

/-- A share: its numbers, its payload as a value, the payload's numbers. -/
structure Shr where
  f : Int
  t : Int
  i : Int
  n : Int
  v : Value
  ps : List Nat
abbrev Shr.cells (s : Shr) : List Value := [.int .i64 s.f, .int .i64 s.t, .int .i64 s.i, .int .i64 s.n, s.v]
noncomputable def Shr.chk (s : Shr) : Int := chkS s.f s.t s.i s.n s.ps
/-- The shares ss lie from an address on. -/
def ShsAt (w : World) (g off : Nat) (ss : List Shr) : Prop := ∀ j s, ss[j]? = some s → PaySl w s.v s.ps ∧ w.cell? ⟨g, off + j * 5, none⟩ = some (.int .i64 s.f) ∧ w.cell? ⟨g, off + j * 5 + 1, none⟩ = some (.int .i64 s.t) ∧ w.cell? ⟨g, off + j * 5 + 2, none⟩ = some (.int .i64 s.i) ∧ w.cell? ⟨g, off + j * 5 + 3, none⟩ = some (.int .i64 s.n) ∧ w.cell? ⟨g, off + j * 5 + 4, none⟩ = some s.v
/-- A slice of the shares ss. -/
def ShSl (w : World) (v : Value) (ss : List Shr) : Prop := ∃ a cap, v = .slice a ss.length cap ∧ ss.length ≤ cap ∧ (ss = [] ∨ ∃ g off, a = some ⟨g, off, none⟩ ∧ ShsAt w g off ss)
theorem ShsAt.below {w w' : World} {g off : Nat} {ss : List Shr} (h : ShsAt w g off ss) (hb : Below w.heap.size w w') : ShsAt w' g off ss := fun j s hs => by
  obtain ⟨l, e0, e1, e2, e3, e4⟩ := h j s hs
  have hk := World.block_lt_of_cell? w _ e0
  exact ⟨l.below hb, (hb.cell (p := ⟨g, off + j * 5, none⟩) hk).trans e0, (hb.cell (p := ⟨g, off + j * 5 + 1, none⟩) hk).trans e1, (hb.cell (p := ⟨g, off + j * 5 + 2, none⟩) hk).trans e2, (hb.cell (p := ⟨g, off + j * 5 + 3, none⟩) hk).trans e3, (hb.cell (p := ⟨g, off + j * 5 + 4, none⟩) hk).trans e4⟩
theorem ShSl.below {w w' : World} {v : Value} {ss : List Shr} (h : ShSl w v ss) (hb : Below w.heap.size w w') : ShSl w' v ss := by
  obtain ⟨a, cap, rfl, hc, h | ⟨g, off, rfl, he⟩⟩ := h
  · exact ⟨a, cap, rfl, hc, .inl h⟩
  · exact ⟨_, cap, rfl, hc, .inr ⟨g, off, rfl, he.below hb⟩⟩
/-- The first share's parameters are another's. -/
def other (ss : List Shr) (s : Shr) : Prop := ∃ s0, ss[0]? = some s0 ∧ ¬ (s.f = s0.f ∧ s.t = s0.t ∧ s.n = s0.n)
def mixd (ss : List Shr) (k : Nat) : Prop := ∃ s ∈ ss.take k, other ss s
def few (ss : List Shr) : Prop := ∀ s, ss[0]? = some s → (ss.length : Int) < s.t
open Classical in
noncomputable def chkG (ss : List Shr) : Int := if mixd ss ss.length then 14 else if ¬ (ss.map Shr.i).Nodup then 15 else if few ss then 16 else 0
noncomputable def bad : List Shr → Option Int
  | [] => none
  | s :: r => if s.chk = 0 then bad r else some s.chk
/-- What CheckShares finds. -/
noncomputable def chkL (ss : List Shr) : Int := match bad ss with | some e => e | none => chkG ss
theorem bad_at : ∀ (ss : List Shr) (k : Nat) (s : Shr), (∀ x ∈ ss.take k, x.chk = 0) → ss[k]? = some s → s.chk ≠ 0 → bad ss = some s.chk
  | [], k, s, _, hs, _ => by simp at hs
  | x :: r, 0, s, _, hs, hb => by
    obtain rfl : x = s := by simpa using hs
    unfold bad; rw [if_neg hb]
  | x :: r, k + 1, s, hk, hs, hb => by
    unfold bad
    rw [if_pos (hk x (by simp))]
    exact bad_at r k s (fun y hy => hk y (by simp [hy])) (by simpa using hs) hb
theorem bad_none : ∀ (ss : List Shr), (∀ x ∈ ss, x.chk = 0) → bad ss = none
  | [], _ => rfl
  | x :: r, h => by
    unfold bad
    rw [if_pos (h x (by simp))]
    exact bad_none r fun y hy => h y (by simp [hy])
theorem chkL_bad {ss : List Shr} {k : Nat} {s : Shr} (hk : ∀ x ∈ ss.take k, x.chk = 0) (hs : ss[k]? = some s) (hb : s.chk ≠ 0) : chkL ss = s.chk := by
  unfold chkL; rw [bad_at ss k s hk hs hb]
theorem chkL_good {ss : List Shr} (h : ∀ x ∈ ss, x.chk = 0) : chkL ss = chkG ss := by
  unfold chkL; rw [bad_none ss h]
theorem take_snoc {α : Type} {l : List α} {k : Nat} {x : α} (h : l[k]? = some x) : l.take (k + 1) = l.take k ++ [x] := by
  rw [List.take_add_one, h]; rfl
theorem chk_index {s : Shr} (h : s.chk = 0) : (Lit.int .i64 s.i).wf = true := by
  unfold Shr.chk chkS at h
  have : 1 ≤ s.i ∧ s.i ≤ 255 := by
    by_cases h1 : knownF s.f
    · by_cases h2 : 1 ≤ s.t ∧ s.t ≤ 255
      · by_cases h3 : 1 ≤ s.i ∧ s.i ≤ 255
        · exact h3
        · simp [h1, h2, h3] at h
      · simp [h1, h2] at h
    · simp [h1] at h
  exact WalkArith.wf_i64 (by omega)

/-! ### the map of the indices -/
theorem keyInt : Keyed Tryd.prog 3 := int_keyed Tryd.underlying3
theorem zeroInt (w : World) : (zeroValue 3).run Tryd.prog w = .ok (.int .i64 0) w := by kernel_rfl
/-- The block is a map whose keys are the numbers xs. -/
def IxMap (w : World) (b : Nat) (xs : List Int) : Prop := ∃ (n : Nat) (D : DataW Unit), w.ownsMap Tryd.prog 3 (plainElem Tryd.prog 3) b n D ∧ n ≤ xs.length ∧ size D ≤ xs.length ∧ (size D < xs.length ↔ ¬ xs.Nodup) ∧ ∀ x, has D (.int .i64 x) = decide (x ∈ xs)
theorem IxMap.made (w : World) : IxMap (w.alloc (.map #[] 0)) w.heap.size [] := ⟨0, _, World.ownsMap_made _ _ _ _, Nat.le_refl _, Nat.le_refl _, by simp [Maps.size], fun x => by simp [Maps.has]⟩
theorem nodup_snoc {xs : List Int} {x : Int} : (xs ++ [x]).Nodup ↔ xs.Nodup ∧ x ∉ xs := by
  rw [List.nodup_append]
  constructor
  · rintro ⟨h1, _, h2⟩; exact ⟨h1, fun h => h2 x h x (by simp) rfl⟩
  · rintro ⟨h1, h2⟩; exact ⟨h1, by simp, fun a ha b hb => by simp at hb; subst hb; exact fun e => h2 (e ▸ ha)⟩
theorem IxMap.step {w w' : World} {b n : Nat} {D : DataW Unit} {xs : List Int} {x : Int} {d : DataW Unit} (ho : w.ownsMap Tryd.prog 3 (plainElem Tryd.prog 3) b n D) (hn : n ≤ xs.length) (h1 : size D ≤ xs.length) (h2 : size D < xs.length ↔ ¬ xs.Nodup) (h3 : ∀ x, has D (.int .i64 x) = decide (x ∈ xs))
    (ho' : w'.ownsMap Tryd.prog 3 (plainElem Tryd.prog 3) b (n + 1) (D.put (.int .i64 x) d)) : IxMap w' b (xs ++ [x]) := by
  have hsz := size_put (k := .int .i64 x) (ho.tidy keyInt) d
  have hl : (xs ++ [x]).length = xs.length + 1 := by simp
  refine ⟨n + 1, _, ho', by omega, ?_, ?_, fun y => ?_⟩
  · rw [hsz]; split <;> omega
  · rw [hsz, h3 x, nodup_snoc]
    by_cases hx : x ∈ xs
    · rw [if_pos (by simp [hx]), hl]
      exact ⟨fun _ h => h.2 hx, fun _ => by omega⟩
    · rw [if_neg (by simp [hx]), hl]
      exact ⟨fun h hh => (h2.1 (by omega)) hh.1, fun h => by have := h2.2 (fun hh => h ⟨hh, hx⟩); omega⟩
  · by_cases hy : y = x
    · subst hy
      rw [has_put_same (k := .int .i64 y) ho.isMap trivial d]; simp
    · rw [has_put_other (by simp [hy]) d, h3 y]; simp [hy]
end Go.Proofs.YticpjaooegpipaaDoor
