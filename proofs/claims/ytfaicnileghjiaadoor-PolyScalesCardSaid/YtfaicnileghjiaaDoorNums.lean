/-
  Lists of numbers: how they lie as slices of four words.
-/
import Derived.Test.YtfaicnileghjiaaDoorNum
import Derived.Test.YtfaicnileghjiaaDoorGrow
import Derived.Laws.OwnMore
import Derived.Laws.AppendOwn
namespace Go.Proofs.YtfaicnileghjiaaDoor
open Go.RowKit

/-- The numbers xs lie from an address on. -/
def NumsAt (w : World) (g off : Nat) (xs : List Nat) : Prop := ∀ j x, xs[j]? = some x → x < B256 ∧ w.cell? ⟨g, off + j * 4, none⟩ = some (.int .u64 (limb x 0 : Int)) ∧ w.cell? ⟨g, off + j * 4 + 1, none⟩ = some (.int .u64 (limb x 1 : Int)) ∧ w.cell? ⟨g, off + j * 4 + 2, none⟩ = some (.int .u64 (limb x 2 : Int)) ∧ w.cell? ⟨g, off + j * 4 + 3, none⟩ = some (.int .u64 (limb x 3 : Int))
/-- A slice of the numbers xs. -/
def NumSl (w : World) (v : Value) (xs : List Nat) : Prop := ∃ a cap, v = .slice a xs.length cap ∧ xs.length ≤ cap ∧ (xs = [] ∨ ∃ g off, a = some ⟨g, off, none⟩ ∧ NumsAt w g off xs)
theorem NumsAt.below {w w' : World} {g off : Nat} {xs : List Nat} (h : NumsAt w g off xs) (hb : Below w.heap.size w w') : NumsAt w' g off xs := fun j x hx => by
  obtain ⟨l, e0, e1, e2, e3⟩ := h j x hx
  have hk : g < w.heap.size := World.block_lt_of_cell? w _ e0
  exact ⟨l, (hb.cell (p := ⟨g, off + j * 4, none⟩) hk).trans e0, (hb.cell (p := ⟨g, off + j * 4 + 1, none⟩) hk).trans e1, (hb.cell (p := ⟨g, off + j * 4 + 2, none⟩) hk).trans e2, (hb.cell (p := ⟨g, off + j * 4 + 3, none⟩) hk).trans e3⟩
theorem NumSl.below {w w' : World} {v : Value} {xs : List Nat} (h : NumSl w v xs) (hb : Below w.heap.size w w') : NumSl w' v xs := by
  obtain ⟨a, cap, rfl, hc, h | ⟨g, off, rfl, he⟩⟩ := h
  · exact ⟨a, cap, rfl, hc, .inl h⟩
  · exact ⟨_, cap, rfl, hc, .inr ⟨g, off, rfl, he.below hb⟩⟩
theorem NumSl.lt {w : World} {v : Value} {xs : List Nat} (h : NumSl w v xs) : ∀ x ∈ xs, x < B256 := fun x hx => by
  obtain ⟨a, cap, rfl, hc, h | ⟨g, off, rfl, he⟩⟩ := h
  · subst h; cases hx
  · obtain ⟨j, hj⟩ := List.mem_iff_getElem?.1 hx
    exact (he j x hj).1
theorem NumsAt.only {F : Nat → Prop} {w w' : World} {g off : Nat} {xs : List Nat} (h : NumsAt w g off xs) (ho : Only F w w') (hF : ¬ F g) : NumsAt w' g off xs := fun j x hx => by
  obtain ⟨l, e0, e1, e2, e3⟩ := h j x hx
  exact ⟨l, ho.cell hF e0, ho.cell hF e1, ho.cell hF e2, ho.cell hF e3⟩
theorem NumsAt.grow {B : Nat} {w w' : World} {g off : Nat} {xs : List Nat} (h : NumsAt w g off xs) (hg : Grow B w w') : NumsAt w' g off xs := fun j x hx => by
  obtain ⟨l, e0, e1, e2, e3⟩ := h j x hx
  have key : ∀ o v, w.cell? ⟨g, o, none⟩ = some v → w'.cell? ⟨g, o, none⟩ = some v := fun o v e => by
    obtain ⟨ob, h1, h2⟩ := cells_of_cell e
    rw [World.cell?_of_block (w := w) ((hg.block g ob h1 (.inr h2)).trans h1.symm)]; exact e
  exact ⟨l, key _ _ e0, key _ _ e1, key _ _ e2, key _ _ e3⟩
theorem NumSl.grow {B : Nat} {w w' : World} {v : Value} {xs : List Nat} (h : NumSl w v xs) (hg : Grow B w w') : NumSl w' v xs := by
  obtain ⟨a, cap, rfl, hc, h | ⟨g, off, rfl, he⟩⟩ := h
  · exact ⟨a, cap, rfl, hc, .inl h⟩
  · exact ⟨_, cap, rfl, hc, .inr ⟨g, off, rfl, he.grow hg⟩⟩
theorem NumSl.only {F : Nat → Prop} {w w' : World} {a : Option Addr} {n cap : Nat} {xs : List Nat} (h : NumSl w (.slice a n cap) xs) (ho : Only F w w') (hF : ∀ ad, a = some ad → ¬ F ad.block) : NumSl w' (.slice a n cap) xs := by
  obtain ⟨a', cap', e, hc, h | ⟨g, off, rfl, he⟩⟩ := h
  · exact ⟨a', cap', e, hc, .inl h⟩
  · refine ⟨_, cap', e, hc, .inr ⟨g, off, rfl, he.only ho ?_⟩⟩
    cases e
    exact hF _ rfl
/-- The numbers' cells. -/
noncomputable def nums (xs : List Nat) : List Value := xs.flatMap limbs
theorem nums_len : ∀ xs : List Nat, (nums xs).length = xs.length * 4
  | [] => rfl
  | x :: r => by
    have := nums_len r
    unfold nums at *
    rw [List.flatMap_cons, List.length_append, this]
    simp; omega
theorem nums_append (xs ys : List Nat) : nums (xs ++ ys) = nums xs ++ nums ys := by unfold nums; exact List.flatMap_append
theorem nums_snoc (xs : List Nat) (x : Nat) : nums (xs ++ [x]) = nums xs ++ [.int .u64 (limb x 0 : Int), .int .u64 (limb x 1 : Int), .int .u64 (limb x 2 : Int), .int .u64 (limb x 3 : Int)] := by
  rw [nums_append]; simp [nums]
theorem nums_get : ∀ (xs : List Nat) (j x : Nat), xs[j]? = some x → ∀ i, i < 4 → (nums xs)[j * 4 + i]? = some (.int .u64 (limb x i : Int))
  | [], j, x, h, i, hi => by simp at h
  | y :: r, 0, x, h, i, hi => by
    obtain rfl : y = x := by simpa using h
    unfold nums
    rw [List.flatMap_cons, Nat.zero_mul, Nat.zero_add, List.getElem?_append_left (by simpa using hi)]
    exact limbs_get y hi
  | y :: r, j + 1, x, h, i, hi => by
    have := nums_get r j x (by simpa using h) i hi
    unfold nums at *
    rw [List.flatMap_cons, List.getElem?_append_right (by simp; omega), ← this]
    congr 1
    simp; omega
theorem owns_form {w : World} {base : Nat} {e : TypeId} {size n : Nat} {v : Value} {xs : List Value} (h : w.ownsRow base e size v n xs) : ∃ a c, v = .slice a n c ∧ n ≤ c ∧ (∀ ad, a = some ad → ∃ g, ad = ⟨g, 0, none⟩ ∧ base ≤ g ∧ g < w.heap.size) ∧ (0 < n → ∃ g, a = some ⟨g, 0, none⟩) := by
  obtain ⟨_, ⟨rfl, rfl⟩ | ⟨g, cap, cur, rfl, hb, hh, hnc, _⟩⟩ := h
  · exact ⟨none, 0, rfl, Nat.le_refl _, fun ad h => (by cases h), fun h => absurd h (Nat.lt_irrefl _)⟩
  · exact ⟨_, cap, rfl, hnc, fun ad h => (by cases h; exact ⟨g, rfl, hb, lt_of_block hh⟩), fun _ => ⟨g, rfl⟩⟩
/-- An owned row that holds numbers' cells is a slice of the numbers. -/
theorem nums_sl {w : World} {base : Nat} {e : TypeId} {v : Value} {xs : List Nat} {ys : List Value} (h : w.ownsRow base e 4 v xs.length ys) (hx : ∀ j x, xs[j]? = some x → ∀ i, i < 4 → ys[j * 4 + i]? = some (.int .u64 (limb x i : Int))) (hp : ∀ x ∈ xs, x < B256) : NumSl w v xs := by
  obtain ⟨a, c, rfl, hc, _, hg⟩ := owns_form h
  refine ⟨a, c, rfl, hc, ?_⟩
  by_cases h0 : xs = []
  · exact .inl h0
  · obtain ⟨g, rfl⟩ := hg (List.length_pos_iff.2 h0)
    refine .inr ⟨g, 0, rfl, fun j x hs => ?_⟩
    have hj : j < xs.length := (List.getElem?_eq_some_iff.1 hs).1
    have hat : ∀ i, i < 4 → w.cell? ⟨g, j * 4 + i, none⟩ = some (.int .u64 (limb x i : Int)) := fun i hi => (h.cellAt (j * 4 + i) (by omega)).trans (hx j x hs i hi)
    rw [Nat.zero_add]
    exact ⟨hp x (List.mem_of_getElem? hs), hat 0 (by omega), hat 1 (by omega), hat 2 (by omega), hat 3 (by omega)⟩
theorem nums_own {w : World} {base : Nat} {e : TypeId} {v : Value} {xs : List Nat} (h : w.ownsRow base e 4 v xs.length (nums xs)) (hp : ∀ x ∈ xs, x < B256) : NumSl w v xs := nums_sl h (fun j x hs i hi => nums_get xs j x hs i hi) hp
/-- It returns a new slice of the numbers xs. -/
def RetNums (t : TypeId) (xs : List Nat) (w : World) : Ending → World → Prop := RetOwn t 4 xs.length (nums xs) w
theorem take_next {α : Type} {l : List α} {k : Nat} {x : α} (h : l[k]? = some x) : l.take (k + 1) = l.take k ++ [x] := by
  rw [List.take_add_one, h]; rfl
end Go.Proofs.YtfaicnileghjiaaDoor
