/-
  CheckShare, and what the reference says.
-/
import Derived.Test.YticpjaooegpipaaDoorParCheck
import Derived.Deep.RegionHeld3
namespace Go.Proofs.YticpjaooegpipaaDoor
open Go.RowKit

/-- The numbers ps lie from an address on. -/
def VecsAt (w : World) (g off : Nat) (ps : List Nat) : Prop := ∀ j x, ps[j]? = some x → x < B256 ∧ w.cell? ⟨g, off + j * 4, none⟩ = some (.int .u64 (limb x 0 : Int)) ∧ w.cell? ⟨g, off + j * 4 + 1, none⟩ = some (.int .u64 (limb x 1 : Int)) ∧ w.cell? ⟨g, off + j * 4 + 2, none⟩ = some (.int .u64 (limb x 2 : Int)) ∧ w.cell? ⟨g, off + j * 4 + 3, none⟩ = some (.int .u64 (limb x 3 : Int))
/-- A slice of the numbers ps. -/
def PaySl (w : World) (v : Value) (ps : List Nat) : Prop := ∃ a cap, v = .slice a ps.length cap ∧ ps.length ≤ cap ∧ (ps = [] ∨ ∃ g off, a = some ⟨g, off, none⟩ ∧ VecsAt w g off ps)
theorem PaySl.below {w w' : World} {v : Value} {ps : List Nat} (h : PaySl w v ps) (hb : Below w.heap.size w w') : PaySl w' v ps := by
  obtain ⟨a, cap, rfl, hc, h | ⟨g, off, rfl, he⟩⟩ := h
  · exact ⟨a, cap, rfl, hc, .inl h⟩
  · refine ⟨_, cap, rfl, hc, .inr ⟨g, off, rfl, fun j x hx => ?_⟩⟩
    obtain ⟨l, e0, e1, e2, e3⟩ := he j x hx
    have hk := World.block_lt_of_cell? w _ e0
    exact ⟨l, (hb.cell (p := ⟨g, off + j * 4, none⟩) hk).trans e0, (hb.cell (p := ⟨g, off + j * 4 + 1, none⟩) hk).trans e1, (hb.cell (p := ⟨g, off + j * 4 + 2, none⟩) hk).trans e2, (hb.cell (p := ⟨g, off + j * 4 + 3, none⟩) hk).trans e3⟩
/-- What CheckShare finds. -/
def chkS (f t i n : Int) (ps : List Nat) : Int := if ¬ knownF f then 3 else if ¬ (1 ≤ t ∧ t ≤ 255) then 4 else if ¬ (1 ≤ i ∧ i ≤ 255) then 12 else if ¬ (0 ≤ n ∧ n ≤ 65535) then 6 else if ¬ (ps.length = cntC n) then 8 else if ¬ (∀ x ∈ ps, x < modF f) then 9 else 0
noncomputable def allb (m : Nat) (ps : List Nat) : Nat := veil (if ∀ x ∈ ps, x < m then 1 else 0)
theorem allb_eq (m : Nat) (ps : List Nat) : allb m ps = if ∀ x ∈ ps, x < m then 1 else 0 := veil_eq _
theorem and_allb (m x : Nat) (ps : List Nat) : bits .and .u64 (msk (allb m ps) : Int) (msk (brw x m) : Int) = (msk (allb m (ps ++ [x])) : Int) := by
  have e : allb m (ps ++ [x]) = if allb m ps = 1 ∧ x < m then 1 else 0 := by
    rw [allb_eq, allb_eq]
    by_cases h1 : ∀ y ∈ ps, y < m
    · by_cases h2 : x < m
      · have hL : ∀ y ∈ ps ++ [x], y < m := by
          intro y hy
          rw [List.mem_append, List.mem_singleton] at hy
          rcases hy with h | rfl
          · exact h1 y h
          · exact h2
        rw [if_pos hL, if_pos h1, if_pos ⟨rfl, h2⟩]
      · rw [if_neg (by intro h; exact h2 (h x (by simp))), if_neg (fun h => h2 h.2)]
    · rw [if_neg (fun h => h1 fun y hy => h y (by simp [hy])), if_neg h1, if_neg (by rintro ⟨h, _⟩; cases h)]
  have l : allb m ps = 0 ∨ allb m ps = 1 := by rw [allb_eq]; split <;> simp
  rw [e, brw_eq, msk_eq, msk_eq, msk_eq]
  by_cases h2 : x < m
  · rcases l with h | h <;> simp [h, h2] <;> decide
  · rcases l with h | h <;> simp [h, h2] <;> decide
theorem allb_nil (m x : Nat) (h : x < m) : msk (brw x m) = msk (allb m []) := by rw [brw_eq, if_pos h, allb_eq, if_pos (by intro y hy; cases hy)]
theorem allb_t {m : Nat} {ps : List Nat} (h : ∀ x ∈ ps, x < m) : ((msk (allb m ps) : Int) == 0) = false := by rw [allb_eq, if_pos h, msk_eq]; rfl
theorem allb_f {m : Nat} {ps : List Nat} (h : ¬ ∀ x ∈ ps, x < m) : ((msk (allb m ps) : Int) == 0) = true := by rw [allb_eq, if_neg h, msk_eq]; rfl
theorem contains_zero {id i o0 o1 o2 o3 s0 s1 s2 s3 : Int} (m : Nat) (hm : m < B256) (h0 : 0 < m) (w : World) :
    Calls Tryd.prog 30 #[.agg #[.int .i64 id, .int .u64 (limb m 0 : Int), .int .u64 (limb m 1 : Int), .int .u64 (limb m 2 : Int), .int .u64 (limb m 3 : Int), .int .u64 i, .int .u64 o0, .int .u64 o1, .int .u64 o2, .int .u64 o3, .int .u64 s0, .int .u64 s1, .int .u64 s2, .int .u64 s3], .agg #[.int .u64 0, .int .u64 0, .int .u64 0, .int .u64 0]] w (Ret (.int .u64 (msk (allb m []) : Int)) w) := by
  rw [vec_zero, ← allb_nil m 0 h0]
  exact contains_any m 0 hm (by decide) w
theorem sub_eq {m x : Nat} (_hm : m < B256) (hx : x < B256) (h : x < m) (w : World) : (Op.equalIn 10000 45 (vec (red m x 0)) (vec x)).run Tryd.prog w = .ok true w := by
  rw [eqv_vec (red_lt _ _ hx) hx, red_eq, if_pos ⟨rfl, h⟩]; simp
theorem sub_ne {m x : Nat} (hm : m < B256) (h0 : 0 < m) (hx : x < B256) (h : ¬ x < m) (w : World) : (Op.equalIn 10000 45 (vec (red m x 0)) (vec x)).run Tryd.prog w = .ok false w := by
  rw [eqv_vec (red_lt _ _ hx) hx, red_eq, if_neg (fun e => h e.2), dif_eq, decide_eq_false]
  unfold B256 at *; omega
end Go.Proofs.YticpjaooegpipaaDoor
