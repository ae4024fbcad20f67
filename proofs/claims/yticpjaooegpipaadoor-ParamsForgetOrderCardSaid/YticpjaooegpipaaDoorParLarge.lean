/-
  Large.
-/
import Derived.Test.YticpjaooegpipaaDoorParList
namespace Go.Proofs.YticpjaooegpipaaDoor
open Go.RowKit Go.Maps

/-- It says 1, or 0 where the shares are few and small. -/
def SaysLarge (ss : List Shr) (w : World) : Ending → World → Prop := fun e w' => ∃ z : Int, e = .returned (.int .i64 z) ∧ Below w.heap.size w w' ∧ (z = 1 ∨ z = 0 ∧ ss.length ≤ 300 ∧ ∀ s ∈ ss, s.ps.length ≤ 5000)
set_option maxRecDepth 100000 in
set_option maxHeartbeats 300000 in
theorem large_any (v : Value) (ss : List Shr) (w : World) (hS : ShSl w v ss) : Calls Tryd.prog 14 #[v] w (SaysLarge ss w) := by
  obtain ⟨a, cap, rfl, _, hrow⟩ := hS
  obtain ⟨m, hm⟩ : ∃ m, ss.length = m := ⟨_, rfl⟩
  have HM := hid hm
  have HR := hid hrow
  rw [hm]
  clear hm hrow
  go_enter Tryd.func14, Tryd.ntmps14
  go_wp2
  go_loopw [8, 3] (fun x y wr => ∃ k q : Nat, k ≤ m ∧ x = .int .i64 (k : Int) ∧ y = .int .i64 (q : Int) ∧ q ≤ 5000 ∧ (k ≠ 0 → m ≤ 300) ∧ (∀ s ∈ ss.take k, s.ps.length ≤ 5000) ∧ Below w.heap.size w wr) (fun x _ _ => m - (intOf x).toNat)
  case atStart => exact ⟨0, 0, Nat.zero_le _, rfl, rfl, by omega, by omega, by simp, Below.refl _ w⟩
  case round =>
    obtain ⟨k, q, hk, rfl, rfl, hq, hf, hall, hB⟩ := hrel
    have zB := hB.size
    have HB := hid hB
    have HF := hid hf
    have HALL := hid hall
    clear hB hf hall
    by_cases hlt : k < m
    · obtain ⟨s, hx⟩ : ∃ s, ss[k]? = some s := ⟨ss[k]'(by rw [HM.out]; exact hlt), List.getElem?_eq_getElem _⟩
      obtain ⟨g, off, hga, he⟩ : ∃ g off, a = some ⟨g, off, none⟩ ∧ ShsAt w g off ss := by
        rcases HR.out with h | h
        · subst h; cases hx
        · exact h
      subst hga
      obtain ⟨lp, e0, e1, e2, e3, e4⟩ := he k s hx
      have hg := World.block_lt_of_cell? w _ e0
      have hgr := Nat.lt_of_lt_of_le hg zB
      have HX := hid hx
      have d0 := (HB.out.cell (p := ⟨g, off + k * 5, none⟩) hg).trans e0
      have d1 := (HB.out.cell (p := ⟨g, off + k * 5 + 1, none⟩) hg).trans e1
      have d2 := (HB.out.cell (p := ⟨g, off + k * 5 + 2, none⟩) hg).trans e2
      have d3 := (HB.out.cell (p := ⟨g, off + k * 5 + 3, none⟩) hg).trans e3
      have d4 := (HB.out.cell (p := ⟨g, off + k * 5 + 4, none⟩) hg).trans e4
      obtain ⟨pa, pc, hv, _⟩ := lp
      obtain ⟨pm, hpm⟩ : ∃ n, s.ps.length = n := ⟨_, rfl⟩
      have HPM := hid hpm
      rw [hpm] at hv
      rw [hv] at d4
      have BB := hid (HB.out.alloc zB (.cells #[.int .i64 s.f, .int .i64 s.t, .int .i64 s.i, .int .i64 s.n, .slice pa pm pc] 31))
      clear e0 e1 e2 e3 e4 he hx hv hpm
      go_wp2
      all_goals first
        | (go_ret; exact ⟨1, rfl, BB.out, .inl rfl⟩)
        | skip
      all_goals go_roundw
      case rel => exact ⟨k + 1, q + (1 + pm), by omega, by go_num, by go_num, by omega, fun _ => by omega, by intro y hy; rw [take_snoc HX.out, List.mem_append, List.mem_singleton] at hy; rcases hy with h | h; exact HALL.out y h; rw [h, HPM.out]; omega, BB.out⟩
      case measure => simp [intOf]; omega
    · obtain rfl : k = m := by omega
      have hend : ss.length ≤ 300 ∧ ∀ s ∈ ss, s.ps.length ≤ 5000 := by
        refine ⟨?_, fun s hs => HALL.out s (by rw [List.take_of_length_le (by rw [HM.out]; exact Nat.le_refl _)]; exact hs)⟩
        rw [HM.out]
        by_cases h0 : k = 0
        · omega
        · exact HF.out h0
      have HE := hid hend
      clear hend
      go_wp2
      go_ret
      exact ⟨0, rfl, HB.out, .inr ⟨rfl, HE.out⟩⟩
end Go.Proofs.YticpjaooegpipaaDoor
