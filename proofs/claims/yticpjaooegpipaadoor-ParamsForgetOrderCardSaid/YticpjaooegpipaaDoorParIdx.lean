/-
  Indices; Large.
-/
import Derived.Test.YticpjaooegpipaaDoorParList
import Derived.Maps.AppendAt
namespace Go.Proofs.YticpjaooegpipaaDoor
open Go.RowKit Go.Maps

theorem info_int : (Tryd.prog.info? 3).map (fun i => (i.zero, i.size, i.bytes)) = some (some (.int .i64 0), 1, 8) := by kernel_rfl
/-- The indices as cells. -/
def ixs (ss : List Shr) : List Value := ss.map fun s => .int .i64 s.i
theorem ixs_snoc {ss : List Shr} {k : Nat} {s : Shr} (h : ss[k]? = some s) : ixs (ss.take (k + 1)) = ixs (ss.take k) ++ [.int .i64 s.i] := by
  unfold ixs; rw [take_snoc h, List.map_append]; rfl
set_option maxRecDepth 100000 in
set_option maxHeartbeats 2000000 in
theorem indices_any (v : Value) (ss : List Shr) (w : World) (hS : ShSl w v ss) (hl : ss.length < 1000000) : Calls Tryd.prog 21 #[v] w (RetOwn 3 1 ss.length (ixs ss) w) := by
  obtain ⟨i0, hi, hz0, hz1, hz2⟩ := info_parts info_int
  obtain ⟨a, cap, rfl, _, hrow⟩ := hS
  obtain ⟨m, hm⟩ : ∃ m, ss.length = m := ⟨_, rfl⟩
  have HM := hid hm
  have HR := hid hrow
  rw [hm] at hl ⊢
  clear hm hrow
  go_enter Tryd.func21, Tryd.ntmps21
  go_wp2
  go_loopw [8, 3] (fun x y wr => ∃ k : Nat, k ≤ m ∧ x = .int .i64 (k : Int) ∧ wr.ownsRow w.heap.size 3 1 y k (ixs (ss.take k)) ∧ Below w.heap.size w wr) (fun x _ _ => m - (intOf x).toNat)
  case atStart => exact ⟨0, Nat.zero_le _, rfl, by rw [List.take_zero]; exact World.ownsRow_nil _ _ _ _, Below.refl _ w⟩
  case round =>
    obtain ⟨k, hk, rfl, hown, hB⟩ := hrel
    have zB := hB.size
    have HB := hid hB
    have HO := hid hown
    clear hB
    by_cases hlt : k < m
    · obtain ⟨s, hx⟩ : ∃ s, ss[k]? = some s := ⟨ss[k]'(by rw [HM.out]; exact hlt), List.getElem?_eq_getElem _⟩
      obtain ⟨g, off, hga, he⟩ : ∃ g off, a = some ⟨g, off, none⟩ ∧ ShsAt w g off ss := by
        rcases HR.out with h | h
        · subst h; cases hx
        · exact h
      subst hga
      obtain ⟨lp, e0, e1, e2, e3, e4⟩ := he k s hx
      have hg := World.block_lt_of_cell? w _ e0
      have hgr := Nat.lt_of_lt_of_le hg zB
      have HX := hid hx
      have d0 := (HB.out.cell (p := ⟨g, off + k * 5, none⟩) hg).trans e0
      have d1 := (HB.out.cell (p := ⟨g, off + k * 5 + 1, none⟩) hg).trans e1
      have d2 := (HB.out.cell (p := ⟨g, off + k * 5 + 2, none⟩) hg).trans e2
      have d3 := (HB.out.cell (p := ⟨g, off + k * 5 + 3, none⟩) hg).trans e3
      have d4 := (HB.out.cell (p := ⟨g, off + k * 5 + 4, none⟩) hg).trans e4
      obtain ⟨pa, pc, hv, _⟩ := lp
      obtain ⟨pm, hpm⟩ : ∃ n, s.ps.length = n := ⟨_, rfl⟩
      rw [hpm] at hv
      rw [hv] at d4
      clear e0 e1 e2 e3 e4 he hx hv hpm
      go_wp2_with (at_builtin; refine wpList_append_own _ rfl _ _ 42 rfl w.heap.size 3 i0 (.int .i64 0) 1 8 Tryd.underlying42 hi hz0 hz1 hz2 rfl (by decide) _ k _ rfl ((HO.out.alloc _).alloc _) ⟨wr.heap.size + 1, 0, none⟩ 1 1 [.int .i64 s.i] rfl rfl (Blk.news (Blk.new (by simp))) (by simp [Value.oneCell']) (by unfold maxLen; omega) (by omega) (by simp; omega) ?_; intro v1 w1 hown1 hgrow1 _)
      have B1 := hid (Below.grown ((HB.out.alloc zB (.cells #[.int .i64 s.f, .int .i64 s.t, .int .i64 s.i, .int .i64 s.n, .slice pa pm pc] 31)).alloc (by simp; omega) (.cells #[.int .i64 s.i] 3)) hgrow1 (by simp; omega) (fun j hj => (HO.out.lt j hj).1))
      have O1 := hid hown1
      clear hown1 hgrow1
      go_roundw
      case rel => exact ⟨k + 1, by omega, by go_num, by rw [ixs_snoc HX.out]; exact O1.out, B1.out⟩
      case measure => simp [intOf]; omega
    · obtain rfl : k = m := by omega
      have htk : ss.take k = ss := List.take_of_length_le (by rw [HM.out]; exact Nat.le_refl _)
      rw [htk] at HO
      clear htk
      go_wp2
      go_ret
      exact ⟨_, rfl, HO.out, HB.out⟩
end Go.Proofs.YticpjaooegpipaaDoor
