/-
  Reverse of a slice of shares.
-/
import Derived.Test.YticpjaooegpipaaDoorParRow
namespace Go.Proofs.YticpjaooegpipaaDoor
open Go.RowKit

/-- The row's cells are the shares'. -/
def ShRow (ss : List Shr) (xs : List Value) : Prop := xs.length = ss.length * 5 ∧ ∀ j s, ss[j]? = some s → ∀ i, i < 5 → xs[j * 5 + i]? = s.cells[i]?
theorem ShRow.mk (ss : List Shr) : ShRow ss (shs ss) := ⟨shs_len ss, fun j s hs i hi => shs_get ss j s hs i hi⟩
theorem ShRow.set {ss : List Shr} {xs : List Value} (h : ShRow ss xs) {k : Nat} (hk : k < ss.length) (s : Shr) :
    ShRow (ss.set k s) (((((xs.set (k * 5) (.int .i64 s.f)).set (k * 5 + 1) (.int .i64 s.t)).set (k * 5 + 2) (.int .i64 s.i)).set (k * 5 + 3) (.int .i64 s.n)).set (k * 5 + 4) s.v) := by
  obtain ⟨hl, h⟩ := h
  refine ⟨by simp [hl], fun j s' hj i hi => ?_⟩
  by_cases hjk : j = k
  · subst hjk
    rw [List.getElem?_set_self (by omega)] at hj
    obtain rfl : s = s' := Option.some.inj hj
    match i, hi with
    | 0, _ => simp [List.getElem?_set, hl]; omega
    | 1, _ => simp [List.getElem?_set, hl]; omega
    | 2, _ => simp [List.getElem?_set, hl]; omega
    | 3, _ => simp [List.getElem?_set, hl]; omega
    | 4, _ => simp [List.getElem?_set, hl]; omega
  · rw [List.getElem?_set_ne (by omega)] at hj
    have e := h j s' hj i hi
    rw [List.getElem?_set_ne (by omega), List.getElem?_set_ne (by omega), List.getElem?_set_ne (by omega), List.getElem?_set_ne (by omega), List.getElem?_set_ne (by omega), e]
/-- It turns the row to another order. -/
def Turned (v : Value) (ss : List Shr) (base : Nat) (w : World) : Ending → World → Prop := fun e w' => e = .returned (.tuple #[]) ∧ ∃ rr xs, rr.Perm ss ∧ ShRow rr xs ∧ w'.ownsRow base 31 5 v ss.length xs ∧ Below base w w'
set_option maxRecDepth 100000 in
set_option maxHeartbeats 1000000 in
theorem reverse_any (v : Value) (ss : List Shr) (base : Nat) (xs : List Value) (w : World) (h0 : 0 < ss.length) (hl : ss.length < 1000000) (hp : ∀ s ∈ ss, ∃ a n c, s.v = .slice a n c) (hR : ShRow ss xs) (hO : w.ownsRow base 31 5 v ss.length xs) :
    Calls Tryd.prog 23 #[v] w (Turned v ss base w) := by
  obtain ⟨a, cap, rfl, _, hg⟩ := owns_shape hO
  obtain ⟨g, rfl⟩ := hg h0
  obtain ⟨m, hm⟩ : ∃ m, ss.length = m := ⟨_, rfl⟩
  have HM := hid hm
  have HP := hid hp
  have HR := hid hR
  have HO0 := hO
  unfold Turned
  rw [hm] at h0 hl HO0 ⊢
  have HO := hid HO0
  clear hg hR hO HO0 hp hm
  go_enter Tryd.func23, Tryd.ntmps23
  go_wp2
  go_loopw [2, 3] (fun x y wr => ∃ (i : Nat) (rr : List Shr) (ys : List Value), i ≤ m ∧ x = .int .i64 (i : Int) ∧ y = .int .i64 ((m : Int) - 1 - (i : Int)) ∧ rr.Perm ss ∧ ShRow rr ys ∧ wr.ownsRow base 31 5 (.slice (some ⟨g, 0, none⟩) m cap) m ys ∧ Below base w wr) (fun x _ _ => m - (intOf x).toNat)
  case atStart => exact ⟨0, ss, xs, Nat.zero_le _, rfl, by simp, List.Perm.refl _, HR.out, HO.out, Below.refl _ w⟩
  case round =>
    obtain ⟨i, rr, ys, hi, rfl, rfl, hperm, hrow, hown, hB⟩ := hrel
    have HB := hid hB
    have HOW := hid hown
    have HRW := hid hrow
    have HPM := hid hperm
    clear hB hrow hperm
    by_cases hlt : (i : Int) < (m : Int) - 1 - (i : Int)
    · obtain ⟨j, hj⟩ : ∃ j : Nat, (m : Int) - 1 - (i : Int) = (j : Int) := ⟨m - 1 - i, by omega⟩
      have hij : i < j := by omega
      have hjm : j < m := by omega
      have HJ := hid hj
      rw [hj]
      clear hlt hj
      have hrl : rr.length = m := HPM.out.length_eq.trans HM.out
      obtain ⟨s, hx⟩ : ∃ s, rr[i]? = some s := ⟨rr[i]'(by omega), List.getElem?_eq_getElem _⟩
      obtain ⟨t, hy⟩ : ∃ s, rr[j]? = some s := ⟨rr[j]'(by omega), List.getElem?_eq_getElem _⟩
      obtain ⟨sa, sn, sc, hsv⟩ := HP.out s (HPM.out.subset (List.mem_of_getElem? hx))
      obtain ⟨ta, tn, tc, htv⟩ := HP.out t (HPM.out.subset (List.mem_of_getElem? hy))
      have HX := hid hx
      have HY := hid hy
      have d0 : wr.cell? ⟨g, i * 5, none⟩ = _ := (hown.cellAt (i * 5) (by omega)).trans (HRW.out.2 i s hx 0 (by omega))
      have u0 : wr.cell? ⟨g, j * 5, none⟩ = _ := (hown.cellAt (j * 5) (by omega)).trans (HRW.out.2 j t hy 0 (by omega))
      have f0 := hown.frozenAt (i * 5)
      have k0 := hown.frozenAt (j * 5)
      have d1 : wr.cell? ⟨g, i * 5 + 1, none⟩ = _ := (hown.cellAt (i * 5 + 1) (by omega)).trans (HRW.out.2 i s hx 1 (by omega))
      have u1 : wr.cell? ⟨g, j * 5 + 1, none⟩ = _ := (hown.cellAt (j * 5 + 1) (by omega)).trans (HRW.out.2 j t hy 1 (by omega))
      have f1 := hown.frozenAt (i * 5 + 1)
      have k1 := hown.frozenAt (j * 5 + 1)
      have d2 : wr.cell? ⟨g, i * 5 + 2, none⟩ = _ := (hown.cellAt (i * 5 + 2) (by omega)).trans (HRW.out.2 i s hx 2 (by omega))
      have u2 : wr.cell? ⟨g, j * 5 + 2, none⟩ = _ := (hown.cellAt (j * 5 + 2) (by omega)).trans (HRW.out.2 j t hy 2 (by omega))
      have f2 := hown.frozenAt (i * 5 + 2)
      have k2 := hown.frozenAt (j * 5 + 2)
      have d3 : wr.cell? ⟨g, i * 5 + 3, none⟩ = _ := (hown.cellAt (i * 5 + 3) (by omega)).trans (HRW.out.2 i s hx 3 (by omega))
      have u3 : wr.cell? ⟨g, j * 5 + 3, none⟩ = _ := (hown.cellAt (j * 5 + 3) (by omega)).trans (HRW.out.2 j t hy 3 (by omega))
      have f3 := hown.frozenAt (i * 5 + 3)
      have k3 := hown.frozenAt (j * 5 + 3)
      have d4 : wr.cell? ⟨g, i * 5 + 4, none⟩ = _ := (hown.cellAt (i * 5 + 4) (by omega)).trans (HRW.out.2 i s hx 4 (by omega))
      have u4 : wr.cell? ⟨g, j * 5 + 4, none⟩ = _ := (hown.cellAt (j * 5 + 4) (by omega)).trans (HRW.out.2 j t hy 4 (by omega))
      have f4 := hown.frozenAt (i * 5 + 4)
      have k4 := hown.frozenAt (j * 5 + 4)
      simp only [Shr.cells, List.getElem?_cons_zero, List.getElem?_cons_succ, hsv] at d0 d1 d2 d3 d4
      simp only [Shr.cells, List.getElem?_cons_zero, List.getElem?_cons_succ, htv] at u0 u1 u2 u3 u4
      have HSV := hid hsv
      have HTV := hid htv
      clear hx hy hsv htv hown hrl
      go_wp2
      go_region
      go_wp2
      go_roundw
      case rel =>
        have hrl : rr.length = m := HPM.out.length_eq.trans HM.out
        have zg : base ≤ g := (HOW.out.lt g rfl).1
        have q1 := HRW.out.set (k := i) (by omega) t
        have q2 := q1.set (k := j) (by rw [List.length_set]; omega) s
        rw [HTV.out, HSV.out] at q2
        refine ⟨i + 1, (rr.set i t).set j s, _, by omega, by go_num, by rw [← HJ.out]; go_num, ?_, q2, ?_, ?_⟩
        · have p := @List.set_set_perm _ rr i j (by omega) (by omega)
          rw [(List.getElem?_eq_some_iff.1 HX.out).2, (List.getElem?_eq_some_iff.1 HY.out).2] at p
          exact p.trans HPM.out
        · exact ((((((((((HOW.out.stored (i * 5) _).1.stored (i * 5 + 1) _).1.stored (i * 5 + 2) _).1.stored (i * 5 + 3) _).1.stored (i * 5 + 4) _).1.stored (j * 5) _).1.stored (j * 5 + 1) _).1.stored (j * 5 + 2) _).1.stored (j * 5 + 3) _).1.stored (j * 5 + 4) _).1.drew
        · exact ((((((((((HB.out.setCell zg _).setCell zg _).setCell zg _).setCell zg _).setCell zg _).setCell zg _).setCell zg _).setCell zg _).setCell zg _).setCell zg _).drew
      case measure => simp [intOf]; omega
    · have HJ := hid hlt
      go_wp2
      go_end0
      exact ⟨rfl, rr, HPM.out, ys, HRW.out, HOW.out, HB.out⟩
end Go.Proofs.YticpjaooegpipaaDoor
