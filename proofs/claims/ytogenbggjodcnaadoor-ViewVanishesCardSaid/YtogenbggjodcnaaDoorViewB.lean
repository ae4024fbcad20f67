/-
  The polynomial that vanishes at points, shifting: plain; boxes.
-/
import Derived.Test.YtogenbggjodcnaaDoorLags
import Derived.Test.YtogenbggjodcnaaDoorKit
/-
  The polynomial that vanishes at points and is 1 at zero; shifting by it. Plain (for law22).
-/
namespace Go.Proofs.YtogenbggjodcnaaDoor

/-- One more point. -/
noncomputable def vanS (p : Nat) (o : List Nat) (x : Nat) : List Nat := pmulV p o [1, subm p 0 (invm p x)]
noncomputable def vanV (p : Nat) (xs : List Nat) : List Nat := xs.foldl (vanS p) [1]
theorem vanS_len {p x : Nat} {o : List Nat} (hp : 0 < p) (ho : o ≠ []) : (vanS p o x).length = o.length + 1 := by
  unfold vanS
  rw [pmulV_cl hp ho (by simp), cl_len, pm_len _ _ (zl_ne ho) (zl_ne (by simp)), zl_len, zl_len]
  simp
theorem vanS_ne {p x : Nat} {o : List Nat} (hp : 0 < p) (ho : o ≠ []) : vanS p o x ≠ [] := fun e => by
  have := vanS_len (x := x) hp ho
  rw [e] at this
  simp at this
theorem foldl_len {p : Nat} (hp : 0 < p) : ∀ (xs : List Nat) {o : List Nat}, o ≠ [] → (xs.foldl (vanS p) o).length = o.length + xs.length
  | [], _, _ => rfl
  | x :: r, o, ho => by
    show (r.foldl (vanS p) (vanS p o x)).length = _
    rw [foldl_len hp r (vanS_ne hp ho), vanS_len hp ho, List.length_cons]; omega
theorem vanV_len {p : Nat} (hp : 0 < p) (xs : List Nat) : (vanV p xs).length = xs.length + 1 := by
  unfold vanV; rw [foldl_len hp xs (by simp)]; simp; omega
theorem evm_lin {p z : Nat} (x : Nat) : evm p x [1, z] = cn p (1 + (x : Int) * (z : Int)) := by
  rw [evm_cn]
  refine congrArg _ ?_
  simp [zl, pe]
theorem lin_zero {p z : Nat} (hp : 1 < p) : evm p 0 [1, z] = 1 := by
  rw [evm_lin]
  have : (1 + ((0 : Nat) : Int) * (z : Int)) = ((1 : Nat) : Int) := by simp
  rw [this, cn_nat hp]
theorem lin_root {p x : Nat} (hF : Fer p) (hp : 2 < p) (hx : x < p) (h0 : x ≠ 0) : evm p x [1, subm p 0 (invm p x)] = 0 := by
  have h := inv_left hF hp h0 hx
  have hq : 0 < p := by omega
  rw [evm_lin]
  have e1 : Cg p (subm p 0 (invm p x) : Int) (-(invm p x : Int)) := by
    rw [subm_cn 0 (Nat.le_of_lt (invm_lt _ hq))]
    exact (cn_cg hq _).trans (.of (by omega))
  have e2 : Cg p ((x : Int) * (invm p x : Int)) 1 := by
    have := cn_cg hq ((x : Int) * (invm p x : Int))
    rw [← mulm_cn, h] at this
    exact this.symm
  have e3 : Cg p (1 + (x : Int) * (subm p 0 (invm p x) : Int)) 0 := by
    refine ((Cg.refl p 1).add ((Cg.refl p (x : Int)).mul e1)).trans ?_
    have : (1 + (x : Int) * -(invm p x : Int)) = 1 - (x : Int) * (invm p x : Int) := by grind
    exact (Cg.of this).trans (((Cg.refl p 1).sub e2).trans (.of (by omega)))
  rw [e3.cn, cn_zero]
theorem foldl_zero {p : Nat} (hp : 1 < p) : ∀ (xs : List Nat) (o : List Nat), evm p 0 o = 1 → evm p 0 (xs.foldl (vanS p) o) = 1
  | [], _, h => h
  | x :: r, o, h => foldl_zero hp r _ (by
    unfold vanS
    rw [evm_pmul (by omega), h, lin_zero hp, mulm_eq]; exact Nat.mod_eq_of_lt hp)
/-- It is 1 at zero. -/
theorem van_zero {p : Nat} (hp : 1 < p) (xs : List Nat) : evm p 0 (vanV p xs) = 1 := foldl_zero hp xs [1] (evm_one hp)
theorem foldl_root {p x : Nat} (hF : Fer p) (hp : 2 < p) (hx : x < p) (h0 : x ≠ 0) : ∀ (xs : List Nat) (o : List Nat), evm p x o = 0 ∨ x ∈ xs → evm p x (xs.foldl (vanS p) o) = 0
  | [], _, h => by
    rcases h with h | h
    · exact h
    · cases h
  | y :: r, o, h => foldl_root hF hp hx h0 r _ (by
    rcases h with h | h
    · left
      unfold vanS
      rw [evm_pmul (by omega), h, mulm_eq, Nat.zero_mul, Nat.zero_mod]
    · rcases List.mem_cons.1 h with e | e
      · left
        unfold vanS
        rw [evm_pmul (by omega), ← e, lin_root hF hp hx h0, mulm_eq, Nat.mul_zero, Nat.zero_mod]
      · exact .inr e)
/-- It vanishes at the points. -/
theorem van_root {p x : Nat} (hF : Fer p) (hp : 2 < p) {xs : List Nat} (hx : x < p) (h0 : x ≠ 0) (hm : x ∈ xs) : evm p x (vanV p xs) = 0 := foldl_root hF hp hx h0 xs [1] (.inr hm)
end Go.Proofs.YtogenbggjodcnaaDoor
/-
  Shifting a polynomial: its value at zero, its values at the points, and back. Plain (for law22).
-/
namespace Go.Proofs.YtogenbggjodcnaaDoor

theorem pc_single (d : Int) : ∀ (a : List Int) (t : Nat), pc a [d] t = a.getD t 0 * d
  | [], t => by rw [gd_nil, Int.zero_mul]; cases t <;> rfl
  | x :: a, 0 => by rw [pc, gd_head, gd_head]
  | x :: a, t + 1 => by rw [pc, gd_cons, gd_cons, gd_nil, pc_single d a t, Int.mul_zero, Int.zero_add]
theorem map_get {p d : Nat} (a : List Nat) (t : Nat) : (a.map (mulm p d)).getD t 0 = mulm p d (a.getD t 0) := by
  rw [List.getD_eq_getElem?_getD, List.getD_eq_getElem?_getD, List.getElem?_map]
  cases h : a[t]? with
  | none => show 0 = mulm p d 0; rw [mulm_eq, Nat.mul_zero, Nat.zero_mod]
  | some x => rfl
/-- The reference's multiple. -/
theorem pmul_single {p : Nat} (hp : 0 < p) {a : List Nat} (ha : a ≠ []) (d : Nat) : pmulV p a [d] = a.map (mulm p d) := by
  rw [pmulV_cl hp ha (by simp)]
  have hl : (pm (zl a) (zl [d])).length = a.length := by rw [pm_len _ _ (zl_ne ha) (zl_ne (by simp)), zl_len, zl_len]; simp
  refine ext_nat (by rw [cl_len, hl, List.length_map]) fun t _ => ?_
  rw [cl_get, pm_get, map_get, mulm_cn]
  refine congrArg _ ?_
  show pc (zl a) [(d : Int)] t = _
  rw [pc_single, zl_get, Int.mul_comm]
theorem evm_const {p d : Nat} (x : Nat) (hd : d < p) : evm p x [d] = d := by
  rw [evm_cn]
  have e : pe (x : Int) (zl [d]) = (d : Int) := by simp [zl, pe]
  rw [e, cn_nat hd]
theorem evm_map {p d : Nat} (x : Nat) (hd : d < p) {a : List Nat} (ha : a ≠ []) : evm p x (a.map (mulm p d)) = mulm p (evm p x a) d := by
  rw [← pmul_single (by omega) ha d, evm_pmul (by omega), evm_const x hd]
/-- The shifted polynomial. -/
noncomputable def shfV (p : Nat) (xs c : List Nat) (y : Nat) : List Nat := paddV p c ((vanV p xs).map (mulm p (subm p y (c.getD 0 0))))
theorem van_ne {p : Nat} (hp : 0 < p) (xs : List Nat) : vanV p xs ≠ [] := fun e => by
  have := vanV_len hp xs
  rw [e] at this
  simp at this
/-- The same values at the points. -/
theorem shf_root {p x : Nat} (hF : Fer p) (hp : 2 < p) {xs c : List Nat} {y : Nat} (hx : x < p) (h0 : x ≠ 0) (hm : x ∈ xs) : evm p x (shfV p xs c y) = evm p x c := by
  have hq : 0 < p := by omega
  unfold shfV
  rw [evm_padd hq, evm_map x (subm_lt _ _ hq) (van_ne hq xs), van_root hF hp hx h0 hm, mulm_eq, Nat.zero_mul, Nat.zero_mod, addm_eq, Nat.add_zero]
  refine Nat.mod_eq_of_lt ?_
  rw [evm_cn]; exact cn_lt hq _
theorem evm_head {p : Nat} (hp : 0 < p) {c : List Nat} (hc : ∀ z ∈ c, z < p) : evm p 0 c = c.getD 0 0 := by
  rw [evm_cn]
  cases c with
  | nil => exact cn_zero p
  | cons z r =>
    have e : pe ((0 : Nat) : Int) (zl (z :: r)) = (z : Int) := by simp [zl, pe]
    rw [e, cn_nat (hc z (List.mem_cons_self ..))]; rfl
/-- The wanted value at zero. -/
theorem shf_zero {p y : Nat} (hp : 1 < p) {xs c : List Nat} (hc : ∀ z ∈ c, z < p) (hy : y < p) : evm p 0 (shfV p xs c y) = y := by
  have hq : 0 < p := by omega
  have h0 : c.getD 0 0 < p := by
    cases c with
    | nil => exact hq
    | cons z r => exact hc z (List.mem_cons_self ..)
  unfold shfV
  rw [evm_padd hq, evm_map 0 (subm_lt _ _ hq) (van_ne hq xs), van_zero hp, evm_head hq hc, mulm_eq, Nat.one_mul, subm_eq, Nat.mod_mod, addm_eq, Nat.add_mod_mod]
  rw [show c.getD 0 0 + (y + p - c.getD 0 0) = y + p by omega, Nat.add_mod_right]
  exact Nat.mod_eq_of_lt hy
theorem padd_get22 (p : Nat) (a b : List Nat) (t : Nat) : (paddV p a b).getD t 0 = addm p (a.getD t 0) (b.getD t 0) := by
  rw [paddV_cl, cl_get, pa_get, zl_get, zl_get, addm_cn]
theorem padd_lt22 {p : Nat} (hp : 0 < p) (a b : List Nat) : ∀ z ∈ paddV p a b, z < p := by rw [paddV_cl]; exact cl_lt hp _
/-- And back. -/
theorem shf_back {p y : Nat} (hp : 1 < p) {xs c : List Nat} (hc : ∀ z ∈ c, z < p) (hl : xs.length + 1 ≤ c.length) (hy : y < p) : shfV p xs (shfV p xs c y) (c.getD 0 0) = c := by
  have hq : 0 < p := by omega
  have hs0 : (shfV p xs c y).getD 0 0 = y := by
    exact (evm_head hq (c := shfV p xs c y) (fun z hz => padd_lt22 hq _ _ z hz)).symm.trans (shf_zero hp hc hy)
  have h0 : c.getD 0 0 < p := hc _ (getD_mem (by omega))
  have hlen : (shfV p xs c y).length = c.length := by unfold shfV; rw [paddV_len, List.length_map, vanV_len hq]; omega
  refine ext_nat (by show (paddV p _ _).length = _; rw [paddV_len, hlen, List.length_map, vanV_len hq]; omega) fun t ht => ?_
  have ht' : t < c.length := by
    have e : (shfV p xs (shfV p xs c y) (c.getD 0 0)).length = c.length := by show (paddV p _ _).length = _; rw [paddV_len, hlen, List.length_map, vanV_len hq]; omega
    omega
  show (paddV p (shfV p xs c y) ((vanV p xs).map (mulm p (subm p (c.getD 0 0) ((shfV p xs c y).getD 0 0))))).getD t 0 = _
  rw [hs0, padd_get22, map_get]
  unfold shfV
  rw [padd_get22, map_get]
  have d1 : Cg p (subm p y (c.getD 0 0) : Int) ((y : Int) - (c.getD 0 0 : Int)) := by rw [subm_cn y (Nat.le_of_lt h0)]; exact cn_cg hq _
  have d2 : Cg p (subm p (c.getD 0 0) y : Int) ((c.getD 0 0 : Int) - (y : Int)) := by rw [subm_cn _ (Nat.le_of_lt hy)]; exact cn_cg hq _
  generalize hv : (vanV p xs).getD t 0 = v
  generalize hct : c.getD t 0 = z
  have hz : z < p := by rw [← hct]; exact hc _ (getD_mem ht')
  have m1 : Cg p (mulm p (subm p y (c.getD 0 0)) v : Int) (((y : Int) - (c.getD 0 0 : Int)) * (v : Int)) := by rw [mulm_cn]; exact (cn_cg hq _).trans (d1.mul (.refl _ _))
  have m2 : Cg p (mulm p (subm p (c.getD 0 0) y) v : Int) (((c.getD 0 0 : Int) - (y : Int)) * (v : Int)) := by rw [mulm_cn]; exact (cn_cg hq _).trans (d2.mul (.refl _ _))
  have a1 : Cg p (addm p z (mulm p (subm p y (c.getD 0 0)) v) : Int) ((z : Int) + ((y : Int) - (c.getD 0 0 : Int)) * (v : Int)) := by rw [addm_cn]; exact (cn_cg hq _).trans ((Cg.refl _ _).add m1)
  have a2 : Cg p (addm p (addm p z (mulm p (subm p y (c.getD 0 0)) v)) (mulm p (subm p (c.getD 0 0) y) v) : Int) (z : Int) := by
    rw [addm_cn]
    exact (cn_cg hq _).trans ((a1.add m2).trans (.of (by grind)))
  exact a2.eq (addm_lt _ _ hq) hz
end Go.Proofs.YtogenbggjodcnaaDoor
/-
  Slices of numbers behind a store into a box that holds a slice. No program.
-/
namespace Go.Proofs.YtogenbggjodcnaaDoor
open Go.RowKit

theorem Blk.cellv {w : World} {b o : Nat} {t : TypeId} {v x : Value} (h : Blk w b t [v]) (hc : w.cell? ⟨b, o, none⟩ = some x) : x = v := by
  unfold Blk at h
  rw [World.cell?] at hc
  simp only [h] at hc
  match o with
  | 0 => simpa using hc.symm
  | o + 1 => simp at hc
theorem nums_to {w w' : World} (e : w = w') {v : Value} {xs : List Nat} (h : NumSl w v xs) : NumSl w' v xs := e ▸ h
theorem NumSl.box {w w' : World} {b n c : Nat} {t : TypeId} {a : Option Addr} {v : Value} {xs : List Nat} (h : NumSl w v xs) (hX : Blk w b t [.slice a n c]) (ho : Only (fun q => q = b) w w') : NumSl w' v xs := by
  obtain ⟨a', cap', e, hc, h | ⟨g, off, rfl, he⟩⟩ := h
  · exact ⟨a', cap', e, hc, .inl h⟩
  · by_cases h0 : xs = []
    · exact ⟨_, cap', e, hc, .inl h0⟩
    · refine ⟨_, cap', e, hc, .inr ⟨g, off, rfl, he.only ho ?_⟩⟩
      rintro rfl
      obtain ⟨x, hx⟩ : ∃ x, xs[0]? = some x := ⟨xs[0]'(List.length_pos_iff.2 h0), List.getElem?_eq_getElem _⟩
      have := hX.cellv (he 0 x hx).2.1
      cases this
end Go.Proofs.YtogenbggjodcnaaDoor
