/-
  Products of linear factors, Lagrange's sum and its values, the check of indices: plain.
-/
import Derived.Test.YtogenbggjodcnaaDoorPolys
import Derived.Test.YtogenbggjodcnaaDoorPrimeI
import GoSem.Core.Value
/-
  Products of linear polynomials, roots modulo a prime, Lagrange's polynomial: plain.
-/
namespace Go.Proofs.YtogenbggjodcnaaDoor

/-- The product with X - y. -/
def lin (a : List Int) (y : Int) : List Int := pm a [-y, 1]
theorem lin_ne {a : List Int} (y : Int) (h : a ≠ []) : lin a y ≠ [] := by
  intro e
  have := pm_len a [-y, 1] h (by simp)
  unfold lin at e
  rw [e] at this
  have h2 : 0 < a.length := List.length_pos_iff.2 h
  simp at this
theorem lin_len {a : List Int} (y : Int) (h : a ≠ []) : (lin a y).length = a.length + 1 := by
  unfold lin; rw [pm_len a _ h (by simp)]; simp
theorem lin_get (a : List Int) (y : Int) (t : Nat) : (lin a y).getD t 0 = a.getD t 0 * -y + (if t = 0 then 0 else a.getD (t - 1) 0) := by
  unfold lin; rw [pm_get, pc_lin]; split <;> omega
theorem lin_swap {a : List Int} (h : a ≠ []) (x y : Int) : lin (lin a x) y = lin (lin a y) x := by
  refine ext_gd (by rw [lin_len _ (lin_ne _ h), lin_len _ h, lin_len _ (lin_ne _ h), lin_len _ h]) fun t _ => ?_
  simp only [lin_get]
  rcases t with _ | _ | t
  · rw [if_pos rfl, if_pos rfl]; grind
  · simp only [Nat.zero_add, Nat.sub_self, if_true, if_neg (by decide : ¬ (1 : Nat) = 0)]; grind
  · simp only [if_neg (by omega : ¬ t + 1 + 1 = 0), if_neg (by omega : ¬ t + 1 + 1 - 1 = 0)]; grind
theorem pe_lin (x y : Int) (a : List Int) : pe x (lin a y) = pe x a * (x - y) := by
  unfold lin; rw [pe_pm]; simp [pe]; grind
/-- The product of all. -/
def fl (a : List Int) (ys : List Int) : List Int := ys.foldl lin a
theorem fl_ne {a : List Int} (h : a ≠ []) (ys : List Int) : fl a ys ≠ [] := by
  induction ys generalizing a with
  | nil => exact h
  | cons y r ih => exact ih (lin_ne y h)
theorem fl_len {a : List Int} (h : a ≠ []) (ys : List Int) : (fl a ys).length = a.length + ys.length := by
  induction ys generalizing a with
  | nil => rfl
  | cons y r ih => show (fl (lin a y) r).length = _; rw [ih (lin_ne y h), lin_len y h, List.length_cons]; omega
theorem fl_lin {a : List Int} (h : a ≠ []) (x : Int) (ys : List Int) : fl (lin a x) ys = lin (fl a ys) x := by
  induction ys generalizing a with
  | nil => rfl
  | cons y r ih =>
    show fl (lin (lin a x) y) r = lin (fl (lin a y) r) x
    rw [lin_swap h, ih (lin_ne y h)]
theorem fl_append (a : List Int) (l r : List Int) : fl a (l ++ r) = fl (fl a l) r := by unfold fl; rw [List.foldl_append]
theorem fl_mid {a : List Int} (h : a ≠ []) (l r : List Int) (x : Int) : fl a (l ++ x :: r) = lin (fl a (l ++ r)) x := by
  rw [fl_append, fl_append]
  show fl (lin (fl a l) x) r = _
  rw [fl_lin (fl_ne h l)]
theorem pe_fl (x : Int) (a ys : List Int) : pe x (fl a ys) = ys.foldl (fun d y => d * (x - y)) (pe x a) := by
  induction ys generalizing a with
  | nil => rfl
  | cons y r ih => show pe x (fl (lin a y) r) = _; rw [ih, pe_lin]; rfl
/-- DIVISION of a product by its own factor. -/
theorem pq_lin {q : List Int} (x : Int) (h : q ≠ []) : pq x (lin q x) = q := by
  have hl := lin_len x h
  refine ext_gd (by rw [pq_len, hl]; omega) fun t _ => ?_
  rw [pq_get]
  have key : ∀ d t, q.length ≤ t + d → pe x ((lin q x).drop (t + 1)) = q.getD t 0 := by
    intro d
    induction d with
    | zero =>
      intro t ht
      rw [List.drop_eq_nil_of_le (by omega), gd_none (by omega)]; rfl
    | succ d ih =>
      intro t ht
      rw [pe_drop, ih (t + 1) (by omega), lin_get, if_neg (by omega), show t + 1 - 1 = t by omega]
      grind
  exact key q.length t (by omega)
/-- A prime divides a product only with a factor. -/
theorem cg_prod {p : Nat} (h : Fer p) (hp : 2 < p) {a b : Int} (hab : Cg p (a * b) 0) (ha : ¬ Cg p a 0) : Cg p b 0 := by
  have hp0 : 0 < p := by omega
  have hn : cn p a ≠ 0 := fun e => ha (by have := (cn_cg hp0 a).symm; rw [e] at this; exact this)
  have h1 := inv_left h hp hn (cn_lt hp0 a)
  rw [mulm_cn] at h1
  have h2 : Cg p ((cn p a : Int) * (invm p (cn p a) : Int)) 1 := by
    have := cg_of_cn hp0 (a := (cn p a : Int) * (invm p (cn p a) : Int)) (b := ((1 : Nat) : Int)) (by rw [h1, cn_nat (by omega)])
    exact this
  have h3 : Cg p (a * (invm p (cn p a) : Int)) 1 := ((cn_cg hp0 a).symm.mul (.refl _ _)).trans h2
  have h4 : Cg p (a * (invm p (cn p a) : Int) * b) (1 * b) := h3.mul (.refl _ _)
  have h5 : Cg p (a * b * (invm p (cn p a) : Int)) (0 * (invm p (cn p a) : Int)) := hab.mul (.refl _ _)
  refine (Cg.of (by omega)).trans (h4.symm.trans ((Cg.of (by grind)).trans (h5.trans (.of (by omega)))))
theorem pe_gd0 (y : Int) : ∀ (b : List Int), (∀ t, b.getD t 0 = 0) → pe y b = 0
  | [], _ => rfl
  | c :: r, h => by
    have h0 := h 0
    have hr := pe_gd0 y r (fun t => by have := h (t + 1); rwa [gd_cons] at this)
    rw [gd_head] at h0
    simp [pe, h0, hr]
/-- The value depends on the coefficients alone. -/
theorem pe_gd (y : Int) : ∀ (a b : List Int), (∀ t, a.getD t 0 = b.getD t 0) → pe y a = pe y b
  | [], b, h => (pe_gd0 y b (fun t => by rw [← h t, gd_nil])).symm
  | c :: r, [], h => pe_gd0 y (c :: r) (fun t => by rw [h t, gd_nil])
  | c :: r, d :: s, h => by
    have h0 := h 0
    have hr := pe_gd y r s (fun t => by have := h (t + 1); rwa [gd_cons, gd_cons] at this)
    rw [gd_head, gd_head] at h0
    simp [pe, h0, hr]
/-- ROOTS: a polynomial with as many roots as coefficients, no two congruent, is zero. -/
theorem roots {p : Nat} (h : Fer p) (hp : 2 < p) : ∀ (xs : List Int) (a : List Int), a.length ≤ xs.length → xs.Pairwise (fun x y => ¬ Cg p x y) → (∀ x ∈ xs, Cg p (pe x a) 0) → ∀ t, Cg p (a.getD t 0) 0
  | [], a, hl, _, _, t => by rw [gd_none (by simp at hl; simp [hl])]; exact .refl _ _
  | x :: r, a, hl, hd, hr, t => by
    have hx := hr x (by simp)
    have hq : ∀ t, Cg p ((pq x a).getD t 0) 0 := roots h hp r (pq x a) (by rw [pq_len]; simp at hl; omega) (List.Pairwise.of_cons hd) (fun y hy => by
      have hy0 := hr y (by simp [hy])
      have hne : ¬ Cg p (y - x) 0 := fun e => (List.rel_of_pairwise_cons hd hy) (by
        have := (e.add (.refl p x)).symm
        exact (Cg.of (by omega)).trans (this.trans (.of (by omega))))
      have e1 : pe y (pa (pm (pq x a) [-x, 1]) [pe x a]) = pe y a := pe_gd y _ _ (pq_back x a)
      rw [pe_pa, pe_pm] at e1
      have e2 : (y - x) * pe y (pq x a) = pe y a - pe x a := by
        rw [← e1]; simp [pe]; grind
      refine cg_prod h hp (a := y - x) ?_ hne
      rw [e2]
      exact (hy0.sub hx).trans (.of (by omega)))
    have e := pq_back x a t
    rw [pa_get, pm_get, pc_lin] at e
    rw [← e]
    have h1 := (hq t).mul (.refl p (-x))
    cases t with
    | zero =>
      rw [if_pos rfl, gd_head]
      exact ((h1.add (.refl p 0)).add hx).trans (.of (by omega))
    | succ t =>
      rw [if_neg (by omega), gd_cons, gd_nil]
      have h2 := (hq (t + 1 - 1)).mul (.refl p 1)
      exact ((h1.add h2).add (.refl p 0)).trans (.of (by omega))
end Go.Proofs.YtogenbggjodcnaaDoor
/-
  The master polynomial of points, its quotients by its roots, and products of linear factors, as numbers modulo p. Plain.
-/
namespace Go.Proofs.YtogenbggjodcnaaDoor

/-- One more root. -/
noncomputable def linV (p : Nat) (o : List Nat) (y : Nat) : List Nat := pmulV p o [subm p 0 y, 1]
/-- More roots. -/
noncomputable def flV (p : Nat) (a ys : List Nat) : List Nat := ys.foldl (linV p) a
theorem zl_append (a b : List Nat) : zl (a ++ b) = zl a ++ zl b := by unfold zl; exact List.map_append
theorem zl_cons (x : Nat) (a : List Nat) : zl (x :: a) = (x : Int) :: zl a := rfl
theorem zl_ne {a : List Nat} (h : a ≠ []) : zl a ≠ [] := fun e => h (by
  have : (zl a).length = 0 := by rw [e]; rfl
  rw [zl_len] at this
  exact List.eq_nil_of_length_eq_zero this)
theorem lc_lin {p : Nat} {a b : List Int} (h : LC p a b) (y : Int) : LC p (lin a y) (lin b y) := LC.pm h (.refl _ _)
theorem lc_fl {p : Nat} : ∀ (ys : List Int) {a b : List Int}, LC p a b → LC p (fl a ys) (fl b ys)
  | [], _, _, h => h
  | y :: r, _, _, h => lc_fl r (lc_lin h y)
theorem lc_neg {p y : Nat} (hp : 0 < p) (hy : y ≤ p) : LC p (zl [subm p 0 y, 1]) [-(y : Int), 1] := by
  refine LC.cons ?_ (.refl _ _)
  rw [subm_cn 0 hy]
  exact (cn_cg hp _).trans (.of (by omega))
theorem linV_lc {p y : Nat} {o : List Nat} {a : List Int} (hp : 0 < p) (ho : o ≠ []) (hy : y ≤ p) (h : LC p (zl o) a) : LC p (zl (linV p o y)) (lin a y) := by
  unfold linV
  rw [pmulV_cl hp ho (by simp)]
  exact (lc_cl hp _).trans (LC.pm h (lc_neg hp hy))
theorem linV_lt {p y : Nat} (o : List Nat) (hp : 0 < p) (ho : o ≠ []) : ∀ x ∈ linV p o y, x < p := by
  unfold linV
  rw [pmulV_cl hp ho (by simp)]
  exact cl_lt hp _
theorem linV_len {p y : Nat} {o : List Nat} (hp : 0 < p) (ho : o ≠ []) : (linV p o y).length = o.length + 1 := by
  unfold linV
  rw [pmulV_cl hp ho (by simp), cl_len, pm_len _ _ (zl_ne ho) (zl_ne (by simp)), zl_len, zl_len]
  simp
theorem linV_ne {p y : Nat} {o : List Nat} (hp : 0 < p) (ho : o ≠ []) : linV p o y ≠ [] := fun e => by
  have := linV_len (y := y) hp ho
  rw [e] at this
  simp at this
theorem flV_lc {p : Nat} (hp : 0 < p) : ∀ (ys : List Nat) {o : List Nat} {a : List Int}, o ≠ [] → (∀ y ∈ ys, y ≤ p) → LC p (zl o) a → LC p (zl (flV p o ys)) (fl a (zl ys))
  | [], _, _, _, _, h => h
  | y :: r, _, _, ho, hy, h => flV_lc hp r (linV_ne hp ho) (fun z hz => hy z (List.mem_cons_of_mem _ hz)) (linV_lc hp ho (hy y (List.mem_cons_self ..)) h)
theorem flV_lt {p : Nat} (hp : 0 < p) : ∀ (ys : List Nat) {o : List Nat}, o ≠ [] → (∀ x ∈ o, x < p) → ∀ x ∈ flV p o ys, x < p
  | [], _, _, h => h
  | _ :: r, o, ho, _ => flV_lt hp r (linV_ne hp ho) (linV_lt o hp ho)
theorem flV_len {p : Nat} (hp : 0 < p) : ∀ (ys : List Nat) {o : List Nat}, o ≠ [] → (flV p o ys).length = o.length + ys.length
  | [], _, _ => rfl
  | y :: r, o, ho => by
    show (flV p (linV p o y) r).length = _
    rw [flV_len hp r (linV_ne hp ho), linV_len hp ho, List.length_cons]; omega
/-- THE QUOTIENT of the master by one of its roots is the product of the other factors. -/
theorem quo_master {p x : Nat} (hp : 0 < p) (l r : List Nat) {o : List Nat} (ho : o ≠ []) (hol : ∀ z ∈ o, z < p) (hl : ∀ y ∈ l ++ x :: r, y ≤ p) : quoV p x (flV p o (l ++ x :: r)) = flV p o (l ++ r) := by
  have hx : x ≤ p := hl x (by simp)
  have h1 := flV_lc hp (l ++ x :: r) ho hl (.refl p (zl o))
  rw [zl_append, zl_cons, fl_mid (zl_ne ho)] at h1
  have h2 := flV_lc hp (l ++ r) ho (fun y hy => hl y (by simp only [List.mem_append, List.mem_cons] at hy ⊢; rcases hy with h | h; exact .inl h; exact .inr (.inr h))) (.refl p (zl o))
  rw [zl_append] at h2
  have h3 := LC.pq h1 (.refl p (x : Int))
  rw [pq_lin (x : Int) (fl_ne (zl_ne ho) _)] at h3
  rw [quoV_cl, (h3.trans h2.symm).cl, cl_zl (flV_lt hp _ ho hol)]
end Go.Proofs.YtogenbggjodcnaaDoor
/-
  The value at zero of a product of linear factors; multiples of it. Plain.
-/
namespace Go.Proofs.YtogenbggjodcnaaDoor

theorem fl_zero : ∀ (ys : List Int) (a : List Int), (fl a ys).getD 0 0 = ys.foldl (fun d y => d * -y) (a.getD 0 0)
  | [], _ => rfl
  | y :: r, a => by
    show (fl (lin a y) r).getD 0 0 = _
    rw [fl_zero r (lin a y), lin_get]
    simp
/-- The product of the negations, as the reference multiplies. -/
noncomputable def negs (p : Nat) (d : Nat) (ys : List Nat) : Nat := ys.foldl (fun d y => mulm p d (subm p 0 y)) d
theorem negs_lt {p : Nat} (hp : 0 < p) : ∀ (ys : List Nat) {d : Nat}, d < p → negs p d ys < p
  | [], _, h => h
  | _ :: r, _, _ => negs_lt hp r (mulm_lt _ _ hp)
theorem negs_cg {p : Nat} (hp : 0 < p) : ∀ (ys : List Nat) {d : Nat} {D : Int}, (∀ y ∈ ys, y ≤ p) → Cg p (d : Int) D → Cg p (negs p d ys : Int) ((zl ys).foldl (fun d y => d * -y) D)
  | [], _, _, _, h => h
  | y :: r, d, D, hy, h => by
    have h1 : Cg p (mulm p d (subm p 0 y) : Int) (D * -(y : Int)) := by
      rw [mulm_cn]
      refine (cn_cg hp _).trans (h.mul ?_)
      rw [subm_cn 0 (hy y (List.mem_cons_self ..))]
      exact (cn_cg hp _).trans (.of (by omega))
    exact negs_cg hp r (fun z hz => hy z (List.mem_cons_of_mem _ hz)) h1
theorem foldl_scale (w : Int) : ∀ (ys : List Int) (D : Int), ys.foldl (fun d y => d * -y) (w * D) = w * ys.foldl (fun d y => d * -y) D
  | [], _ => rfl
  | y :: r, D => by
    show r.foldl (fun d y => d * -y) (w * D * -y) = w * r.foldl (fun d y => d * -y) (D * -y)
    rw [Int.mul_assoc, foldl_scale w r]
/-- ZERO: the weight times the quotient's first coefficient is the reference's product. -/
theorem zero_coef {p w : Nat} (hp : 1 < p) (hw : w < p) (ys : List Nat) (hy : ∀ y ∈ ys, y ≤ p) : mulm p w ((flV p [1] ys).getD 0 0) = negs p w ys := by
  have h0 : 0 < p := by omega
  have h1 := (flV_lc h0 ys (o := [1]) (a := [1]) (by simp) hy (.refl _ _)).2 0
  rw [zl_get, fl_zero] at h1
  have h2 := negs_cg h0 ys hy (.refl p (w : Int))
  have h3 := foldl_scale (w : Int) (zl ys) 1
  rw [Int.mul_one] at h3
  rw [h3] at h2
  have h4 : Cg p (mulm p w ((flV p [1] ys).getD 0 0) : Int) ((w : Int) * (zl ys).foldl (fun d y => d * -y) 1) := by
    rw [mulm_cn]
    exact (cn_cg h0 _).trans ((Cg.refl p (w : Int)).mul h1)
  exact (h4.trans h2.symm).eq (mulm_lt _ _ h0) (negs_lt h0 ys hw)
theorem lin_scale (f : Int) (a : List Int) (y : Int) : ∀ t, (lin (a.map (f * ·)) y).getD t 0 = f * (lin a y).getD t 0 := fun t => by
  rw [lin_get, lin_get, sc_get]
  by_cases h : t = 0
  · rw [if_pos h, if_pos h]; grind
  · rw [if_neg h, if_neg h, sc_get]; grind
theorem lc_scale_lin {p : Nat} (f : Int) {a : List Int} (h : a ≠ []) (y : Int) : LC p (lin (a.map (f * ·)) y) ((lin a y).map (f * ·)) :=
  ⟨by rw [lin_len y (by simpa using h), List.length_map, List.length_map, lin_len y h], fun t => .of (by rw [lin_scale, sc_get])⟩
theorem lc_scale_fl {p : Nat} (f : Int) : ∀ (ys : List Int) {a : List Int}, a ≠ [] → LC p (fl (a.map (f * ·)) ys) ((fl a ys).map (f * ·))
  | [], _, _ => .refl _ _
  | y :: r, _, h => (lc_fl r (lc_scale_lin f h y)).trans (lc_scale_fl f r (lin_ne y h))
/-- A multiple of a product of linear factors. -/
theorem flV_scale {p f : Nat} (hp : 1 < p) (hf : f < p) (ys : List Nat) (hy : ∀ y ∈ ys, y ≤ p) : flV p [f] ys = (flV p [1] ys).map (mulm p f) := by
  have h0 : 0 < p := by omega
  have h1 := flV_lc h0 ys (o := [f]) (a := [1].map ((f : Int) * ·)) (by simp) hy ⟨rfl, fun t => by
    match t with
    | 0 => exact .of (by simp [zl])
    | t + 1 => exact .of (by simp [zl])⟩
  have h2 := flV_lc h0 ys (o := [1]) (a := [1]) (by simp) hy (.refl _ _)
  have h3 := h1.trans (lc_scale_fl (p := p) (f : Int) (zl ys) (a := [1]) (by simp))
  refine ext_nat (by rw [List.length_map, flV_len h0 ys (by simp), flV_len h0 ys (by simp)]; rfl) fun t ht => ?_
  have e1 := h3.2 t
  rw [zl_get, sc_get] at e1
  have e2 := h2.2 t
  rw [zl_get] at e2
  have ht2 : t < (flV p [1] ys).length := by rw [flV_len h0 ys (by simp)] at ht ⊢; exact ht
  have e3 : ((flV p [1] ys).map (mulm p f)).getD t 0 = mulm p f ((flV p [1] ys).getD t 0) := by
    rw [List.getD_eq_getElem?_getD, List.getD_eq_getElem?_getD, List.getElem?_map, List.getElem?_eq_getElem ht2]; rfl
  rw [e3]
  have e4 : Cg p (mulm p f ((flV p [1] ys).getD t 0) : Int) ((f : Int) * (fl [1] (zl ys)).getD t 0) := by
    rw [mulm_cn]
    exact (cn_cg h0 _).trans ((Cg.refl p (f : Int)).mul e2)
  have e5 : (flV p [f] ys).getD t 0 < p := by
    rw [List.getD_eq_getElem?_getD, List.getElem?_eq_getElem ht]
    exact flV_lt h0 ys (o := [f]) (by simp) (by simp; exact hf) _ (List.getElem_mem ht)
  exact (e1.trans e4.symm).eq e5 (mulm_lt _ _ h0)
end Go.Proofs.YtogenbggjodcnaaDoor
/-
  Lagrange's sum: its values at the points; it is the polynomial whose values were given. Plain.
-/
namespace Go.Proofs.YtogenbggjodcnaaDoor

/-- The product of the differences from x. -/
noncomputable def den (p x : Nat) (ys : List Nat) : Nat := ys.foldl (fun d y => mulm p d (subm p x y)) 1
theorem foldl_den {p x : Nat} (hp : 0 < p) : ∀ (ys : List Nat) {d : Nat} {D : Int}, (∀ y ∈ ys, y ≤ p) → Cg p (d : Int) D → Cg p (ys.foldl (fun d y => mulm p d (subm p x y)) d : Nat) ((zl ys).foldl (fun d y => d * ((x : Int) - y)) D)
  | [], _, _, _, h => h
  | y :: r, d, D, hy, h => by
    have h1 : Cg p (mulm p d (subm p x y) : Int) (D * ((x : Int) - (y : Int))) := by
      rw [mulm_cn]
      refine (cn_cg hp _).trans (h.mul ?_)
      rw [subm_cn x (hy y (List.mem_cons_self ..))]
      exact cn_cg hp _
    exact foldl_den hp r (fun z hz => hy z (List.mem_cons_of_mem _ hz)) h1
theorem den_cg {p : Nat} (hp : 0 < p) (x : Nat) (ys : List Nat) (hy : ∀ y ∈ ys, y ≤ p) : Cg p (den p x ys : Int) ((zl ys).foldl (fun d y => d * ((x : Int) - y)) 1) := foldl_den hp ys hy (.refl _ _)
theorem den_lt {p : Nat} (hp : 1 < p) (x : Nat) : ∀ (ys : List Nat), den p x ys < p := by
  have h : ∀ (ys : List Nat) (d : Nat), d < p → ys.foldl (fun d y => mulm p d (subm p x y)) d < p := by
    intro ys
    induction ys with
    | nil => exact fun _ h => h
    | cons y r ih => exact fun d _ => ih _ (mulm_lt _ _ (by omega))
  exact fun ys => h ys 1 hp
/-- A factor 0 makes the product 0. -/
theorem prod_zero {p : Nat} {x : Int} : ∀ (ys : List Int) {D : Int}, Cg p D 0 ∨ x ∈ ys → Cg p (ys.foldl (fun d y => d * (x - y)) D) 0
  | [], _, h => by
    rcases h with h | h
    · exact h
    · cases h
  | y :: r, D, h => by
    refine prod_zero r ?_
    rcases h with h | h
    · exact .inl ((h.mul (.refl p (x - y))).trans (.of (by simp)))
    · rcases List.mem_cons.1 h with e | e
      · exact .inl (.of (by rw [e]; simp))
      · exact .inr e
theorem prod_ne {p : Nat} (h : Fer p) (hp : 2 < p) {x : Int} : ∀ (ys : List Int) {D : Int}, ¬ Cg p D 0 → (∀ y ∈ ys, ¬ Cg p (x - y) 0) → ¬ Cg p (ys.foldl (fun d y => d * (x - y)) D) 0
  | [], _, h0, _ => h0
  | y :: r, D, h0, hy => prod_ne h hp r (fun e => h0 (cg_prod h hp (a := x - y) (b := D) ((Cg.of (Int.mul_comm _ _)).trans e) (hy y (List.mem_cons_self ..)))) (fun z hz => hy z (List.mem_cons_of_mem _ hz))
/-- The other points. -/
def oth (xs : List Nat) (i : Nat) : List Nat := xs.eraseIdx i
noncomputable def wgt (p : Nat) (xs : List Nat) (i : Nat) : Nat := invm p (den p (xs.getD i 0) (oth xs i))
noncomputable def fac (p : Nat) (xs ys : List Nat) (i : Nat) : Nat := mulm p (wgt p xs i) (ys.getD i 0)
/-- Lagrange's sum up to k. -/
noncomputable def itp (p : Nat) (xs ys : List Nat) : Nat → List Nat
  | 0 => List.replicate xs.length 0
  | k + 1 => paddV p (itp p xs ys k) (flV p [fac p xs ys k] (oth xs k))
theorem oth_le {p : Nat} {xs : List Nat} (h : ∀ x ∈ xs, x < p) (i : Nat) : ∀ y ∈ oth xs i, y ≤ p := fun y hy => Nat.le_of_lt (h y (List.mem_of_mem_eraseIdx hy))
theorem oth_len {xs : List Nat} {i : Nat} (h : i < xs.length) : (oth xs i).length = xs.length - 1 := by unfold oth; rw [List.length_eraseIdx]; simp [h]
theorem itp_len {p : Nat} (hp : 0 < p) (xs ys : List Nat) : ∀ k, k ≤ xs.length → (itp p xs ys k).length = xs.length
  | 0, _ => by simp [itp]
  | k + 1, h => by
    show (paddV p (itp p xs ys k) (flV p [fac p xs ys k] (oth xs k))).length = _
    rw [paddV_len, itp_len hp xs ys k (by omega), flV_len hp _ (by simp), oth_len (by omega)]
    simp; omega
theorem zl_rep (n : Nat) (x : Int) : pe x (zl (List.replicate n 0)) = 0 := by
  induction n with
  | zero => rfl
  | succ n ih => show (0 : Int) + x * pe x (zl (List.replicate n 0)) = 0; rw [ih]; simp
/-- The value of the sum, one summand more. -/
theorem itp_step {p : Nat} (hp : 0 < p) (xs ys : List Nat) (hx : ∀ x ∈ xs, x < p) (x : Int) (k : Nat) :
    Cg p (pe x (zl (itp p xs ys (k + 1)))) (pe x (zl (itp p xs ys k)) + (zl (oth xs k)).foldl (fun d y => d * (x - y)) (fac p xs ys k : Int)) := by
  have h1 : LC p (zl (itp p xs ys (k + 1))) (pa (zl (itp p xs ys k)) (zl (flV p [fac p xs ys k] (oth xs k)))) := by
    show LC p (zl (paddV p _ _)) _
    rw [paddV_cl]
    exact lc_cl hp _
  have h2 := LC.pe h1 (.refl p x)
  rw [pe_pa] at h2
  have h3 := LC.pe (flV_lc hp (oth xs k) (o := [fac p xs ys k]) (a := [(fac p xs ys k : Int)]) (by simp) (oth_le hx k) (.refl _ _)) (.refl p x)
  rw [pe_fl] at h3
  refine h2.trans ((Cg.refl p _).add (h3.trans (.of ?_)))
  simp [pe]
theorem oth_mem {xs : List Nat} {i j : Nat} (hj : j < xs.length) (hne : j ≠ i) : xs.getD j 0 ∈ oth xs i := by
  unfold oth
  rw [List.getD_eq_getElem?_getD, List.getElem?_eq_getElem hj]
  exact List.mem_eraseIdx_iff_getElem.2 ⟨j, hj, hne, rfl⟩
theorem oth_ne {xs : List Nat} {i y : Nat} (hd : xs.Nodup) (hi : i < xs.length) (hy : y ∈ oth xs i) : y ≠ xs.getD i 0 := by
  rw [List.getD_eq_getElem?_getD, List.getElem?_eq_getElem hi]
  obtain ⟨j, hj, hne, rfl⟩ := List.mem_eraseIdx_iff_getElem.1 hy
  intro e
  exact hne ((List.getElem_inj hd).1 e)
end Go.Proofs.YtogenbggjodcnaaDoor
/-
  Lagrange's sum has the given values; interpolating the values of a polynomial yields it. Plain.
-/
namespace Go.Proofs.YtogenbggjodcnaaDoor

theorem foldl_scale2 (x w : Int) : ∀ (ys : List Int) (D : Int), ys.foldl (fun d y => d * (x - y)) (w * D) = w * ys.foldl (fun d y => d * (x - y)) D
  | [], _ => rfl
  | y :: r, D => by
    show r.foldl (fun d y => d * (x - y)) (w * D * (x - y)) = w * r.foldl (fun d y => d * (x - y)) (D * (x - y))
    rw [Int.mul_assoc, foldl_scale2 x w r]
theorem pe_scale (x : Int) : ∀ (a : List Int), pe x (a.map ((-1) * ·)) = -pe x a
  | [] => rfl
  | c :: r => by
    show -1 * c + x * pe x (r.map ((-1) * ·)) = -(c + x * pe x r)
    rw [pe_scale x r]; grind
theorem getD_mem {xs : List Nat} {j : Nat} (hj : j < xs.length) : xs.getD j 0 ∈ xs := by
  rw [List.getD_eq_getElem?_getD, List.getElem?_eq_getElem hj]; exact List.getElem_mem hj
theorem cg_ne {p a b : Nat} (ha : a < p) (hb : b < p) (h : b ≠ a) : ¬ Cg p ((a : Int) - (b : Int)) 0 := fun e => by
  have h1 : Cg p (a : Int) (b : Int) := (Cg.of (show (a : Int) = (a : Int) - (b : Int) + (b : Int) by omega)).trans ((e.add (.refl p (b : Int))).trans (.of (by omega)))
  exact h (h1.eq ha hb).symm
theorem den_ne {p : Nat} (hF : Fer p) (hp : 2 < p) {xs : List Nat} (hx : ∀ x ∈ xs, x < p) (hd : xs.Nodup) {j : Nat} (hj : j < xs.length) : den p (xs.getD j 0) (oth xs j) ≠ 0 := by
  intro e
  have h1 := den_cg (p := p) (by omega) (xs.getD j 0) (oth xs j) (oth_le hx j)
  rw [e] at h1
  refine prod_ne hF hp (x := (xs.getD j 0 : Int)) (zl (oth xs j)) (D := 1) ?_ ?_ h1.symm
  · intro e1
    have := Cg.eq (p := p) (a := 1) (b := 0) e1 (by omega) (by omega)
    omega
  · intro y hy
    obtain ⟨z, hz, rfl⟩ := List.mem_map.1 hy
    exact cg_ne (hx _ (getD_mem hj)) (hx z (List.mem_of_mem_eraseIdx hz)) (oth_ne hd hj hz)
/-- The summand at its own point. -/
theorem own_val {p : Nat} (hF : Fer p) (hp : 2 < p) {xs ys : List Nat} (hx : ∀ x ∈ xs, x < p) (hd : xs.Nodup) {j : Nat} (hj : j < xs.length) :
    Cg p ((zl (oth xs j)).foldl (fun d y => d * ((xs.getD j 0 : Int) - y)) (fac p xs ys j : Int)) (ys.getD j 0 : Int) := by
  have h0 : 0 < p := by omega
  have h1 := den_cg h0 (xs.getD j 0) (oth xs j) (oth_le hx j)
  have h2 := foldl_scale2 (xs.getD j 0 : Int) (fac p xs ys j : Int) (zl (oth xs j)) 1
  rw [Int.mul_one] at h2
  rw [h2]
  have h3 := inv_left hF hp (den_ne hF hp hx hd hj) (den_lt (by omega) (xs.getD j 0) (oth xs j))
  have h4 : Cg p ((den p (xs.getD j 0) (oth xs j) : Int) * (wgt p xs j : Int)) 1 := by
    have := cn_cg h0 ((den p (xs.getD j 0) (oth xs j) : Int) * (wgt p xs j : Int))
    rw [← mulm_cn] at this
    have e : mulm p (den p (xs.getD j 0) (oth xs j)) (wgt p xs j) = 1 := h3
    rw [e] at this
    exact this.symm
  have h5 : Cg p (fac p xs ys j : Int) ((wgt p xs j : Int) * (ys.getD j 0 : Int)) := by
    unfold fac
    rw [mulm_cn]
    exact cn_cg h0 _
  refine (h5.mul h1.symm).trans ?_
  have h6 := h4.mul (.refl p (ys.getD j 0 : Int))
  exact (Cg.of (by grind)).trans (h6.trans (.of (Int.one_mul _)))
/-- The sum's values at the points. -/
theorem itp_val {p : Nat} (hF : Fer p) (hp : 2 < p) {xs ys : List Nat} (hx : ∀ x ∈ xs, x < p) (hd : xs.Nodup) {j : Nat} (hj : j < xs.length) :
    ∀ k, k ≤ xs.length → Cg p (pe (xs.getD j 0 : Int) (zl (itp p xs ys k))) (if j < k then (ys.getD j 0 : Int) else 0)
  | 0, _ => by rw [if_neg (by omega)]; exact .of (zl_rep _ _)
  | k + 1, hk => by
    have h1 := itp_val hF hp hx hd (ys := ys) hj k (by omega)
    have h2 := itp_step (p := p) (by omega) xs ys hx (xs.getD j 0 : Int) k
    by_cases e : j = k
    · subst e
      rw [if_neg (by omega)] at h1
      rw [if_pos (by omega)]
      exact h2.trans ((h1.add (own_val hF hp hx hd hj)).trans (.of (Int.zero_add _)))
    · have h3 : Cg p ((zl (oth xs k)).foldl (fun d y => d * ((xs.getD j 0 : Int) - y)) (fac p xs ys k : Int)) 0 :=
        prod_zero _ (.inr (List.mem_map.2 ⟨_, oth_mem hj e, rfl⟩))
      have h4 := h2.trans (h1.add h3)
      rw [Int.add_zero] at h4
      by_cases h : j < k
      · rw [if_pos h] at h4
        rw [if_pos (by omega)]; exact h4
      · rw [if_neg h] at h4
        rw [if_neg (by omega)]; exact h4
theorem itp_lt {p : Nat} (hp : 0 < p) (xs ys : List Nat) : ∀ k, ∀ x ∈ itp p xs ys k, x < p
  | 0, x, hx => by
    have := List.eq_of_mem_replicate hx
    omega
  | k + 1, x, hx => by
    have hx' : x ∈ paddV p (itp p xs ys k) (flV p [fac p xs ys k] (oth xs k)) := hx
    rw [paddV_cl] at hx'
    exact cl_lt hp _ x hx'
/-- INTERPOLATION: the values of a polynomial give it back. -/
theorem itp_poly {p : Nat} (hF : Fer p) (hp : 2 < p) {xs ys c : List Nat} (hx : ∀ x ∈ xs, x < p) (hd : xs.Nodup) (hc : ∀ y ∈ c, y < p) (hl : c.length ≤ xs.length) (hy : ∀ j, j < xs.length → ys.getD j 0 = evm p (xs.getD j 0) c) :
    itp p xs ys xs.length = c ++ List.replicate (xs.length - c.length) 0 := by
  have h0 : 0 < p := by omega
  have hroot := roots hF hp (zl xs) (pa (zl (itp p xs ys xs.length)) ((zl c).map ((-1) * ·))) (by rw [pa_len, zl_len, zl_len, List.length_map, zl_len, itp_len h0 xs ys _ (Nat.le_refl _)]; omega)
    (by
      unfold zl
      rw [List.pairwise_map]
      exact List.Pairwise.imp_of_mem (fun {a b} ha hb hne e => hne (Cg.eq e (hx a ha) (hx b hb))) hd)
    (fun x hxm => by
      obtain ⟨z, hz, rfl⟩ := List.mem_map.1 hxm
      obtain ⟨j, hj, rfl⟩ := List.getElem_of_mem hz
      have e : xs.getD j 0 = xs[j] := by rw [List.getD_eq_getElem?_getD, List.getElem?_eq_getElem hj]; rfl
      have h1 := itp_val hF hp hx hd (ys := ys) hj xs.length (Nat.le_refl _)
      rw [if_pos hj, hy j hj, evm_cn, e] at h1
      rw [pe_pa]
      have h2 := h1.trans (cn_cg h0 _)
      have h3 : pe (xs[j] : Int) ((zl c).map ((-1) * ·)) = -pe (xs[j] : Int) (zl c) := pe_scale _ _
      rw [h3]
      exact (h2.add (.refl p _)).trans (.of (by omega)))
  refine ext_nat (by rw [itp_len h0 xs ys _ (Nat.le_refl _)]; simp; omega) fun t ht => ?_
  have h1 := hroot t
  rw [pa_get, sc_get, zl_get, zl_get] at h1
  have h2 : Cg p ((itp p xs ys xs.length).getD t 0 : Int) (c.getD t 0 : Int) := ((h1.add (.refl p (c.getD t 0 : Int))).symm.trans (.of (by omega))).symm.trans (.of (by omega)) |> fun q => q
  have h3 : (c ++ List.replicate (xs.length - c.length) 0).getD t 0 = c.getD t 0 := by
    rw [List.getD_eq_getElem?_getD, List.getD_eq_getElem?_getD]
    by_cases h : t < c.length
    · rw [List.getElem?_append_left h]
    · rw [List.getElem?_append_right (by omega), List.getElem?_eq_none (l := c) (by omega), List.getElem?_replicate]
      split <;> rfl
  rw [h3]
  refine h2.eq (itp_lt h0 xs ys _ _ (getD_mem ht)) ?_
  by_cases h : t < c.length
  · exact hc _ (getD_mem h)
  · rw [List.getD_eq_getElem?_getD, List.getElem?_eq_none (by omega)]; exact h0
end Go.Proofs.YtogenbggjodcnaaDoor
/-
  The sum of products of the coefficients for zero and the values is the value at zero. Plain.
-/
namespace Go.Proofs.YtogenbggjodcnaaDoor

/-- The coefficient for zero, as the reference multiplies. -/
noncomputable def zco (p : Nat) (xs : List Nat) (i : Nat) : Nat := negs p (wgt p xs i) (oth xs i)
/-- The sum of products up to k. -/
noncomputable def dotk (p : Nat) (a b : Nat → Nat) : Nat → Nat
  | 0 => 0
  | k + 1 => addm p (dotk p a b k) (mulm p (a k) (b k))
theorem dotk_lt {p : Nat} (hp : 0 < p) (a b : Nat → Nat) : ∀ k, dotk p a b k < p
  | 0 => hp
  | _ + 1 => addm_lt _ _ hp
/-- By the program's way: the weight times the quotient's first coefficient. -/
theorem zco_eq {p : Nat} (hp : 1 < p) {xs : List Nat} (hx : ∀ x ∈ xs, x < p) (i : Nat) : mulm p (wgt p xs i) ((flV p [1] (oth xs i)).getD 0 0) = zco p xs i :=
  zero_coef hp (invm_lt _ (by omega)) (oth xs i) (oth_le hx i)
theorem dot_itp {p : Nat} (hp : 1 < p) {xs ys : List Nat} (hx : ∀ x ∈ xs, x < p) : ∀ k, k ≤ xs.length → Cg p (dotk p (zco p xs) (fun i => ys.getD i 0) k : Int) ((itp p xs ys k).getD 0 0 : Int)
  | 0, _ => by
    show Cg p ((0 : Nat) : Int) _
    refine .of ?_
    show _ = (((List.replicate xs.length 0).getD 0 0 : Nat) : Int)
    cases xs with
    | nil => rfl
    | cons x r => rfl
  | k + 1, hk => by
    have h0 : 0 < p := by omega
    have h1 := dot_itp hp hx (ys := ys) k (by omega)
    have hf : fac p xs ys k < p := mulm_lt _ _ h0
    have h2 : Cg p ((itp p xs ys (k + 1)).getD 0 0 : Int) (((itp p xs ys k).getD 0 0 : Int) + (((flV p [fac p xs ys k] (oth xs k)).getD 0 0 : Nat) : Int)) := by
      show Cg p ((paddV p _ _).getD 0 0 : Int) _
      rw [paddV_cl, cl_get, pa_get, zl_get, zl_get]
      exact cn_cg h0 _
    have hl : 0 < (flV p [1] (oth xs k)).length := by rw [flV_len h0 _ (by simp)]; simp; omega
    have e3 : (flV p [fac p xs ys k] (oth xs k)).getD 0 0 = mulm p (fac p xs ys k) ((flV p [1] (oth xs k)).getD 0 0) := by
      rw [flV_scale hp hf (oth xs k) (oth_le hx k), List.getD_eq_getElem?_getD, List.getD_eq_getElem?_getD, List.getElem?_map, List.getElem?_eq_getElem hl]; rfl
    rw [e3] at h2
    have h4 : Cg p (mulm p (fac p xs ys k) ((flV p [1] (oth xs k)).getD 0 0) : Int) (mulm p (zco p xs k) (ys.getD k 0) : Int) := by
      rw [← zco_eq hp hx k]
      unfold fac
      refine .of (congrArg _ ?_)
      rw [mulm_eq, mulm_eq, mulm_eq, mulm_eq, Nat.mod_mul_mod, Nat.mod_mul_mod]
      refine congrArg (· % p) ?_
      rw [Nat.mul_assoc, Nat.mul_assoc, Nat.mul_comm (ys.getD k 0)]
    have h5 : Cg p (dotk p (zco p xs) (fun i => ys.getD i 0) (k + 1) : Int) ((dotk p (zco p xs) (fun i => ys.getD i 0) k : Int) + (mulm p (zco p xs k) (ys.getD k 0) : Int)) := by
      show Cg p (addm p _ _ : Int) _
      rw [addm_cn]
      exact cn_cg h0 _
    exact h5.trans ((h1.add h4.symm).trans h2.symm)
/-- The value at zero. -/
theorem dot_poly {p : Nat} (hF : Fer p) (hp : 2 < p) {xs ys c : List Nat} (hx : ∀ x ∈ xs, x < p) (hd : xs.Nodup) (hc : ∀ y ∈ c, y < p) (hl : c.length ≤ xs.length) (h1 : 0 < c.length) (hy : ∀ j, j < xs.length → ys.getD j 0 = evm p (xs.getD j 0) c) :
    dotk p (zco p xs) (fun i => ys.getD i 0) xs.length = c.getD 0 0 := by
  have h := dot_itp (by omega) hx (ys := ys) xs.length (Nat.le_refl _)
  rw [itp_poly hF hp hx hd hc hl hy] at h
  have e : (c ++ List.replicate (xs.length - c.length) 0).getD 0 0 = c.getD 0 0 := by
    rw [List.getD_eq_getElem?_getD, List.getD_eq_getElem?_getD, List.getElem?_append_left h1]
  rw [e] at h
  exact h.eq (dotk_lt (by omega) _ _ _) (hc _ (getD_mem h1))
end Go.Proofs.YtogenbggjodcnaaDoor
/-
  The program's rows of Lagrange's sum; the example at the points 1 and 2. Plain.
-/
namespace Go.Proofs.YtogenbggjodcnaaDoor

/-- One round of the program's sum. -/
theorem itp_row {p : Nat} (hp : 1 < p) {xs ys : List Nat} (hx : ∀ x ∈ xs, x < p) {i : Nat} (hi : i < xs.length) :
    itp p xs ys (i + 1) = (List.range xs.length).map fun k => addm p ((itp p xs ys i).getD k 0) (mulm p (fac p xs ys i) ((flV p [1] (oth xs i)).getD k 0)) := by
  have h0 : 0 < p := by omega
  have hf : fac p xs ys i < p := mulm_lt _ _ h0
  have hl : (flV p [1] (oth xs i)).length = xs.length := by rw [flV_len h0 _ (by simp), oth_len hi]; simp; omega
  show paddV p (itp p xs ys i) (flV p [fac p xs ys i] (oth xs i)) = _
  rw [flV_scale hp hf (oth xs i) (oth_le hx i)]
  unfold paddV
  rw [itp_len h0 xs ys i (by omega), List.length_map, hl, Nat.max_self]
  refine List.map_congr_left fun k hk => ?_
  have hk' : k < (flV p [1] (oth xs i)).length := by rw [hl]; exact List.mem_range.1 hk
  refine congrArg _ ?_
  rw [List.getD_eq_getElem?_getD, List.getD_eq_getElem?_getD, List.getElem?_map, List.getElem?_eq_getElem hk']; rfl
/-- The quotient of the master by a point. -/
theorem quo_point {p : Nat} (hp : 1 < p) {xs : List Nat} (hx : ∀ x ∈ xs, x < p) {i : Nat} (hi : i < xs.length) : quoV p (xs.getD i 0) (flV p [1] xs) = flV p [1] (oth xs i) := by
  have e : xs = xs.take i ++ xs.getD i 0 :: xs.drop (i + 1) := by
    rw [List.getD_eq_getElem?_getD, List.getElem?_eq_getElem hi]
    have h := List.take_append_drop i xs
    rw [List.drop_eq_getElem_cons hi] at h
    exact h.symm
  have e2 : oth xs i = xs.take i ++ xs.drop (i + 1) := List.eraseIdx_eq_take_drop_succ ..
  have h := quo_master (p := p) (x := xs.getD i 0) (by omega) (xs.take i) (xs.drop (i + 1)) (o := [1]) (by simp) (by simp; omega) (by rw [← e]; exact fun y hy => Nat.le_of_lt (hx y hy))
  rw [← e, ← e2] at h
  exact h
theorem minus_one {p : Nat} (hp : 2 < p) : subm p 0 1 = p - 1 := by
  rw [subm_eq, Nat.zero_add]; exact Nat.mod_eq_of_lt (by omega)
/-- The coefficients for zero of the points 1 and 2: 2 and -1. -/
theorem zco_12 {p : Nat} (hF : Fer p) (hp : 2 < p) : zco p [1, 2] 0 = 2 ∧ zco p [1, 2] 1 = subm p 0 1 := by
  have d0 : den p 1 [2] = p - 1 := by
    show mulm p 1 (subm p 1 2) = _
    rw [mulm_eq, subm_eq, Nat.one_mul, Nat.mod_mod]
    exact (Nat.mod_eq_of_lt (by omega)).trans (by omega)
  have d1 : den p 2 [1] = 1 := by
    show mulm p 1 (subm p 2 1) = _
    rw [mulm_eq, subm_eq, Nat.one_mul, Nat.mod_mod, show 2 + p - 1 = 1 + p by omega, Nat.add_mod_right]
    exact Nat.mod_eq_of_lt (by omega)
  have w0 : wgt p [1, 2] 0 = p - 1 := by
    show invm p (den p 1 [2]) = _
    rw [d0]
    refine (inv_of hF hp (by omega) (by omega) ?_).symm
    rw [mulm_eq]
    have e : (p - 1) * (p - 1) = 1 + p * (p - 2) := by
      obtain ⟨q, rfl⟩ : ∃ q, p = q + 2 := ⟨p - 2, by omega⟩
      simp
      grind
    rw [e, Nat.add_mul_mod_self_left]
    exact Nat.mod_eq_of_lt (by omega)
  have w1 : wgt p [1, 2] 1 = 1 := by
    show invm p (den p 2 [1]) = _
    rw [d1]
    exact (inv_of hF hp (by omega) (by omega) (by rw [mulm_eq]; exact Nat.mod_eq_of_lt (by omega))).symm
  constructor
  · show mulm p (wgt p [1, 2] 0) (subm p 0 2) = 2
    rw [w0, mulm_eq, subm_eq, Nat.mod_eq_of_lt (show 0 + p - 2 < p by omega)]
    have e : (p - 1) * (0 + p - 2) = 2 + p * (p - 3) := by
      obtain ⟨q, rfl⟩ : ∃ q, p = q + 3 := ⟨p - 3, by omega⟩
      simp
      grind
    rw [e, Nat.add_mul_mod_self_left]
    exact Nat.mod_eq_of_lt hp
  · show mulm p (wgt p [1, 2] 1) (subm p 0 1) = subm p 0 1
    rw [w1, mulm_eq, Nat.one_mul]
    exact Nat.mod_eq_of_lt (subm_lt _ _ (by omega))
end Go.Proofs.YtogenbggjodcnaaDoor
/-
  A polynomial of low degree passes through all points if and only if the coefficients behind are zero. Plain (for law10).
-/
namespace Go.Proofs.YtogenbggjodcnaaDoor

theorem evm_itp {p : Nat} (hF : Fer p) (hp : 2 < p) {xs ys : List Nat} (hx : ∀ x ∈ xs, x < p) (hd : xs.Nodup) {j : Nat} (hj : j < xs.length) (hy : ys.getD j 0 < p) : evm p (xs.getD j 0) (itp p xs ys xs.length) = ys.getD j 0 := by
  have h := itp_val hF hp hx hd (ys := ys) hj xs.length (Nat.le_refl _)
  rw [if_pos hj] at h
  rw [evm_cn, h.cn, cn_nat hy]
theorem getD_take {l : List Nat} {k t : Nat} : (l.take k).getD t 0 = if t < k then l.getD t 0 else 0 := by
  rw [List.getD_eq_getElem?_getD, List.getD_eq_getElem?_getD]
  by_cases h : t < k
  · rw [List.getElem?_take_of_lt h, if_pos h]
  · rw [if_neg h, List.getElem?_eq_none (by rw [List.length_take]; omega)]; rfl
theorem evm_take {p x : Nat} {l : List Nat} {k : Nat} (h : ∀ t, k ≤ t → l.getD t 0 = 0) : evm p x (l.take k) = evm p x l := by
  rw [evm_cn, evm_cn]
  refine congrArg _ (pe_gd _ _ _ fun t => ?_)
  rw [zl_get, zl_get, getD_take]
  by_cases ht : t < k
  · rw [if_pos ht]
  · rw [if_neg ht, h t (by omega)]
/-- FITS. -/
theorem fits_iff {p : Nat} (hF : Fer p) (hp : 2 < p) {xs ys : List Nat} (hx : ∀ x ∈ xs, x < p) (hd : xs.Nodup) (hy : ∀ y ∈ ys, y < p) (hl : ys.length = xs.length) {k : Nat} (hk : k ≤ xs.length) :
    (∀ t, k ≤ t → (itp p xs ys xs.length).getD t 0 = 0) ↔ ∀ i, i < xs.length → evm p (xs.getD i 0) (itp p (xs.take k) (ys.take k) k) = ys.getD i 0 := by
  have h0 : 0 < p := by omega
  have hkl : (xs.take k).length = k := by rw [List.length_take]; omega
  have hx' : ∀ x ∈ xs.take k, x < p := fun x h => hx x (List.mem_of_mem_take h)
  have hd' : (xs.take k).Nodup := List.Pairwise.sublist (List.take_sublist k xs) hd
  have hyl : ∀ i, i < xs.length → ys.getD i 0 < p := fun i hi => hy _ (getD_mem (by omega))
  constructor
  · intro h i hi
    have hc : itp p (xs.take k) (ys.take k) (xs.take k).length = (itp p xs ys xs.length).take k ++ List.replicate ((xs.take k).length - ((itp p xs ys xs.length).take k).length) 0 :=
      itp_poly hF hp hx' hd' (fun y hy' => itp_lt h0 xs ys _ y (List.mem_of_mem_take hy')) (by rw [List.length_take, itp_len h0 xs ys _ (Nat.le_refl _), hkl]; omega) (fun j hj => by
        rw [hkl] at hj
        rw [getD_take, getD_take, if_pos hj, if_pos hj, evm_take h, evm_itp hF hp hx hd (by omega) (hyl j (by omega))])
    have e : (xs.take k).length - ((itp p xs ys xs.length).take k).length = 0 := by rw [hkl, List.length_take, itp_len h0 xs ys _ (Nat.le_refl _)]; omega
    rw [e, hkl] at hc
    rw [hc, List.replicate_zero, List.append_nil, evm_take h]
    exact evm_itp hF hp hx hd hi (hyl i hi)
  · intro h t ht
    have hlen : (itp p (xs.take k) (ys.take k) k).length = k := by
      have := itp_len h0 (xs.take k) (ys.take k) k (by omega)
      rw [this, hkl]
    have hc := itp_poly hF hp hx hd (ys := ys) (c := itp p (xs.take k) (ys.take k) k) (itp_lt h0 _ _ _) (by omega) (fun j hj => (h j hj).symm)
    rw [hc, List.getD_eq_getElem?_getD, List.getElem?_append_right (by omega), List.getElem?_replicate]
    split <;> rfl
end Go.Proofs.YtogenbggjodcnaaDoor
/-
  Changing one value makes the points not fit. Plain (for law10).
-/
namespace Go.Proofs.YtogenbggjodcnaaDoor

theorem evm_one {p x : Nat} (hp : 1 < p) : evm p x [1] = 1 := by
  rw [evm_cn]
  have e : pe (x : Int) (zl [1]) = ((1 : Nat) : Int) := by simp [zl, pe]
  rw [e, cn_nat hp]
theorem getD_rep {n j : Nat} (x : Nat) (h : j < n) : (List.replicate n x).getD j 0 = x := by
  rw [List.getD_eq_getElem?_getD, List.getElem?_replicate, if_pos h]; rfl
/-- All values 1: the polynomial 1. -/
theorem itp_ones {p : Nat} (hF : Fer p) (hp : 2 < p) {xs ys : List Nat} (hx : ∀ x ∈ xs, x < p) (hd : xs.Nodup) (hn : 0 < xs.length) (hy : ∀ j, j < xs.length → ys.getD j 0 = 1) : itp p xs ys xs.length = 1 :: List.replicate (xs.length - 1) 0 :=
  itp_poly hF hp hx hd (c := [1]) (fun y h => by rw [List.mem_singleton] at h; omega) (by simp; omega) (fun j hj => by rw [hy j hj, evm_one (by omega)])
/-- REJECTS. -/
theorem rejects {p : Nat} (hF : Fer p) (hp : 2 < p) {xs ys : List Nat} (hx : ∀ x ∈ xs, x < p) (hd : xs.Nodup) (hn : 2 ≤ xs.length) {i d : Nat} (hi : i < xs.length) (hdp : d < p)
    (h1 : ∀ j, j < xs.length → j ≠ i → ys.getD j 0 = 1) (h2 : ys.getD i 0 = addm p 1 d) : (∀ t, xs.length - 1 ≤ t → (itp p xs ys xs.length).getD t 0 = 0) ↔ d = 0 := by
  have h0 : 0 < p := by omega
  constructor
  · intro h
    have hyl : ∀ j, j < xs.length → ys.getD j 0 < p := fun j hj => by
      by_cases e : j = i
      · rw [e, h2]; exact addm_lt _ _ h0
      · rw [h1 j hj e]; omega
    have hol : (oth xs i).length = xs.length - 1 := oth_len hi
    have hox : ∀ x ∈ oth xs i, x < p := fun x hm => hx x (List.mem_of_mem_eraseIdx hm)
    have hod : (oth xs i).Nodup := List.Pairwise.sublist (List.eraseIdx_sublist ..) hd
    have hv : ∀ j, j < xs.length → evm p (xs.getD j 0) ((itp p xs ys xs.length).take (xs.length - 1)) = ys.getD j 0 := fun j hj => by
      rw [evm_take h, evm_itp hF hp hx hd hj (hyl j hj)]
    have hcl : ((itp p xs ys xs.length).take (xs.length - 1)).length = xs.length - 1 := by rw [List.length_take, itp_len h0 xs ys _ (Nat.le_refl _)]; omega
    have e1 := itp_poly hF hp hox hod (ys := List.replicate (xs.length - 1) 1) (c := (itp p xs ys xs.length).take (xs.length - 1)) (fun y hm => itp_lt h0 xs ys _ y (List.mem_of_mem_take hm)) (by omega) (fun j hj => by
      rw [getD_rep 1 (by omega)]
      have hm := getD_mem hj
      obtain ⟨j', hj', hne, e⟩ := List.mem_eraseIdx_iff_getElem.1 hm
      have e' : xs.getD j' 0 = (oth xs i).getD j 0 := by rw [List.getD_eq_getElem?_getD, List.getElem?_eq_getElem hj']; exact e
      rw [← e', hv j' hj', h1 j' hj' hne])
    have e2 := itp_ones hF hp hox hod (ys := List.replicate (xs.length - 1) 1) (by omega) (fun j hj => getD_rep 1 (by omega))
    rw [e2, hcl, hol, Nat.sub_self, List.replicate_zero, List.append_nil] at e1
    have e3 := hv i hi
    rw [← e1, h2] at e3
    have e4 : evm p (xs.getD i 0) (1 :: List.replicate (xs.length - 1 - 1) 0) = 1 := by
      have : (1 :: List.replicate (xs.length - 1 - 1) 0).take 1 = [1] := rfl
      rw [← evm_take (k := 1) (fun t ht => ?_), this, evm_one (by omega)]
      rw [List.getD_eq_getElem?_getD, List.getElem?_cons, if_neg (by omega), List.getElem?_replicate]
      split <;> rfl
    rw [e4, addm_eq] at e3
    by_cases hlt : 1 + d < p
    · rw [Nat.mod_eq_of_lt hlt] at e3; omega
    · have e5 : 1 + d = p := by omega
      rw [e5, Nat.mod_self] at e3; omega
  · intro e
    subst e
    have hy : ∀ j, j < xs.length → ys.getD j 0 = 1 := fun j hj => by
      by_cases e : j = i
      · rw [e, h2, addm_eq]; exact Nat.mod_eq_of_lt (by omega)
      · exact h1 j hj e
    intro t ht
    rw [itp_ones hF hp hx hd (by omega) hy, List.getD_eq_getElem?_getD, List.getElem?_cons, if_neg (by omega), List.getElem?_replicate]
    split <;> rfl
end Go.Proofs.YtogenbggjodcnaaDoor
/-
  Points as numbers; the other points among the first ones; differences of forms. Plain.
-/
namespace Go.Proofs.YtogenbggjodcnaaDoor

/-- The points as numbers. -/
def pts (xs : List Int) : List Nat := xs.map Int.toNat
theorem pts_len (xs : List Int) : (pts xs).length = xs.length := by simp [pts]
theorem pts_at {xs : List Int} {i : Nat} {x : Int} (h : xs[i]? = some x) : (pts xs).getD i 0 = x.toNat := by
  unfold pts
  rw [List.getD_eq_getElem?_getD, List.getElem?_map, h]; rfl
theorem pts_lt {xs : List Int} (h : ∀ x ∈ xs, 1 ≤ x ∧ x ≤ 255) {p : Nat} (hp : 255 < p) : ∀ y ∈ pts xs, y < p := fun y hy => by
  obtain ⟨x, hx, rfl⟩ := List.mem_map.1 hy
  have := h x hx; omega
theorem pts_nodup {xs : List Int} (h : ∀ x ∈ xs, 1 ≤ x ∧ x ≤ 255) (hd : xs.Nodup) : (pts xs).Nodup := by
  unfold pts
  refine List.pairwise_map.2 (List.Pairwise.imp_of_mem ?_ hd)
  intro a b ha hb hne e
  have := h a ha
  have := h b hb
  exact hne (by omega)
theorem oth_take_self {xs : List Nat} {i : Nat} : oth (xs.take i) i = xs.take i := by
  unfold oth
  exact List.eraseIdx_of_length_le (by simp; omega)
theorem oth_zero (xs : List Nat) (i : Nat) : oth (xs.take 0) i = [] := by unfold oth; simp
theorem oth_all {xs : List Nat} {n : Nat} (h : xs.length ≤ n) (i : Nat) : oth (xs.take n) i = oth xs i := by rw [List.take_of_length_le h]
/-- One more of the other points. -/
theorem oth_next {xs : List Nat} {i k : Nat} (hk : k < xs.length) (hne : k ≠ i) : oth (xs.take (k + 1)) i = oth (xs.take k) i ++ [xs.getD k 0] := by
  have e : xs.take (k + 1) = xs.take k ++ [xs.getD k 0] := by
    rw [List.take_add_one, List.getD_eq_getElem?_getD, List.getElem?_eq_getElem hk]; rfl
  unfold oth
  rw [e]
  by_cases h : i < k
  · rw [List.eraseIdx_append_of_lt_length (by simp; omega)]
  · rw [List.eraseIdx_of_length_le (by simp; omega), List.eraseIdx_of_length_le (by simp; omega)]
/-- The point itself is left out. -/
theorem oth_skip {xs : List Nat} {i k : Nat} (hk : k < xs.length) (he : k = i) : oth (xs.take (k + 1)) i = oth (xs.take k) i := by
  subst he
  rw [oth_take_self]
  have e : xs.take (k + 1) = xs.take k ++ [xs.getD k 0] := by
    rw [List.take_add_one, List.getD_eq_getElem?_getD, List.getElem?_eq_getElem hk]; rfl
  unfold oth
  rw [e, List.eraseIdx_append_of_length_le (by simp; omega)]
  have h0 : k - (xs.take k).length = 0 := by simp; omega
  rw [h0]; simp
theorem den_nil (p x : Nat) : den p x [] = 1 := rfl
theorem den_snoc (p x : Nat) (ys : List Nat) (y : Nat) : den p x (ys ++ [y]) = mulm p (den p x ys) (subm p x y) := by unfold den; rw [List.foldl_append]; rfl
theorem negs_snoc (p d : Nat) (ys : List Nat) (y : Nat) : negs p d (ys ++ [y]) = mulm p (negs p d ys) (subm p 0 y) := by unfold negs; rw [List.foldl_append]; rfl
theorem flV_snoc (p : Nat) (o ys : List Nat) (y : Nat) : flV p o (ys ++ [y]) = linV p (flV p o ys) y := by unfold flV; rw [List.foldl_append]; rfl
/-- Differences of forms. -/
theorem frm_subm {m : Nat} (hm : 0 < m) (x : Nat) {y : Nat} (hy : y ≤ m) : subm m (frm m x) (frm m y) = frm m (subm m x y) := by
  have h1 : frm m y < m := frm_lt _ hm
  refine Cg.eq ?_ (subm_lt _ _ hm) (frm_lt _ hm)
  have e : ∀ v, frm m v = mulm m B256 v := fun v => by rw [frm_eq, mulm_eq]
  have c : ∀ v : Nat, Cg m (frm m v : Int) ((B256 : Int) * (v : Int)) := fun v => by rw [e, mulm_cn]; exact cn_cg hm _
  rw [subm_cn _ (Nat.le_of_lt h1)]
  refine (cn_cg hm _).trans ?_
  refine ((c x).sub (c y)).trans ?_
  refine Cg.trans ?_ (c _).symm
  rw [subm_cn x hy]
  exact (Cg.of (by rw [← Int.mul_sub])).trans ((Cg.refl m (B256 : Int)).mul (cn_cg hm _).symm)
end Go.Proofs.YtogenbggjodcnaaDoor
/-
  The check of indices: plain.
-/
namespace Go.Proofs.YtogenbggjodcnaaDoor

/-- What Check returns. -/
noncomputable def chkx (xs : List Int) : Int := open Classical in if ∀ x ∈ xs, 1 ≤ x ∧ x ≤ 255 then (if xs.Nodup then 0 else 15) else 12
/-- No two of the first n are alike. -/
def nod (xs : List Int) (n : Nat) : Prop := ∀ a b, b < a → a < n → xs[a]? ≠ xs[b]?
theorem chkx_bad {xs : List Int} {i : Nat} {x : Int} (h : xs[i]? = some x) (hx : ¬ (1 ≤ x ∧ x ≤ 255)) : chkx xs = 12 := by
  unfold chkx
  rw [if_neg (fun h9 => hx (h9 x (List.mem_of_getElem? h)))]
theorem nod_zero (xs : List Int) : nod xs 0 := fun _ _ _ h => absurd h (Nat.not_lt_zero _)
/-- One more that differs from those before it. -/
theorem nod_succ {xs : List Int} {n : Nat} (h : nod xs n) (h1 : ∀ b, b < n → xs[n]? ≠ xs[b]?) : nod xs (n + 1) := fun a b hb ha => by
  by_cases e : a = n
  · subst e; exact h1 b hb
  · exact h a b hb (by omega)
theorem nod_nodup {xs : List Int} (h : nod xs xs.length) : xs.Nodup := by
  refine List.pairwise_iff_getElem.2 fun i j hi hj hij e => ?_
  exact h j i hij hj (by rw [List.getElem?_eq_getElem hi, List.getElem?_eq_getElem hj, e])
theorem nodup_nod {xs : List Int} (h : xs.Nodup) : nod xs xs.length := by
  intro a b hb ha e
  have hb2 : b < xs.length := Nat.lt_trans hb ha
  rw [List.getElem?_eq_getElem ha, List.getElem?_eq_getElem hb2] at e
  exact List.pairwise_iff_getElem.1 h b a hb2 ha hb (Option.some.inj e).symm
theorem chkx_dup {xs : List Int} (hall : ∀ x ∈ xs, 1 ≤ x ∧ x ≤ 255) {a b : Nat} (hb : b < a) (ha : a < xs.length) (e : xs[a]? = xs[b]?) : chkx xs = 15 := by
  unfold chkx
  rw [if_pos hall, if_neg (fun h => nodup_nod h a b hb ha e)]
theorem chkx_ok {xs : List Int} (hall : ∀ x ∈ xs, 1 ≤ x ∧ x ≤ 255) (h : nod xs xs.length) : chkx xs = 0 := by
  unfold chkx
  rw [if_pos hall, if_pos (nod_nodup h)]
/-- By whether two are alike. -/
theorem chkx_nodup {xs : List Int} (hall : ∀ x ∈ xs, 1 ≤ x ∧ x ≤ 255) : (xs.Nodup → chkx xs = 0) ∧ (¬ xs.Nodup → chkx xs = 15) := by
  unfold chkx
  rw [if_pos hall]
  exact ⟨fun h => if_pos h, fun h => if_neg h⟩
/-- An accepted list: its points lie between 1 and 255 and differ. -/
theorem chkx_zero {xs : List Int} (h : chkx xs = 0) : (∀ x ∈ xs, 1 ≤ x ∧ x ≤ 255) ∧ xs.Nodup := by
  unfold chkx at h
  by_cases h1 : ∀ x ∈ xs, 1 ≤ x ∧ x ≤ 255
  · rw [if_pos h1] at h
    by_cases h2 : xs.Nodup
    · exact ⟨h1, h2⟩
    · rw [if_neg h2] at h; omega
  · rw [if_neg h1] at h; omega
end Go.Proofs.YtogenbggjodcnaaDoor
