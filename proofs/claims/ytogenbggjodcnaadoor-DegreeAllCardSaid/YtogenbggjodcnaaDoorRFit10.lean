/-
  The reference's Fits, and its masks.
-/
import Derived.Test.YtogenbggjodcnaaDoorBel10
import Derived.Test.YtogenbggjodcnaaDoorLagC
import Derived.Test.YtogenbggjodcnaaDoorREval
import Derived.Test.YtogenbggjodcnaaDoorRefV
import Derived.Deep.RegionHeld3
namespace Go.Proofs.YtogenbggjodcnaaDoor
open Go.RowKit

attribute [local go_sem] Oper.semAt_some
noncomputable def pdec (A : Prop) : Bool := open Classical in decide A
theorem pdec_true {A : Prop} (h : A) : pdec A = true := by unfold pdec; simp [h]
theorem pdec_false {A : Prop} (h : ¬ A) : pdec A = false := by unfold pdec; simp [h]
theorem IntSl.take {w : World} {a : Option Addr} {n c m : Nat} {xs : List Int} (h : IntSl w (.slice a n c) xs) (hm : m ≤ xs.length) : IntSl w (.slice a m c) (xs.take m) := by
  obtain ⟨a', c', e, h0 | ⟨g, off, ha, he⟩⟩ := h
  · cases e
    subst h0
    obtain rfl : m = 0 := by simpa using hm
    exact ⟨a, c, rfl, .inl rfl⟩
  · cases e
    exact ⟨_, _, by rw [List.length_take, Nat.min_eq_left hm], .inr ⟨g, off, ha, fun j x hj => he j x (by
      rw [List.getElem?_take] at hj
      split at hj
      · exact hj
      · cases hj)⟩⟩
theorem NumSl.take {w : World} {a : Option Addr} {n c m : Nat} {xs : List Nat} (h : NumSl w (.slice a n c) xs) (hm : m ≤ xs.length) : NumSl w (.slice a m c) (xs.take m) := by
  obtain ⟨a', c', e, hc, h0 | ⟨g, off, ha, he⟩⟩ := h
  · cases e
    subst h0
    obtain rfl : m = 0 := by simpa using hm
    exact ⟨a, c, rfl, Nat.zero_le _, .inl rfl⟩
  · cases e
    exact ⟨_, _, by rw [List.length_take, Nat.min_eq_left hm], by rw [List.length_take, Nat.min_eq_left hm]; omega, .inr ⟨g, off, ha, fun j x hj => he j x (by
      rw [List.getElem?_take] at hj
      split at hj
      · exact hj
      · cases hj)⟩⟩
theorem pts_take (xs : List Int) (m : Nat) : pts (xs.take m) = (pts xs).take m := by unfold pts; rw [List.map_take]
theorem eqv_ne {a b : Nat} (ha : a < B256) (hb : b < B256) (h : a ≠ b) (w : World) : (Op.equalIn 10000 28 (vec a) (vec b)).run Tryd.prog w = .ok false w := by
  rw [run_eq_vec, eq4_vec ha hb, decide_eq_false h]
theorem eqv_eq {a : Nat} (ha : a < B256) (w : World) : (Op.equalIn 10000 28 (vec a) (vec a)).run Tryd.prog w = .ok true w := by
  rw [run_eq_vec, eq4_vec ha ha, decide_eq_true rfl]
/-- The polynomial through the first m points has all values. -/
def rft (p : Nat) (ns ys : List Nat) (m n : Nat) : Prop := ∀ j, j < n → evm p (ns.getD j 0) (itp p (ns.take m) (ys.take m) m) = ys.getD j 0
/-- What is cut off. -/
def cutk (k : Int) (n : Nat) : Nat := (max (min k (n : Int)) 0).toNat
theorem cutk_le (k : Int) (n : Nat) : cutk k n ≤ n := by unfold cutk; omega
theorem blw_fits {b : Bool} {ns ys : List Nat} (hx : ∀ x ∈ ns, x < fP b) (hd : ns.Nodup) (hy : ∀ y ∈ ys, y < fP b) (hl : ys.length = ns.length) (k : Int) :
    blw (itp (fP b) ns ys ns.length) k ns.length ↔ rft (fP b) ns ys (cutk k ns.length) ns.length := by
  have hp := fP_two b
  have h := fits_iff (fer_b b) hp hx hd hy hl (cutk_le k ns.length)
  have hil : (itp (fP b) ns ys ns.length).length = ns.length := itp_len (by omega) ns ys _ (Nat.le_refl _)
  unfold rft
  rw [← h]
  constructor
  · intro h1 t ht
    by_cases e : t < ns.length
    · exact h1 t e (by unfold cutk at ht; omega)
    · exact getD_none (by omega)
  · intro h1 i hi hk
    exact h1 i (by unfold cutk; omega)
theorem bmk_fits {b : Bool} {ns ys : List Nat} (hx : ∀ x ∈ ns, x < fP b) (hd : ns.Nodup) (hy : ∀ y ∈ ys, y < fP b) (hl : ys.length = ns.length) (k : Int) :
    bmk (itp (fP b) ns ys ns.length) k = if pdec (rft (fP b) ns ys (cutk k ns.length) ns.length) then 18446744073709551615 else 0 := by
  have hp := fP_two b
  have hil : (itp (fP b) ns ys ns.length).length = ns.length := itp_len (by omega) ns ys _ (Nat.le_refl _)
  unfold bmk
  rw [veil_eq, hil]
  by_cases e : rft (fP b) ns ys (cutk k ns.length) ns.length
  · rw [if_pos ((blw_fits hx hd hy hl k).2 e), pdec_true e]; rfl
  · rw [if_neg (fun h => e ((blw_fits hx hd hy hl k).1 h)), pdec_false e]; rfl
set_option maxRecDepth 100000 in
set_option maxHeartbeats 2000000 in
theorem rmask_any (c : Bool) (w : World) :
    Calls Tryd.prog 19 #[.bool c] w (Ret (.int .u64 (if c then 18446744073709551615 else 0 : Int)) w) := by
  cases c
  · go_enter Tryd.func19, Tryd.ntmps19
    go_wp2
    go_ret
    exact ⟨rfl, Below.refl _ _⟩
  · go_enter Tryd.func19, Tryd.ntmps19
    go_wp2
    go_ret
    exact ⟨rfl, Below.refl _ _⟩
set_option maxRecDepth 100000 in
set_option maxHeartbeats 4000000 in
theorem rfits_any (b : Bool) (v u : Value) (xs : List Int) (ys : List Nat) (k : Int) (w : World) (hS : IntSl w v xs) (hU : NumSl w u ys) (hy : ∀ y ∈ ys, y < fP b) (hl : xs.length < 10000) (he : xs.length = ys.length) (hall : ∀ x ∈ xs, 1 ≤ x ∧ x ≤ 255) (hcap : ∀ a n c, v = .slice a n c → n ≤ c) :
    Calls Tryd.prog 20 #[vec (fP b), v, u, .int .i64 k] w (Ret (.bool (pdec (rft (fP b) (pts xs) ys (cutk k xs.length) xs.length))) w) := by
  have BW := hid (Below.refl w.heap.size w)
  have HS := hid hS
  have HU := hid hU
  have HY := hid hy
  have HALL := hid hall
  have HAT := hid (fun (i : Nat) (x : Int) (h : xs[i]? = some x) => pts_at h)
  obtain ⟨sa, sc, rfl, _⟩ := hS
  obtain ⟨su, cu, rfl, hcu, _⟩ := hU
  have hsc := hcap _ _ _ rfl
  have hp2 := fP_two b
  have hpb := fP_lt b
  obtain ⟨m, hm⟩ : ∃ m, cutk k xs.length = m := ⟨_, rfl⟩
  have hmn := cutk_le k xs.length
  rw [hm] at hmn ⊢
  have RC := hid (fun (W : World) (h : IntSl W (.slice sa m sc) (xs.take m)) (h2 : NumSl W (.slice su m cu) (ys.take m)) => ritp_any b _ _ (xs.take m) (ys.take m) W h h2 (fun y hy9 => HY.out y (List.mem_of_mem_take hy9)) (by rw [List.length_take]; omega) (by rw [List.length_take, List.length_take]; omega) (fun x hx9 => HALL.out x (List.mem_of_mem_take hx9)))
  unfold RetSl at RC
  rw [pts_take, List.length_take, Nat.min_eq_left hmn] at RC
  obtain ⟨ns, hns⟩ : ∃ ns, pts xs = ns := ⟨_, rfl⟩
  rw [hns] at RC HAT ⊢
  rw [← he] at hcu HU ⊢
  obtain ⟨n, hn⟩ : ∃ n, xs.length = n := ⟨_, rfl⟩
  rw [hn] at hl HS HU hsc hcu hm hmn he ⊢
  have HN := hid hn
  have HE := hid he
  have HST := hid (HS.out.take (m := m) (by rw [HN.out]; exact hmn))
  have HUT := hid (HU.out.take (m := m) (by rw [← he]; exact hmn))
  have HCL := hid (itp_lt (p := fP b) (by omega) (ns.take m) (ys.take m) m)
  have HCN : Hid ((itp (fP b) (ns.take m) (ys.take m) m).length < 1000000) := hid (by rw [itp_len (by omega) (ns.take m) (ys.take m) m (by rw [← hns, List.length_take, pts_len, hn]; omega), List.length_take]; omega)
  have HRF : Hid (rft (fP b) ns ys m n ↔ ∀ j, j < n → evm (fP b) (ns.getD j 0) (itp (fP b) (ns.take m) (ys.take m) m) = ys.getD j 0) := hid Iff.rfl
  obtain ⟨Q, hQ⟩ : ∃ Q, rft (fP b) ns ys m n = Q := ⟨_, rfl⟩
  rw [hQ] at HRF ⊢
  obtain ⟨cs, hcs⟩ : ∃ cs, itp (fP b) (ns.take m) (ys.take m) m = cs := ⟨_, rfl⟩
  rw [hcs] at RC HCL HCN HRF
  have EVC := hid (fun (W : World) (v : Value) (x : Nat) (hx9 : x < fP b) (h : NumSl W v cs) => reval_any (fP b) x v cs W hpb (by omega) hx9 h HCL.out HCN.out)
  obtain ⟨mm, hmm⟩ : ∃ mm, min k (n : Int) = mm := ⟨_, rfl⟩
  have hm0 : max mm 0 = (m : Int) := by rw [← hmm, ← hm]; unfold cutk; omega
  have e1 : (if (n : Int) < k then (n : Int) else k) = mm := by split <;> omega
  have e2 : (if k < (n : Int) then k else (n : Int)) = mm := by split <;> omega
  have e3 : (if k ≤ (n : Int) then k else (n : Int)) = mm := by split <;> omega
  have e4 : (if mm < 0 then 0 else mm) = (m : Int) := by split <;> omega
  have e5 : (if 0 < mm then mm else 0) = (m : Int) := by split <;> omega
  have hmi : (0 : Int) ≤ (m : Int) := by omega
  have hms : (m : Int) ≤ (sc : Int) := by omega
  have hmu : (m : Int) ≤ (cu : Int) := by omega
  clear hcap hy hall hm hmm hm0 hns hn he hQ hcs
  go_enter Tryd.func20, Tryd.ntmps20
  go_upto_region 1 with (fail)
  obtain ⟨v1, hv9⟩ : ∃ v, (w.alloc (.cells #[.int .u64 (limb (fP b) 0 : Int), .int .u64 (limb (fP b) 1 : Int), .int .u64 (limb (fP b) 2 : Int), .int .u64 (limb (fP b) 3 : Int)] 28)) = v := ⟨_, rfl⟩
  have hG9 : Below w.heap.size w v1 := by rw [← hv9]; go_grown
  have X_P : Blk v1 (w.heap.size) 28 [.int .u64 (limb (fP b) 0 : Int), .int .u64 (limb (fP b) 1 : Int), .int .u64 (limb (fP b) 2 : Int), .int .u64 (limb (fP b) 3 : Int)] := by rw [← hv9]; exact Blk.new rfl
  obtain ⟨bP, hb9⟩ : ∃ k, w.heap.size = k := ⟨_, rfl⟩
  rw [hb9] at X_P
  have g_bP : w.heap.size ≤ bP := by rw [← hb9]; exact BW.out.size
  replace BW := hid (BW.out.trans (hG9.mono BW.out.size))
  clear hG9
  rw [hv9]
  try rw [hb9]
  clear hv9 hb9
  go_upto_region 2 with (fail)
  clear e1 e2 e3 e4 e5
  have z_P := X_P.lt
  have c_P0 := X_P.cell (i := 0) rfl
  have c_P1 := X_P.cell (i := 1) rfl
  have c_P2 := X_P.cell (i := 2) rfl
  have c_P3 := X_P.cell (i := 3) rfl
  go_wp2_with fail
  go_region_held3 (fun w' => ∀ b o, b < v1.heap.size → w'.cell? ⟨b, o, none⟩ = v1.cell? ⟨b, o, none⟩) ((intro b o h; first | with_reducible exact c1 b o h | with_reducible exact cell_drew | with_reducible exact cell_drew.trans (cell_alloc h) | (with_reducible refine (cell_alloc (by (try simp); omega)).trans ?_; first | with_reducible exact c1 b o h | with_reducible exact cell_drew) | with_reducible exact (below_set4 H1.out (by omega) _ _ _ _).cell (p := ⟨b, o, none⟩) h)) (first | (go_at_call 60; refine (RC.out _ ((HST.out.below BW.out).below (by first | with_reducible exact Below.drew (Below.refl _ _) | with_reducible exact Below.drew ((Below.refl _ _).alloc (Nat.le_refl _) _))) ((HUT.out.below BW.out).below (by first | with_reducible exact Below.drew (Below.refl _ _) | with_reducible exact Below.drew ((Below.refl _ _).alloc (Nat.le_refl _) _)))).mono ?_; rintro e ra1 ⟨vr, rfl, hw, b9⟩; have H1 : Hid (Below v1.heap.size v1 ra1) := hid (Below.drew (Below.refl _ v1)).trans b9; have hw := hid hw; clear b9; have c1 := bcell H1.out; have z1 := H1.out.size))
  have hH9 := H1.out
  clear z_P c_P0 c_P1 c_P2 c_P3
  replace X_P := X_P.keep hH9
  replace BW := hid (BW.out.trans (hH9.mono BW.out.size))
  clear hH9
  clear H1 c1 z1
  have N_c := hw
  clear hw
  go_wp2
  go_loopw [11] (fun ix wr => ∃ i : Nat, i ≤ n ∧ ix = .int .i64 (i : Int) ∧ Blk wr (bP) 28 [.int .u64 (limb (fP b) 0 : Int), .int .u64 (limb (fP b) 1 : Int), .int .u64 (limb (fP b) 2 : Int), .int .u64 (limb (fP b) 3 : Int)] ∧ NumSl wr vr cs ∧ Below w.heap.size w wr ∧ ∀ j, j < i → evm (fP b) (ns.getD j 0) cs = ys.getD j 0) (fun ix _ => n - (intOf ix).toNat)
  case atStart => exact ⟨0, Nat.zero_le _, rfl, X_P, N_c.out, BW.out, fun j h => absurd h (Nat.not_lt_zero _)⟩
  case round =>
    clear X_P N_c BW
    obtain ⟨i, hk_i, rfl, X_P, n9_c, b9, hm_i⟩ := hrel
    obtain ⟨v2, hv9⟩ : ∃ v, v = wr := ⟨_, rfl⟩
    subst hv9
    have N_c := hid n9_c
    clear n9_c
    have BW := hid b9
    clear b9
    have HM_i := hid hm_i
    clear hm_i
    by_cases hi : i < n
    · skip
      have HJ := HM_i
      clear HM_i
      obtain ⟨x, h9⟩ : ∃ x, xs[i]? = some x := ⟨xs[i]'(by rw [HN.out]; exact hi), List.getElem?_eq_getElem _⟩
      obtain ⟨l_x, u_x⟩ := HALL.out x (List.mem_of_getElem? h9)
      have HP_x := hid (HAT.out _ _ h9)
      have H_x := hid h9
      clear h9
      obtain ⟨y, hy⟩ : ∃ x, ys[i]? = some x := ⟨ys[i]'(by rw [← HE.out]; exact hi), List.getElem?_eq_getElem _⟩
      obtain ⟨ga, oa, rfl, zd, d0⟩ := (HS.out.below BW.out).at H_x.out
      obtain ⟨gb, ob, rfl, zq, q0, q1, q2, q3⟩ := (HU.out.below BW.out).at4 hy
      have HYD := hid (getD_some hy)
      have hyl := HY.out y (List.mem_of_getElem? hy)
      clear hy
      have hi0 : (0 : Int) ≤ (i : Int) := by omega
      have hin : (i : Int) < (n : Int) := by omega
      have hb9 : 255 < fP b := by cases b <;> decide
      have hxl : x.toNat < fP b := by omega
      clear hb9
      have P1 := hid (fun W : World => point_any x l_x u_x W)
      have EV := hid (fun (W : World) (h : NumSl W vr cs) => EVC.out W vr x.toNat hxl h)
      have M1 := hid (fun W : World => rmod_any (fP b) y hpb (by omega) (Nat.lt_trans hyl hpb) W)
      rw [mulm_one' hyl] at M1
      have hev := evm_lt (p := fP b) x.toNat cs (by omega)
      rw [← HP_x.out] at EV hev
      obtain ⟨ev, hev9⟩ : ∃ z, evm (fP b) (ns.getD i 0) cs = z := ⟨_, rfl⟩
      rw [hev9] at EV hev
      have HEV := hid hev9
      rw [HP_x.out] at EV
      obtain ⟨xt, hxt⟩ : ∃ z, x.toNat = z := ⟨_, rfl⟩
      rw [hxt] at P1 EV
      clear hxt hev9 hxl
      by_cases e : ev = y
      · skip
        subst e
        have heq := fun W : World => eqv_eq (a := ev) (Nat.lt_trans hev hpb) W
        have hy9 := ev
        have z_P := X_P.lt
        have c_P0 := X_P.cell (i := 0) rfl
        have c_P1 := X_P.cell (i := 1) rfl
        have c_P2 := X_P.cell (i := 2) rfl
        have c_P3 := X_P.cell (i := 3) rfl
        go_wp2_with fail
        refine wp_region_soft (C := fun W' => Below v2.heap.size v2 W') 14 (by kernel_rfl) (by kernel_rfl) ((Below.refl _ _).drew) ?_
        simp only [List.take_succ_cons, List.take_zero, List.drop_succ_cons, List.drop_zero]
        refine wpQuiet_step (fun K hK => ?_)
        rw [if_pos (by rfl)]
        refine ⟨vec (fP b), fun W' hW => ?_, hK _ ?_⟩
        · have e_0 := (hW.cell (p := ⟨bP, 0, none⟩) z_P).trans c_P0
          have e_1 := (hW.cell (p := ⟨bP, 1, none⟩) z_P).trans c_P1
          have e_2 := (hW.cell (p := ⟨bP, 2, none⟩) z_P).trans c_P2
          have e_3 := (hW.cell (p := ⟨bP, 3, none⟩) z_P).trans c_P3
          go_simp
        clear hK K
        simp only [Act.put, List.setIfInBounds_toArray, List.set_cons_zero, List.set_cons_succ]
        refine wpQuiet_step (fun K hK => ?_)
        rw [if_pos (by rfl)]
        refine ⟨vr, fun W' hW => ?_, hK _ ?_⟩
        · go_simp
        clear hK K
        simp only [Act.put, List.setIfInBounds_toArray, List.set_cons_zero, List.set_cons_succ]
        refine wpQuiet_step (fun K hK => ?_)
        rw [if_pos (by rfl)]
        refine ⟨.slice (some ⟨ga, oa, none⟩) n sc, fun W' hW => ?_, hK _ ?_⟩
        · go_simp
        clear hK K
        simp only [Act.put, List.setIfInBounds_toArray, List.set_cons_zero, List.set_cons_succ]
        refine wpQuiet_step (fun K hK => ?_)
        rw [if_pos (by rfl)]
        refine ⟨.int .i64 (i : Int), fun W' hW => ?_, hK _ ?_⟩
        · go_simp
        clear hK K
        simp only [Act.put, List.setIfInBounds_toArray, List.set_cons_zero, List.set_cons_succ]
        refine wpQuiet_step (fun K hK => ?_)
        rw [if_pos (by rfl)]
        refine ⟨.pointer (some ⟨ga, oa + i, none⟩), fun W' hW => ?_, hK _ ?_⟩
        · go_simp
        clear hK K
        simp only [Act.put, List.setIfInBounds_toArray, List.set_cons_zero, List.set_cons_succ]
        refine wpQuiet_step (fun K hK => ?_)
        rw [if_pos (by rfl)]
        refine ⟨.int .i64 x, fun W' hW => ?_, hK _ ?_⟩
        · have e_0 := (hW.cell (p := ⟨ga, oa + i, none⟩) zd).trans d0
          go_simp
        clear hK K
        simp only [Act.put, List.setIfInBounds_toArray, List.set_cons_zero, List.set_cons_succ]
        refine wpQuiet_step (fun K hK => ?_)
        rw [if_pos (by rfl)]
        refine ⟨vec xt, fun W' hW => ?_, hK _ ?_⟩
        · go_simp
          refine (P1.out _).mono ?_
          rintro e w' ⟨rfl, b⟩
          exact ⟨rfl, hW.trans (b.mono hW.size)⟩
        clear hK K
        simp only [Act.put, List.setIfInBounds_toArray, List.set_cons_zero, List.set_cons_succ]
        refine wpQuiet_step (fun K hK => ?_)
        rw [if_pos (by rfl)]
        refine ⟨vec ev, fun W' hW => ?_, hK _ ?_⟩
        · go_simp
          refine (EV.out _ (N_c.out.below hW)).mono ?_
          rintro e w' ⟨rfl, b⟩
          exact ⟨rfl, hW.trans (b.mono hW.size)⟩
        clear hK K
        simp only [Act.put, List.setIfInBounds_toArray, List.set_cons_zero, List.set_cons_succ]
        refine wpQuiet_step (fun K hK => ?_)
        rw [if_pos (by rfl)]
        refine ⟨vec (fP b), fun W' hW => ?_, hK _ ?_⟩
        · have e_0 := (hW.cell (p := ⟨bP, 0, none⟩) z_P).trans c_P0
          have e_1 := (hW.cell (p := ⟨bP, 1, none⟩) z_P).trans c_P1
          have e_2 := (hW.cell (p := ⟨bP, 2, none⟩) z_P).trans c_P2
          have e_3 := (hW.cell (p := ⟨bP, 3, none⟩) z_P).trans c_P3
          go_simp
        clear hK K
        simp only [Act.put, List.setIfInBounds_toArray, List.set_cons_zero, List.set_cons_succ]
        refine wpQuiet_step (fun K hK => ?_)
        rw [if_pos (by rfl)]
        refine ⟨.slice (some ⟨gb, ob, none⟩) n cu, fun W' hW => ?_, hK _ ?_⟩
        · go_simp
        clear hK K
        simp only [Act.put, List.setIfInBounds_toArray, List.set_cons_zero, List.set_cons_succ]
        refine wpQuiet_step (fun K hK => ?_)
        rw [if_pos (by rfl)]
        refine ⟨.int .i64 (i : Int), fun W' hW => ?_, hK _ ?_⟩
        · go_simp
        clear hK K
        simp only [Act.put, List.setIfInBounds_toArray, List.set_cons_zero, List.set_cons_succ]
        refine wpQuiet_step (fun K hK => ?_)
        rw [if_pos (by rfl)]
        refine ⟨.pointer (some ⟨gb, ob + i * 4, none⟩), fun W' hW => ?_, hK _ ?_⟩
        · go_simp
        clear hK K
        simp only [Act.put, List.setIfInBounds_toArray, List.set_cons_zero, List.set_cons_succ]
        refine wpQuiet_step (fun K hK => ?_)
        rw [if_pos (by rfl)]
        refine ⟨vec ev, fun W' hW => ?_, hK _ ?_⟩
        · have e_0 := (hW.cell (p := ⟨gb, ob + i * 4, none⟩) zq).trans q0
          have e_1 := (hW.cell (p := ⟨gb, ob + i * 4 + 1, none⟩) zq).trans q1
          have e_2 := (hW.cell (p := ⟨gb, ob + i * 4 + 2, none⟩) zq).trans q2
          have e_3 := (hW.cell (p := ⟨gb, ob + i * 4 + 3, none⟩) zq).trans q3
          go_simp
        clear hK K
        simp only [Act.put, List.setIfInBounds_toArray, List.set_cons_zero, List.set_cons_succ]
        refine wpQuiet_step (fun K hK => ?_)
        rw [if_pos (by rfl)]
        refine ⟨vec ev, fun W' hW => ?_, hK _ ?_⟩
        · go_simp
          refine (M1.out _).mono ?_
          rintro e w' ⟨rfl, b⟩
          exact ⟨rfl, hW.trans (b.mono hW.size)⟩
        clear hK K
        simp only [Act.put, List.setIfInBounds_toArray, List.set_cons_zero, List.set_cons_succ]
        refine wpQuiet_nil ?_
        intro ws1 hW9
        clear z_P c_P0 c_P1 c_P2 c_P3
        replace X_P := X_P.keep hW9
        replace N_c := hid (N_c.out.below hW9)
        replace BW := hid (BW.out.trans (hW9.mono BW.out.size))
        clear hW9
        clear d0 q0 q1 q2 q3 zd zq
        go_wp2
        go_roundw
        case rel => exact ⟨i + 1, by omega, by go_num, X_P, N_c.out, BW.out, fun j hj => by 
                      by_cases e9 : j = i 
                      · subst e9; rw [HEV.out, HYD.out] 
                      · exact HJ.out j (by omega)⟩
        case measure => simp [intOf]; omega
      · skip
        have heq := fun W : World => eqv_ne (Nat.lt_trans hev hpb) (Nat.lt_trans hyl hpb) e W
        have HNE := hid e
        clear e
        have z_P := X_P.lt
        have c_P0 := X_P.cell (i := 0) rfl
        have c_P1 := X_P.cell (i := 1) rfl
        have c_P2 := X_P.cell (i := 2) rfl
        have c_P3 := X_P.cell (i := 3) rfl
        go_wp2_with fail
        refine wp_region_soft (C := fun W' => Below v2.heap.size v2 W') 14 (by kernel_rfl) (by kernel_rfl) ((Below.refl _ _).drew) ?_
        simp only [List.take_succ_cons, List.take_zero, List.drop_succ_cons, List.drop_zero]
        refine wpQuiet_step (fun K hK => ?_)
        rw [if_pos (by rfl)]
        refine ⟨vec (fP b), fun W' hW => ?_, hK _ ?_⟩
        · have e_0 := (hW.cell (p := ⟨bP, 0, none⟩) z_P).trans c_P0
          have e_1 := (hW.cell (p := ⟨bP, 1, none⟩) z_P).trans c_P1
          have e_2 := (hW.cell (p := ⟨bP, 2, none⟩) z_P).trans c_P2
          have e_3 := (hW.cell (p := ⟨bP, 3, none⟩) z_P).trans c_P3
          go_simp
        clear hK K
        simp only [Act.put, List.setIfInBounds_toArray, List.set_cons_zero, List.set_cons_succ]
        refine wpQuiet_step (fun K hK => ?_)
        rw [if_pos (by rfl)]
        refine ⟨vr, fun W' hW => ?_, hK _ ?_⟩
        · go_simp
        clear hK K
        simp only [Act.put, List.setIfInBounds_toArray, List.set_cons_zero, List.set_cons_succ]
        refine wpQuiet_step (fun K hK => ?_)
        rw [if_pos (by rfl)]
        refine ⟨.slice (some ⟨ga, oa, none⟩) n sc, fun W' hW => ?_, hK _ ?_⟩
        · go_simp
        clear hK K
        simp only [Act.put, List.setIfInBounds_toArray, List.set_cons_zero, List.set_cons_succ]
        refine wpQuiet_step (fun K hK => ?_)
        rw [if_pos (by rfl)]
        refine ⟨.int .i64 (i : Int), fun W' hW => ?_, hK _ ?_⟩
        · go_simp
        clear hK K
        simp only [Act.put, List.setIfInBounds_toArray, List.set_cons_zero, List.set_cons_succ]
        refine wpQuiet_step (fun K hK => ?_)
        rw [if_pos (by rfl)]
        refine ⟨.pointer (some ⟨ga, oa + i, none⟩), fun W' hW => ?_, hK _ ?_⟩
        · go_simp
        clear hK K
        simp only [Act.put, List.setIfInBounds_toArray, List.set_cons_zero, List.set_cons_succ]
        refine wpQuiet_step (fun K hK => ?_)
        rw [if_pos (by rfl)]
        refine ⟨.int .i64 x, fun W' hW => ?_, hK _ ?_⟩
        · have e_0 := (hW.cell (p := ⟨ga, oa + i, none⟩) zd).trans d0
          go_simp
        clear hK K
        simp only [Act.put, List.setIfInBounds_toArray, List.set_cons_zero, List.set_cons_succ]
        refine wpQuiet_step (fun K hK => ?_)
        rw [if_pos (by rfl)]
        refine ⟨vec xt, fun W' hW => ?_, hK _ ?_⟩
        · go_simp
          refine (P1.out _).mono ?_
          rintro e w' ⟨rfl, b⟩
          exact ⟨rfl, hW.trans (b.mono hW.size)⟩
        clear hK K
        simp only [Act.put, List.setIfInBounds_toArray, List.set_cons_zero, List.set_cons_succ]
        refine wpQuiet_step (fun K hK => ?_)
        rw [if_pos (by rfl)]
        refine ⟨vec ev, fun W' hW => ?_, hK _ ?_⟩
        · go_simp
          refine (EV.out _ (N_c.out.below hW)).mono ?_
          rintro e w' ⟨rfl, b⟩
          exact ⟨rfl, hW.trans (b.mono hW.size)⟩
        clear hK K
        simp only [Act.put, List.setIfInBounds_toArray, List.set_cons_zero, List.set_cons_succ]
        refine wpQuiet_step (fun K hK => ?_)
        rw [if_pos (by rfl)]
        refine ⟨vec (fP b), fun W' hW => ?_, hK _ ?_⟩
        · have e_0 := (hW.cell (p := ⟨bP, 0, none⟩) z_P).trans c_P0
          have e_1 := (hW.cell (p := ⟨bP, 1, none⟩) z_P).trans c_P1
          have e_2 := (hW.cell (p := ⟨bP, 2, none⟩) z_P).trans c_P2
          have e_3 := (hW.cell (p := ⟨bP, 3, none⟩) z_P).trans c_P3
          go_simp
        clear hK K
        simp only [Act.put, List.setIfInBounds_toArray, List.set_cons_zero, List.set_cons_succ]
        refine wpQuiet_step (fun K hK => ?_)
        rw [if_pos (by rfl)]
        refine ⟨.slice (some ⟨gb, ob, none⟩) n cu, fun W' hW => ?_, hK _ ?_⟩
        · go_simp
        clear hK K
        simp only [Act.put, List.setIfInBounds_toArray, List.set_cons_zero, List.set_cons_succ]
        refine wpQuiet_step (fun K hK => ?_)
        rw [if_pos (by rfl)]
        refine ⟨.int .i64 (i : Int), fun W' hW => ?_, hK _ ?_⟩
        · go_simp
        clear hK K
        simp only [Act.put, List.setIfInBounds_toArray, List.set_cons_zero, List.set_cons_succ]
        refine wpQuiet_step (fun K hK => ?_)
        rw [if_pos (by rfl)]
        refine ⟨.pointer (some ⟨gb, ob + i * 4, none⟩), fun W' hW => ?_, hK _ ?_⟩
        · go_simp
        clear hK K
        simp only [Act.put, List.setIfInBounds_toArray, List.set_cons_zero, List.set_cons_succ]
        refine wpQuiet_step (fun K hK => ?_)
        rw [if_pos (by rfl)]
        refine ⟨vec y, fun W' hW => ?_, hK _ ?_⟩
        · have e_0 := (hW.cell (p := ⟨gb, ob + i * 4, none⟩) zq).trans q0
          have e_1 := (hW.cell (p := ⟨gb, ob + i * 4 + 1, none⟩) zq).trans q1
          have e_2 := (hW.cell (p := ⟨gb, ob + i * 4 + 2, none⟩) zq).trans q2
          have e_3 := (hW.cell (p := ⟨gb, ob + i * 4 + 3, none⟩) zq).trans q3
          go_simp
        clear hK K
        simp only [Act.put, List.setIfInBounds_toArray, List.set_cons_zero, List.set_cons_succ]
        refine wpQuiet_step (fun K hK => ?_)
        rw [if_pos (by rfl)]
        refine ⟨vec y, fun W' hW => ?_, hK _ ?_⟩
        · go_simp
          refine (M1.out _).mono ?_
          rintro e w' ⟨rfl, b⟩
          exact ⟨rfl, hW.trans (b.mono hW.size)⟩
        clear hK K
        simp only [Act.put, List.setIfInBounds_toArray, List.set_cons_zero, List.set_cons_succ]
        refine wpQuiet_nil ?_
        intro ws2 hW9
        clear z_P c_P0 c_P1 c_P2 c_P3
        replace X_P := X_P.keep hW9
        replace N_c := hid (N_c.out.below hW9)
        replace BW := hid (BW.out.trans (hW9.mono BW.out.size))
        clear hW9
        clear d0 q0 q1 q2 q3 zd zq
        go_wp2
        go_ret
        exact ⟨by rw [pdec_false (fun h => HNE.out (by rw [← HEV.out, ← HYD.out]; exact HRF.out.1 h i hi))]; rfl, BW.out⟩
    · skip
      obtain rfl : n = i := by omega
      clear hi
      have HJ := HM_i
      clear HM_i
      go_wp2
      go_ret
      exact ⟨by rw [pdec_true (HRF.out.2 HJ.out)]; rfl, BW.out⟩
end Go.Proofs.YtogenbggjodcnaaDoor
