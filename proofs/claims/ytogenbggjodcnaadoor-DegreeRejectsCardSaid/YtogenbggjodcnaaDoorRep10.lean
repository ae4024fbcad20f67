/-
  One element repeated.
-/
import Derived.Test.YtogenbggjodcnaaDoorBel10
import Derived.Test.YtogenbggjodcnaaDoorLimbs
import Derived.Laws.CopyRow
namespace Go.Proofs.YtogenbggjodcnaaDoor
open Go.RowKit

attribute [local go_sem] Oper.semAt_some
/-- The builtin's run is known. -/
theorem wpList_copy_run {P : Program} (w : World) {ops : Array Oper} {rest : List Oper} {o : Oper} {a : Act} {Q : Exit → Act → World → Prop} (hgd : o.guard = none) (s x : Operand) (t tn : TypeId)
    (ho : o.op = .call { callee := .builtin .copy, args := #[s, x], argTypes := #[t, tn] }) (vs vx : Value) (hs : a.eval s = vs) (hx : a.eval x = vx)
    (v' : Value) (w' : World) (hr : (Builtin.copy_ #[t, tn] o.type #[vs, vx]).run P w = .ok v' w') (h : wpList P ops Q rest (a.put o.dst v') w') : wpList P ops Q (o :: rest) a w :=
  wpList_plain hgd fun K hK => by
    have hk := hK _ _ h
    unfold Oper.wp execOp
    simp only [ho, resolve, invoke, builtin, Sem.run_bind, Sem.run_pure, Result.andThen_ok, List.map_toArray, List.map_cons, List.map_nil, hs, hx, hr]
    exact hk
theorem reps_len (q c : Nat) : (nums (List.replicate q c)).length = q * 4 := by rw [nums_len, List.length_replicate]
set_option maxRecDepth 100000 in
set_option maxHeartbeats 1000000 in
/-- A copy of q elements, all c, into a made row at d. -/
theorem copy_reps {w : World} {base g n d q c sLen sCap dCap : Nat} {f : Nat → Nat} {a : Addr} (ty : TypeId) (h : RowF w base 29 g n n f) (hd : d + q ≤ n) (hq : Nat.min sLen (n - d) = q)
    (hs : ∀ j, j < q → w.cell? (a.add (j * 4)) = some (.int .u64 (limb c 0 : Int)) ∧ w.cell? (a.add (j * 4 + 1)) = some (.int .u64 (limb c 1 : Int)) ∧ w.cell? (a.add (j * 4 + 2)) = some (.int .u64 (limb c 2 : Int)) ∧ w.cell? (a.add (j * 4 + 3)) = some (.int .u64 (limb c 3 : Int))) :
    ∃ w', (Builtin.copy_ #[34, 34] ty #[.slice (some ⟨g, d * 4, none⟩) (n - d) dCap, .slice (some a) sLen sCap]).run Tryd.prog w = .ok (goInt q) w' ∧ RowF w' base 29 g n n (fun t => if d ≤ t ∧ t < d + q then c else f t) ∧ Only (fun k => k = g) w w' := by
  obtain ⟨ys, ho, hr⟩ := h
  obtain ⟨hlen, hrow⟩ := ho
  obtain ⟨i0, hi, hz0, hz1, hz2⟩ := info_parts info_r9
  rcases hrow with ⟨e, _⟩ | ⟨g9, cap, cur, e, hb, hg, hnc, hcm, hcs, htk⟩
  · cases e
  · cases e
    have hcl : cur.toList.length = n * 4 := by rw [Array.length_toList]; exact hcs
    have hys : cur.toList = ys := by rw [← htk, List.take_of_length_le (by omega)]
    have hsrc : ∀ j u, (nums (List.replicate q c))[j]? = some u → w.cell? (a.add j) = some u := fun j u hu => by
      have hj : j < q * 4 := by rw [← reps_len q c]; exact (List.getElem?_eq_some_iff.1 hu).1
      obtain ⟨j9, r9, hr9, rfl⟩ : ∃ j9 r9, r9 < 4 ∧ j = j9 * 4 + r9 := ⟨j / 4, j % 4, Nat.mod_lt _ (by omega), by omega⟩
      rw [nums_get (List.replicate q c) j9 c (by rw [List.getElem?_replicate, if_pos (by omega)]) r9 hr9] at hu
      cases hu
      obtain ⟨s0, s1, s2, s3⟩ := hs j9 (by omega)
      match r9, hr9 with
      | 0, _ => exact s0
      | 1, _ => exact s1
      | 2, _ => exact s2
      | 3, _ => exact s3
    have hone : ∀ u ∈ nums (List.replicate q c), u.oneCell' = true := fun u hu => by
      unfold nums at hu
      obtain ⟨x, _, hx⟩ := List.mem_flatMap.1 hu
      simp at hx
      rcases hx with h | h | h | h <;> rw [h] <;> rfl
    have hl := run_firstCells_some (P := Tryd.prog) w 4 q a sLen sCap (nums (List.replicate q c)) (reps_len q c) hsrc
    have hst := run_storeCells_at Tryd.prog g (d * 4) 29 (nums (List.replicate q c)) 0 cur w hg (by rw [reps_len]; omega) hone
    simp only [Nat.add_zero] at hst
    have hrun : (Builtin.copy_ #[34, 34] ty #[.slice (some ⟨g, d * 4, none⟩) (n - d) dCap, .slice (some a) sLen sCap]).run Tryd.prog w = .ok (goInt q) (w.setRow g (cur.toList.take (d * 4) ++ nums (List.replicate q c) ++ cur.toList.drop (d * 4 + (nums (List.replicate q c)).length)).toArray) := by
      simp [Builtin.copy_, run_underlying Tryd.underlying34, Builtin.lenOf, hq, sizeOf, typeInfo, hi, hz1, hl, hst]
    refine ⟨_, hrun, ⟨_, ⟨?_, .inr ⟨g, n, _, rfl, hb, setRow_heap w g cur _ _ _ hg, Nat.le_refl _, hcm, ?_, rfl⟩⟩, ?_⟩, ⟨rfl, rfl, rfl, by simp, fun j ob hj hne => (setRow_other w g j _ (fun e => by subst e; rcases hne with h | h; exact h rfl; rw [hg] at hj; cases hj; cases h)).trans hj⟩⟩
    · simp [reps_len]; omega
    · simp [reps_len]; omega
    · refine ⟨by simp [reps_len]; omega, fun t j ht hj => ?_⟩
      rw [List.getElem?_take, if_pos (by omega)]
      simp only
      by_cases h1 : d ≤ t ∧ t < d + q
      · rw [if_pos h1, List.getElem?_append_left (by simp [reps_len]; omega), List.getElem?_append_right (by simp; omega)]
        have e : t * 4 + j - (cur.toList.take (d * 4)).length = (t - d) * 4 + j := by simp; omega
        rw [e]
        exact nums_get (List.replicate q c) (t - d) c (by rw [List.getElem?_replicate, if_pos (by omega)]) j hj
      · rw [if_neg h1]
        have hf := hr.2 t j ht hj
        rw [← hys] at hf
        by_cases h2 : t < d
        · rw [List.getElem?_append_left (by simp [reps_len]; omega), List.getElem?_append_left (by simp; omega), List.getElem?_take, if_pos (by omega)]; exact hf
        · rw [List.getElem?_append_right (by simp [reps_len]; omega), List.getElem?_drop]
          rw [← hf]
          congr 1
          simp [reps_len]
          omega
set_option maxRecDepth 100000 in
set_option maxHeartbeats 2000000 in
theorem bmul_any (x y : Nat) (hx : x < B64) (hy : y < B64) (w : World) :
    Calls Tryd.prog 66 #[.int .u64 (x : Int), .int .u64 (y : Int)] w (fun e w' => e = .returned (.tuple #[.int .u64 (mah x y 0 0 : Int), .int .u64 (mal x y 0 0 : Int)]) ∧ w = w') := by
  have M := hid (fun W : World => mul64_any x y hx hy W)
  have h1 := mah_lt (a := x) (b := y) (c := 0) (d := 0) hx hy (by decide) (by decide)
  have h2 := mal_lt x y 0 0
  obtain ⟨a, ha⟩ : ∃ z, mah x y 0 0 = z := ⟨_, rfl⟩
  obtain ⟨b, hb⟩ : ∃ z, mal x y 0 0 = z := ⟨_, rfl⟩
  rw [ha, hb] at M
  rw [ha] at h1 ⊢
  rw [hb] at h2 ⊢
  unfold B64 at hx hy h1 h2
  clear ha hb
  go_enter Tryd.func66, Tryd.ntmps66
  go_wp2_with fail
  refine (M.out _).mono ?_
  rintro e w1 ⟨rfl, rfl⟩
  go_wp2
  refine bodyPost_ret (by simp only [results, Tryd.results66]; go_simp; try rfl) rfl ?_
  exact ⟨rfl, rfl⟩
set_option maxRecDepth 100000 in
set_option maxHeartbeats 2000000 in
theorem repeat_any (a : Option Addr) (cap c n : Nat) (w : World) (hS : NumSl w (.slice a 1 cap) [c]) (h1 : 1 ≤ n) (hl : n < 1000000) :
    Calls Tryd.prog 26 #[.slice a 1 cap, .int .i64 (n : Int)] w (RetRow 29 n (fun _ => c) w) := by
  have BW := hid (Below.refl w.heap.size w)
  have HS := hid hS
  obtain ⟨gx, ox, rfl, hgx, x0, x1, x2, x3⟩ := hS.at4 (k := 0) (y := c) rfl
  rw [Nat.zero_mul, Nat.add_zero] at x0 x1 x2 x3
  have hm0 : mah 1 n 0 0 = 0 := by rw [mah_eq]; omega
  have hm1 : mal 1 n 0 0 = n := by rw [mal_eq]; omega
  have MC := hid (fun W : World => bmul_any 1 n (by decide) (by unfold B64; omega) W)
  rw [hm0, hm1] at MC
  clear hm0 hm1 hS
  go_enter Tryd.func26, Tryd.ntmps26
  go_wp2_with fail
  refine (MC.out _).mono ?_
  rintro e w1 ⟨rfl, rfl⟩
  obtain ⟨wq_o, hmk_o, hR_o, hgq_o⟩ := run_made w n hl
  obtain ⟨w7, hcp, hR7, O7⟩ := copy_reps (d := 0) (q := 1) (c := c) (sLen := 1) (sCap := cap) (dCap := n) (a := ⟨gx, ox, none⟩) 3 hR_o (by omega) (by show Nat.min 1 (n - 0) = 1; exact Nat.min_eq_left (by omega)) (fun j hj => by
      obtain rfl : j = 0 := by omega
      have hb : Below w.heap.size w wq_o := Below.grown (Below.refl _ _) hgq_o (Nat.le_refl _) (fun j hj => by cases hj)
      exact ⟨(hb.cell (p := ⟨gx, ox, none⟩) hgx).trans x0, (hb.cell (p := ⟨gx, ox + 1, none⟩) hgx).trans x1, (hb.cell (p := ⟨gx, ox + 2, none⟩) hgx).trans x2, (hb.cell (p := ⟨gx, ox + 3, none⟩) hgx).trans x3⟩)
  rw [Nat.zero_mul, Nat.sub_zero] at hcp
  have B7 : Below w.heap.size w w7 := (Below.grown (Below.refl _ _) hgq_o (Nat.le_refl _) (fun j hj => by cases hj)).trans (O7.below (fun k h => by cases h; exact Nat.le_refl _) hgq_o.size)
  have R7 := hid hR7
  clear hR7 O7 hgq_o hR_o x0 x1 x2 x3 hgx
  go_wp2_with (first | (at_builtin; refine wpList_copy_run _ rfl _ _ _ _ rfl _ _ rfl rfl _ _ hcp ?_))
  obtain ⟨g, hg9⟩ : ∃ q, w.heap.size = q := ⟨_, rfl⟩
  have hgw : w.heap.size ≤ g := Nat.le_of_eq hg9
  rw [hg9] at R7
  try rw [hg9]
  clear hcp hmk_o
  go_loopw [8] (fun ix wr => ∃ d : Nat, 1 ≤ d ∧ d ≤ n ∧ ix = .int .i64 (d : Int) ∧ RowF wr w.heap.size 29 g n n (fun t => if t < d then c else 0) ∧ Below w.heap.size w wr) (fun ix _ => n - (intOf ix).toNat)
  case atStart => exact ⟨1, Nat.le_refl _, h1, rfl, (R7.out.mono (by omega)).congr (fun t _ => by by_cases h : t < 1 <;> simp [h]), B7⟩
  case round =>
    obtain ⟨d, hd1, hdn, rfl, hR, hB⟩ := hrel
    have R_o := hid hR
    have BW := hid hB
    clear hR hB
    obtain ⟨v1, hv9⟩ : ∃ v, v = wr := ⟨_, rfl⟩
    subst hv9
    by_cases hlt : d < n
    · skip
      have zg := R_o.out.lt
      have hd0 : (0 : Int) ≤ (d : Int) := by omega
      have hdi : (d : Int) ≤ (n : Int) := by omega
      have hdl : (d : Int) < (n : Int) := by omega
      obtain ⟨q, hq⟩ : ∃ q, Nat.min d (n - d) = q := ⟨_, rfl⟩
      have hqd : q ≤ d := by rw [← hq]; exact Nat.min_le_left _ _
      have hqn0 : q ≤ n - d := by rw [← hq]; exact Nat.min_le_right _ _
      have hqn : d + q ≤ n := by omega
      have hnd : ¬ (n = d) := by omega
      have hwr : IntKind.i64.wrap ((d : Int) + (q : Int)) = (d : Int) + (q : Int) := by rw [IntKind.wrap_i64]; omega
      have hq1 : 1 ≤ q := by rw [← hq]; exact Nat.le_min.2 ⟨hd1, by omega⟩
      have HQ := hid hq
      clear hq hqn0
      go_upto_region 9 with (fail)
      refine wp_region_soft1 (C := fun W' => Below v1.heap.size v1 W') 6 (by kernel_rfl) (by kernel_rfl) (by decide) (by kernel_rfl) (by kernel_rfl) (by kernel_rfl) (by kernel_rfl) (by kernel_rfl) (fun _ _ _ h => h) (Or.inl ⟨by rfl, fun _ => rfl⟩) ((Below.refl _ _).drew) ?_
      simp only [List.take_succ_cons, List.take_zero, List.drop_succ_cons, List.drop_zero]
      simp only [Act.put, List.setIfInBounds_toArray, List.set_cons_zero, List.set_cons_succ]
      refine wpQuiet_step (fun K hK => ?_)
      rw [if_pos (by rfl)]
      refine ⟨.slice (some ⟨g, 0, none⟩) n n, fun W' hW => ?_, hK _ ?_⟩
      · go_simp
      clear hK K
      simp only [Act.put, List.setIfInBounds_toArray, List.set_cons_zero, List.set_cons_succ]
      refine wpQuiet_step (fun K hK => ?_)
      rw [if_pos (by rfl)]
      refine ⟨.int .i64 (d : Int), fun W' hW => ?_, hK _ ?_⟩
      · go_simp
      clear hK K
      simp only [Act.put, List.setIfInBounds_toArray, List.set_cons_zero, List.set_cons_succ]
      refine wpQuiet_step (fun K hK => ?_)
      rw [if_pos (by rfl)]
      refine ⟨.slice (some ⟨g, d * 4, none⟩) (n - d) (n - d), fun W' hW => ?_, hK _ ?_⟩
      · go_simp
      clear hK K
      simp only [Act.put, List.setIfInBounds_toArray, List.set_cons_zero, List.set_cons_succ]
      refine wpQuiet_step (fun K hK => ?_)
      rw [if_pos (by rfl)]
      refine ⟨.slice (some ⟨g, 0, none⟩) n n, fun W' hW => ?_, hK _ ?_⟩
      · go_simp
      clear hK K
      simp only [Act.put, List.setIfInBounds_toArray, List.set_cons_zero, List.set_cons_succ]
      refine wpQuiet_step (fun K hK => ?_)
      rw [if_pos (by rfl)]
      refine ⟨.int .i64 (d : Int), fun W' hW => ?_, hK _ ?_⟩
      · go_simp
      clear hK K
      simp only [Act.put, List.setIfInBounds_toArray, List.set_cons_zero, List.set_cons_succ]
      refine wpQuiet_step (fun K hK => ?_)
      rw [if_pos (by rfl)]
      refine ⟨.slice (some ⟨g, 0, none⟩) d n, fun W' hW => ?_, hK _ ?_⟩
      · go_simp
      clear hK K
      simp only [Act.put, List.setIfInBounds_toArray, List.set_cons_zero, List.set_cons_succ]
      refine wpQuiet_nil ?_
      intro ws0 hW9
      replace R_o := hid (R_o.out.keep hW9)
      replace BW := hid (BW.out.trans (hW9.mono BW.out.size))
      clear hW9
      try simp only [Act.eval, List.getElem_toArray, List.getElem?_toArray, Array.getD_eq_getD_getElem?, List.getElem?_cons_succ, List.getElem?_cons_zero, Option.getD_some]
      obtain ⟨w7, hcp, hR7, O7⟩ := copy_reps (d := d) (q := q) (c := c) (sLen := d) (sCap := n) (dCap := n - d) (a := ⟨g, 0, none⟩) 3 R_o.out hqn HQ.out (fun j hj => by
          obtain ⟨s0, s1, s2, s3⟩ := R_o.out.cells (i := j) (v := c) (by omega) (by simp; omega)
          have ha : ∀ k, (⟨g, 0, none⟩ : Addr).add k = ⟨g, k, none⟩ := fun k => by unfold Addr.add; split <;> simp_all
          rw [ha, ha, ha, ha]
          exact ⟨s0, s1, s2, s3⟩)
      have B7 := hid (BW.out.trans (O7.below (fun k h => by cases h; exact R_o.out.ge) BW.out.size))
      have R7 := hid hR7
      clear hR7 O7
      go_wp2_with (first | (at_builtin; refine wpList_copy_run _ rfl _ _ _ _ rfl _ _ rfl rfl _ _ hcp ?_))
      go_roundw
      case rel => exact ⟨d + q, by omega, hqn, by go_num, R7.out.congr (fun t _ => by by_cases h : t < d <;> by_cases h2 : t < d + q <;> simp [h, h2] <;> omega), B7.out⟩
      case measure => simp [intOf]; omega
    · obtain rfl : n = d := by omega
      go_wp2
      refine bodyPost_ret (by simp only [results, Tryd.results26]; go_simp; try rfl) rfl ?_
      exact ⟨g, rfl, R_o.out.congr (fun t h => by simp [h]), BW.out⟩
end Go.Proofs.YtogenbggjodcnaaDoor
