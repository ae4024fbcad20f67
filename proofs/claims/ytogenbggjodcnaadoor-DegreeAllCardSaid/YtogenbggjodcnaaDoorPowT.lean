/-
  The table of powers of an element; the entry with an index.
-/
import Derived.Test.YtogenbggjodcnaaDoorPowA
import Derived.Test.YtogenbggjodcnaaDoorPolys
import Derived.Test.YtogenbggjodcnaaDoorClone
import Derived.Deep.MidRow
namespace Go.Proofs.YtogenbggjodcnaaDoor
open Go.RowKit

theorem info_tbl : (Tryd.prog.info? 192).map (·.size) = some 64 := by kernel_rfl
/-- The entries of the table. -/
noncomputable def tbs (m x : Nat) : List Nat := (List.range 16).map fun j => frm m (powm m x j)
theorem tbs_len (m x : Nat) : (tbs m x).length = 16 := by simp [tbs]
theorem tbs_get (m x : Nat) {j : Nat} (h : j < 16) : (tbs m x)[j]? = some (frm m (powm m x j)) := by simp [tbs, List.getElem?_map, List.getElem?_range h]
theorem tbs_nums (m x : Nat) : (nums (tbs m x)).length = 64 := by rw [nums_len, tbs_len]
theorem results_cell {fn : Func} {p : Tmp} {ty : TypeId} (h : fn.results = #[.cell p ty]) (tmps : Array Value) (P : Program) (w : World) :
    (results fn tmps).run P w = ((asAddr (tmps.getD p undef)).run P w).andThen fun a w₁ => (loadVar ty a).run P w₁ := by
  simp only [results, h]
  simp [Sem.run_bind, Result.andThen]
theorem below_setCells {n b : Nat} {A : World} : ∀ (vs : List Value) (o : Nat) {W : World}, Below n A W → n ≤ b → Below n A (W.setCells b o vs)
  | [], _, _, h, _ => h
  | v :: r, o, _, h, hb => below_setCells r (o + 1) (h.setCell (p := ⟨b, o, none⟩) hb v) hb
theorem tbl_start {m x : Nat} (hm : 1 < m) : FRow 16 (fun t => if t ≤ 0 then frm m (powm m x t) else 0) (limbs (frm m 1) ++ List.replicate 60 (.int .u64 0)) := by
  refine ⟨by simp, fun t j ht hj => ?_⟩
  by_cases h : t = 0
  · subst h
    show _ = some (Value.int .u64 (limb (if 0 ≤ 0 then frm m (powm m x 0) else 0) j : Int))
    rw [if_pos (Nat.le_refl 0), powm_zero x hm, List.getElem?_append_left (by simp; omega), show 0 * 4 + j = j by omega, limbs_get _ hj]
  · show _ = some (Value.int .u64 (limb (if t ≤ 0 then frm m (powm m x t) else 0) j : Int))
    rw [if_neg (by omega), List.getElem?_append_right (by simp; omega), List.getElem?_replicate, if_pos (by simp; omega)]
    rw [limb_eq]; simp
theorem tbl_step {m x k : Nat} {zs : List Value} (h : FRow 16 (fun t => if t ≤ k then frm m (powm m x t) else 0) zs) (hk : k + 1 < 16) {r : Nat} (hr : frm m (powm m x (k + 1)) = r) :
    FRow 16 (fun t => if t ≤ k + 1 then frm m (powm m x t) else 0) ((((zs.set ((k + 1) * 4) (.int .u64 (limb r 0 : Int))).set ((k + 1) * 4 + 1) (.int .u64 (limb r 1 : Int))).set ((k + 1) * 4 + 2) (.int .u64 (limb r 2 : Int))).set ((k + 1) * 4 + 3) (.int .u64 (limb r 3 : Int))) := by
  refine h.store hk r (fun t _ => ?_)
  by_cases e : t = k + 1
  · rw [if_pos e, if_pos (by omega), e, hr]
  · rw [if_neg e]
    by_cases l : t ≤ k
    · rw [if_pos l, if_pos (by omega)]
    · rw [if_neg l, if_neg (by omega)]
theorem tbl_done {m x : Nat} {zs : List Value} (h : FRow 16 (fun t => if t ≤ 15 then frm m (powm m x t) else 0) zs) : zs = nums (tbs m x) := by
  rw [h.done]
  refine congrArg nums (List.map_congr_left fun t ht => ?_)
  have := List.mem_range.1 ht
  exact if_pos (by omega)
set_option maxRecDepth 100000 in
set_option maxHeartbeats 2000000 in
theorem table_any (id : Int) (m inv s x : Nat) (hF : FieldOK m inv) (hx : x < m) (w : World) :
    Calls Tryd.prog 149 #[fld id m inv (frm m 1) s, vec (frm m x)] w (Ret (.agg (nums (tbs m x)).toArray) w) := by
  have BW := hid (Below.refl w.heap.size w)
  have hF1 := hF.1
  have hF2 := hF.2.1
  have hF4 := hF.2.2.2.1
  have HFF := hid hF
  have hxl := frm_lt (m := m) x (by omega)
  clear hF
  go_enter Tryd.func149, Tryd.ntmps149
  go_wp2_with fail
  obtain ⟨v1, hv9⟩ : ∃ v, (((w.alloc (.cells #[.int .i64 id, .int .u64 (limb m 0 : Int), .int .u64 (limb m 1 : Int), .int .u64 (limb m 2 : Int), .int .u64 (limb m 3 : Int), .int .u64 (inv : Int), .int .u64 (limb (frm m 1) 0 : Int), .int .u64 (limb (frm m 1) 1 : Int), .int .u64 (limb (frm m 1) 2 : Int), .int .u64 (limb (frm m 1) 3 : Int), .int .u64 (limb s 0 : Int), .int .u64 (limb s 1 : Int), .int .u64 (limb s 2 : Int), .int .u64 (limb s 3 : Int)] 31)).alloc (.cells #[.int .u64 (limb (frm m x) 0 : Int), .int .u64 (limb (frm m x) 1 : Int), .int .u64 (limb (frm m x) 2 : Int), .int .u64 (limb (frm m x) 3 : Int)] 29)).alloc (.cells #[.int .u64 (limb (frm m 1) 0 : Int), .int .u64 (limb (frm m 1) 1 : Int), .int .u64 (limb (frm m 1) 2 : Int), .int .u64 (limb (frm m 1) 3 : Int), .int .u64 0, .int .u64 0, .int .u64 0, .int .u64 0, .int .u64 0, .int .u64 0, .int .u64 0, .int .u64 0, .int .u64 0, .int .u64 0, .int .u64 0, .int .u64 0, .int .u64 0, .int .u64 0, .int .u64 0, .int .u64 0, .int .u64 0, .int .u64 0, .int .u64 0, .int .u64 0, .int .u64 0, .int .u64 0, .int .u64 0, .int .u64 0, .int .u64 0, .int .u64 0, .int .u64 0, .int .u64 0, .int .u64 0, .int .u64 0, .int .u64 0, .int .u64 0, .int .u64 0, .int .u64 0, .int .u64 0, .int .u64 0, .int .u64 0, .int .u64 0, .int .u64 0, .int .u64 0, .int .u64 0, .int .u64 0, .int .u64 0, .int .u64 0, .int .u64 0, .int .u64 0, .int .u64 0, .int .u64 0, .int .u64 0, .int .u64 0, .int .u64 0, .int .u64 0, .int .u64 0, .int .u64 0, .int .u64 0, .int .u64 0, .int .u64 0, .int .u64 0, .int .u64 0, .int .u64 0] 192)) = v := ⟨_, rfl⟩
  have hG9 : Below w.heap.size w v1 := by rw [← hv9]; go_grown
  have X_f : Blk v1 (w.heap.size) 31 [.int .i64 id, .int .u64 (limb m 0 : Int), .int .u64 (limb m 1 : Int), .int .u64 (limb m 2 : Int), .int .u64 (limb m 3 : Int), .int .u64 (inv : Int), .int .u64 (limb (frm m 1) 0 : Int), .int .u64 (limb (frm m 1) 1 : Int), .int .u64 (limb (frm m 1) 2 : Int), .int .u64 (limb (frm m 1) 3 : Int), .int .u64 (limb s 0 : Int), .int .u64 (limb s 1 : Int), .int .u64 (limb s 2 : Int), .int .u64 (limb s 3 : Int)] := by rw [← hv9]; exact Blk.alloc (Blk.alloc (Blk.new rfl) _) _
  have X_x : Blk v1 (w.heap.size + 1) 29 [.int .u64 (limb (frm m x) 0 : Int), .int .u64 (limb (frm m x) 1 : Int), .int .u64 (limb (frm m x) 2 : Int), .int .u64 (limb (frm m x) 3 : Int)] := by rw [← hv9]; exact Blk.alloc (Blk.new (by simp)) _
  have X_t : Blk v1 (w.heap.size + 1 + 1) 192 [.int .u64 (limb (frm m 1) 0 : Int), .int .u64 (limb (frm m 1) 1 : Int), .int .u64 (limb (frm m 1) 2 : Int), .int .u64 (limb (frm m 1) 3 : Int), .int .u64 0, .int .u64 0, .int .u64 0, .int .u64 0, .int .u64 0, .int .u64 0, .int .u64 0, .int .u64 0, .int .u64 0, .int .u64 0, .int .u64 0, .int .u64 0, .int .u64 0, .int .u64 0, .int .u64 0, .int .u64 0, .int .u64 0, .int .u64 0, .int .u64 0, .int .u64 0, .int .u64 0, .int .u64 0, .int .u64 0, .int .u64 0, .int .u64 0, .int .u64 0, .int .u64 0, .int .u64 0, .int .u64 0, .int .u64 0, .int .u64 0, .int .u64 0, .int .u64 0, .int .u64 0, .int .u64 0, .int .u64 0, .int .u64 0, .int .u64 0, .int .u64 0, .int .u64 0, .int .u64 0, .int .u64 0, .int .u64 0, .int .u64 0, .int .u64 0, .int .u64 0, .int .u64 0, .int .u64 0, .int .u64 0, .int .u64 0, .int .u64 0, .int .u64 0, .int .u64 0, .int .u64 0, .int .u64 0, .int .u64 0, .int .u64 0, .int .u64 0, .int .u64 0, .int .u64 0] := by rw [← hv9]; exact Blk.new (by simp)
  obtain ⟨bf, hb9⟩ : ∃ k, w.heap.size = k := ⟨_, rfl⟩
  rw [hb9] at X_f
  rw [hb9] at X_x
  rw [hb9] at X_t
  have g_bf : w.heap.size ≤ bf := by rw [← hb9]; exact BW.out.size
  replace BW := hid (BW.out.trans (hG9.mono BW.out.size))
  clear hG9
  rw [hv9]
  try rw [hb9]
  clear hv9 hb9
  go_loopw [9] (fun i wr => ∃ (k : Nat) (zs : List Value), k ≤ 15 ∧ i = .int .i64 (k : Int) ∧ Blk wr bf 31 [.int .i64 id, .int .u64 (limb m 0 : Int), .int .u64 (limb m 1 : Int), .int .u64 (limb m 2 : Int), .int .u64 (limb m 3 : Int), .int .u64 (inv : Int), .int .u64 (limb (frm m 1) 0 : Int), .int .u64 (limb (frm m 1) 1 : Int), .int .u64 (limb (frm m 1) 2 : Int), .int .u64 (limb (frm m 1) 3 : Int), .int .u64 (limb s 0 : Int), .int .u64 (limb s 1 : Int), .int .u64 (limb s 2 : Int), .int .u64 (limb s 3 : Int)] ∧ Blk wr (bf + 1) 29 [.int .u64 (limb (frm m x) 0 : Int), .int .u64 (limb (frm m x) 1 : Int), .int .u64 (limb (frm m x) 2 : Int), .int .u64 (limb (frm m x) 3 : Int)] ∧ Blk wr (bf + 1 + 1) 192 zs ∧ FRow 16 (fun t => if t ≤ k then frm m (powm m x t) else 0) zs ∧ Below w.heap.size w wr) (fun i _ => 15 - (intOf i).toNat)
  case atStart => exact ⟨0, _, Nat.zero_le _, rfl, X_f, X_x, X_t, tbl_start (by omega), BW.out⟩
  case round =>
    obtain ⟨k, zs, hk, rfl, hf, hx2, ht, hrow, hB⟩ := hrel
    clear X_f X_x X_t BW
    have HROW := hid hrow
    have HB := hid hB
    have zt := ht.lt
    have zf := hf.lt
    have zx := hx2.lt
    clear hrow hB
    by_cases hlt : k < 15
    · skip
      have hfv : ∀ j, j < 4 → zs[k * 4 + j]? = some (.int .u64 (limb (frm m (powm m x k)) j : Int)) := fun j hj => by have := HROW.out.2 k j (by omega) hj; simpa using this
      have t0 := ht.cell (hfv 0 (by decide))
      have t1 := ht.cell (hfv 1 (by decide))
      have t2 := ht.cell (hfv 2 (by decide))
      have t3 := ht.cell (hfv 3 (by decide))
      clear hfv
      have hpl := frm_lt (m := m) (powm m x k) (by omega)
      have M := hid (mmul_any id m inv (frm m 1) s (frm m (powm m x k)) (frm m x) HFF.out (by omega) (by omega) (Nat.mul_lt_mul_of_lt_of_lt (by omega) hxl))
      rw [frm_mulm hF4, powm_step hx] at M
      obtain ⟨r, hr⟩ : ∃ r, frm m (powm m x (k + 1)) = r := ⟨_, rfl⟩
      rw [hr] at M
      have HR := hid hr
      obtain ⟨p, hp⟩ : ∃ p, frm m (powm m x k) = p := ⟨_, rfl⟩
      rw [hp] at M t0 t1 t2 t3 hpl
      clear hr hp
      have f0 := hf.cell (i := 0) rfl
      have f1 := hf.cell (i := 1) rfl
      have f2 := hf.cell (i := 2) rfl
      have f3 := hf.cell (i := 3) rfl
      have f4 := hf.cell (i := 4) rfl
      have f5 := hf.cell (i := 5) rfl
      have f6 := hf.cell (i := 6) rfl
      have f7 := hf.cell (i := 7) rfl
      have f8 := hf.cell (i := 8) rfl
      have f9 := hf.cell (i := 9) rfl
      have f10 := hf.cell (i := 10) rfl
      have f11 := hf.cell (i := 11) rfl
      have f12 := hf.cell (i := 12) rfl
      have f13 := hf.cell (i := 13) rfl
      have x0 := hx2.cell (i := 0) rfl
      have x1 := hx2.cell (i := 1) rfl
      have x2 := hx2.cell (i := 2) rfl
      have x3 := hx2.cell (i := 3) rfl
      obtain ⟨xx, hxx⟩ : ∃ z, frm m x = z := ⟨_, rfl⟩
      rw [hxx] at M x0 x1 x2 x3
      obtain ⟨oo, hoo⟩ : ∃ z, frm m 1 = z := ⟨_, rfl⟩
      rw [hoo] at M f6 f7 f8 f9
      have hki : (k : Int) < 16 := by omega
      have hki0 : (0 : Int) ≤ (k : Int) := by omega
      go_wp2_with fail
      refine wp_region_soft (C := fun W' => Below wr.heap.size wr W') 9 (by kernel_rfl) (by kernel_rfl) ((Below.refl _ _).drew) ?_
      simp only [List.take_succ_cons, List.take_zero, List.drop_succ_cons, List.drop_zero]
      refine wpQuiet_step (fun K hK => ?_)
      rw [if_pos (by rfl)]
      refine ⟨.int .i64 (k : Int), fun W' hW => ?_, hK _ ?_⟩
      · go_simp
      clear hK K
      simp only [Act.put, List.setIfInBounds_toArray, List.set_cons_zero, List.set_cons_succ]
      refine wpQuiet_step (fun K hK => ?_)
      rw [if_pos (by rfl)]
      refine ⟨.int .i64 ((k : Int) + 1), fun W' hW => ?_, hK _ ?_⟩
      · go_simp
        rw [IntKind.wrap_i64]; omega
      clear hK K
      simp only [Act.put, List.setIfInBounds_toArray, List.set_cons_zero, List.set_cons_succ]
      refine wpQuiet_step (fun K hK => ?_)
      rw [if_pos (by rfl)]
      refine ⟨fld id m inv oo s, fun W' hW => ?_, hK _ ?_⟩
      · have e0 := (hW.cell (p := ⟨bf, 0, none⟩) zf).trans f0
        have e1 := (hW.cell (p := ⟨bf, 1, none⟩) zf).trans f1
        have e2 := (hW.cell (p := ⟨bf, 2, none⟩) zf).trans f2
        have e3 := (hW.cell (p := ⟨bf, 3, none⟩) zf).trans f3
        have e4 := (hW.cell (p := ⟨bf, 4, none⟩) zf).trans f4
        have e5 := (hW.cell (p := ⟨bf, 5, none⟩) zf).trans f5
        have e6 := (hW.cell (p := ⟨bf, 6, none⟩) zf).trans f6
        have e7 := (hW.cell (p := ⟨bf, 7, none⟩) zf).trans f7
        have e8 := (hW.cell (p := ⟨bf, 8, none⟩) zf).trans f8
        have e9 := (hW.cell (p := ⟨bf, 9, none⟩) zf).trans f9
        have e10 := (hW.cell (p := ⟨bf, 10, none⟩) zf).trans f10
        have e11 := (hW.cell (p := ⟨bf, 11, none⟩) zf).trans f11
        have e12 := (hW.cell (p := ⟨bf, 12, none⟩) zf).trans f12
        have e13 := (hW.cell (p := ⟨bf, 13, none⟩) zf).trans f13
        go_simp
      clear hK K
      simp only [Act.put, List.setIfInBounds_toArray, List.set_cons_zero, List.set_cons_succ]
      refine wpQuiet_step (fun K hK => ?_)
      rw [if_pos (by rfl)]
      refine ⟨.int .i64 (k : Int), fun W' hW => ?_, hK _ ?_⟩
      · go_simp
      clear hK K
      simp only [Act.put, List.setIfInBounds_toArray, List.set_cons_zero, List.set_cons_succ]
      refine wpQuiet_step (fun K hK => ?_)
      rw [if_pos (by rfl)]
      refine ⟨.pointer (some ⟨bf + 1 + 1, k * 4, none⟩), fun W' hW => ?_, hK _ ?_⟩
      · go_simp
      clear hK K
      simp only [Act.put, List.setIfInBounds_toArray, List.set_cons_zero, List.set_cons_succ]
      refine wpQuiet_step (fun K hK => ?_)
      rw [if_pos (by rfl)]
      refine ⟨vec p, fun W' hW => ?_, hK _ ?_⟩
      · have e0 := (hW.cell (p := ⟨bf + 1 + 1, k * 4, none⟩) zt).trans t0
        have e1 := (hW.cell (p := ⟨bf + 1 + 1, k * 4 + 1, none⟩) zt).trans t1
        have e2 := (hW.cell (p := ⟨bf + 1 + 1, k * 4 + 2, none⟩) zt).trans t2
        have e3 := (hW.cell (p := ⟨bf + 1 + 1, k * 4 + 3, none⟩) zt).trans t3
        go_simp
      clear hK K
      simp only [Act.put, List.setIfInBounds_toArray, List.set_cons_zero, List.set_cons_succ]
      refine wpQuiet_step (fun K hK => ?_)
      rw [if_pos (by rfl)]
      refine ⟨vec xx, fun W' hW => ?_, hK _ ?_⟩
      · have e0 := (hW.cell (p := ⟨bf + 1, 0, none⟩) zx).trans x0
        have e1 := (hW.cell (p := ⟨bf + 1, 1, none⟩) zx).trans x1
        have e2 := (hW.cell (p := ⟨bf + 1, 2, none⟩) zx).trans x2
        have e3 := (hW.cell (p := ⟨bf + 1, 3, none⟩) zx).trans x3
        go_simp
      clear hK K
      simp only [Act.put, List.setIfInBounds_toArray, List.set_cons_zero, List.set_cons_succ]
      refine wpQuiet_step (fun K hK => ?_)
      rw [if_pos (by rfl)]
      refine ⟨vec r, fun W' hW => ?_, hK _ ?_⟩
      · go_simp
        refine (M.out _).mono ?_
        rintro e w' ⟨rfl, b⟩
        exact ⟨rfl, hW.trans (b.mono hW.size)⟩
      clear hK K
      simp only [Act.put, List.setIfInBounds_toArray, List.set_cons_zero, List.set_cons_succ]
      refine wpQuiet_step (fun K hK => ?_)
      rw [if_pos (by rfl)]
      refine ⟨.pointer (some ⟨bf + 1 + 1, (k + 1) * 4, none⟩), fun W' hW => ?_, hK _ ?_⟩
      · go_simp
        rw [if_pos ⟨by omega, by omega⟩]
        exact ⟨rfl, rfl⟩
      clear hK K
      simp only [Act.put, List.setIfInBounds_toArray, List.set_cons_zero, List.set_cons_succ]
      refine wpQuiet_nil ?_
      intro W3 hW3
      have kf := hf.below hW3 zf
      have kx := hx2.below hW3 zx
      have kt := ht.below hW3 zt
      have kb := HB.out.trans (hW3.mono HB.out.size)
      have hzl : zs.length = 64 := HROW.out.1
      obtain ⟨q0, hq0⟩ : ∃ q, zs[(k + 1) * 4]? = some q := ⟨_, List.getElem?_eq_getElem (by omega)⟩
      have u0 := kt.cell hq0
      clear hq0
      have v0 := kt.frozen ((k + 1) * 4)
      obtain ⟨q1, hq1⟩ : ∃ q, zs[(k + 1) * 4 + 1]? = some q := ⟨_, List.getElem?_eq_getElem (by omega)⟩
      have u1 := kt.cell hq1
      clear hq1
      have v1 := kt.frozen ((k + 1) * 4 + 1)
      obtain ⟨q2, hq2⟩ : ∃ q, zs[(k + 1) * 4 + 2]? = some q := ⟨_, List.getElem?_eq_getElem (by omega)⟩
      have u2 := kt.cell hq2
      clear hq2
      have v2 := kt.frozen ((k + 1) * 4 + 2)
      obtain ⟨q3, hq3⟩ : ∃ q, zs[(k + 1) * 4 + 3]? = some q := ⟨_, List.getElem?_eq_getElem (by omega)⟩
      have u3 := kt.cell hq3
      clear hq3
      have v3 := kt.frozen ((k + 1) * 4 + 3)
      have kz := kt.lt
      clear t0 t1 t2 t3 f0 f1 f2 f3 f4 f5 f6 f7 f8 f9 f10 f11 f12 f13 x0 x1 x2 x3
      have HKF := hid kf
      have HKX := hid kx
      have HKT := hid kt
      have HKB := hid kb
      clear kf kx kt kb hf hx2 ht hzl
      go_wp2
      have hwb : w.heap.size ≤ bf + 1 + 1 := by omega
      go_roundw
      case rel => exact ⟨k + 1, _, by omega, by go_num, ((((HKF.out.other ⟨bf + 1 + 1, (k + 1) * 4, none⟩ (.int .u64 (limb r 0 : Int)) (by dsimp only; omega)).other ⟨bf + 1 + 1, (k + 1) * 4 + 1, none⟩ (.int .u64 (limb r 1 : Int)) (by dsimp only; omega)).other ⟨bf + 1 + 1, (k + 1) * 4 + 2, none⟩ (.int .u64 (limb r 2 : Int)) (by dsimp only; omega)).other ⟨bf + 1 + 1, (k + 1) * 4 + 3, none⟩ (.int .u64 (limb r 3 : Int)) (by dsimp only; omega)), ((((HKX.out.other ⟨bf + 1 + 1, (k + 1) * 4, none⟩ (.int .u64 (limb r 0 : Int)) (by dsimp only; omega)).other ⟨bf + 1 + 1, (k + 1) * 4 + 1, none⟩ (.int .u64 (limb r 1 : Int)) (by dsimp only; omega)).other ⟨bf + 1 + 1, (k + 1) * 4 + 2, none⟩ (.int .u64 (limb r 2 : Int)) (by dsimp only; omega)).other ⟨bf + 1 + 1, (k + 1) * 4 + 3, none⟩ (.int .u64 (limb r 3 : Int)) (by dsimp only; omega)), ((((HKT.out.set ((k + 1) * 4) (.int .u64 (limb r 0 : Int))).set ((k + 1) * 4 + 1) (.int .u64 (limb r 1 : Int))).set ((k + 1) * 4 + 2) (.int .u64 (limb r 2 : Int))).set ((k + 1) * 4 + 3) (.int .u64 (limb r 3 : Int))), tbl_step HROW.out (by omega) HR.out, ((((HKB.out.setCell (p := ⟨bf + 1 + 1, (k + 1) * 4, none⟩) (by dsimp only; omega) (.int .u64 (limb r 0 : Int))).setCell (p := ⟨bf + 1 + 1, (k + 1) * 4 + 1, none⟩) (by dsimp only; omega) (.int .u64 (limb r 1 : Int))).setCell (p := ⟨bf + 1 + 1, (k + 1) * 4 + 2, none⟩) (by dsimp only; omega) (.int .u64 (limb r 2 : Int))).setCell (p := ⟨bf + 1 + 1, (k + 1) * 4 + 3, none⟩) (by dsimp only; omega) (.int .u64 (limb r 3 : Int)))⟩
      case measure => simp [intOf]; omega
    · skip
      obtain rfl : k = 15 := by omega
      have hzs := tbl_done HROW.out
      subst hzs
      have HT := hid ht
      clear hf hx2
      have HRG : Hid (wr.rangeAt (bf + 1 + 1) 0 (nums (tbs m x))) := hid (fun j v h => by rw [Nat.zero_add]; exact HT.out.cell h)
      have HTH : Hid (wr.there (bf + 1 + 1) 0 (nums (tbs m x)).toArray.size) := hid (fun j hj => ⟨by
        have hj' : j < (nums (tbs m x)).length := by simpa using hj
        rw [HRG.out j _ (List.getElem?_eq_getElem hj')]; rfl, HT.out.frozen _⟩)
      have HSZ : Hid ((Tryd.prog.info? 192).map (·.size) = some (nums (tbs m x)).length) := hid (by rw [tbs_nums]; exact info_tbl)
      have HOC : Hid ((nums (tbs m x)).toArray.all (·.oneCell') = true) := hid (all_oneCell_toArray (nums_cells _))
      have HSZ2 : Hid ((Tryd.prog.info? 192).map (·.size) = some (nums (tbs m x)).toArray.size) := hid (by rw [List.size_toArray]; exact HSZ.out)
      have HLV := hid (run_loadVar_mid (P := Tryd.prog) (wr.setCells (bf + 1 + 1) 0 (nums (tbs m x)).toArray.toList) (bf + 1 + 1) 0 192 (nums (tbs m x)) _ (World.rangeAt_setCells_same wr (bf + 1 + 1) 0 _ (by rw [← Array.length_toList] at HTH; exact HTH.out)) Tryd.underlying192 rfl HSZ.out)
      obtain ⟨L, hLL⟩ : ∃ L, nums (tbs m x) = L := ⟨_, rfl⟩
      rw [hLL] at HRG HTH HSZ HOC HSZ2 HLV
      have HLL := hid hLL
      clear hLL HT HROW
      go_wp2_with (first
        | (refine wpList_load_mid rfl 192 _ rfl (bf + 1 + 1) 0 rfl L _ HRG.out Tryd.underlying192 rfl HSZ.out ?_)
        | (refine wpList_store_mid rfl 192 _ _ rfl (bf + 1 + 1) 0 L.toArray rfl rfl HTH.out HSZ2.out HOC.out ?_))
      have hlv := HLV.out
      have BF := below_setCells L 0 HB.out (b := bf + 1 + 1) (by omega)
      refine bodyPost_ret (v := .agg L.toArray) (by rw [results_cell Tryd.results149]; exact hlv) rfl ⟨by rw [HLL.out], BF⟩
end Go.Proofs.YtogenbggjodcnaaDoor
