/-
  The reference's Eval.
-/
import Derived.Test.YtogenbggjodcnaaDoorRefV
import Derived.Test.YtogenbggjodcnaaDoorPolys
import Derived.Test.YtogenbggjodcnaaDoorKit
namespace Go.Proofs.YtogenbggjodcnaaDoor
open Go.RowKit

theorem limbs_z : limbs 0 = [.int .u64 0, .int .u64 0, .int .u64 0, .int .u64 0] := by
  have e : ∀ i, limb 0 i = 0 := fun i => by rw [limb_eq]; simp
  show [Value.int .u64 (limb 0 0 : Int), .int .u64 (limb 0 1 : Int), .int .u64 (limb 0 2 : Int), .int .u64 (limb 0 3 : Int)] = _
  rw [e, e, e, e]; rfl
theorem powm_next {p x : Nat} (k : Nat) (hx : x < p) : powm p x (k + 1) = mulm p (powm p x k) x := by
  have e := powm_add p x k 1
  rw [powm_one hx] at e
  exact e.symm
set_option maxRecDepth 100000 in
set_option maxHeartbeats 1000000 in
theorem reval_any (p x : Nat) (v : Value) (cs : List Nat) (w : World) (hp : p < B256) (h1 : 1 < p) (hx : x < p) (hS : NumSl w v cs) (hcs : ∀ c ∈ cs, c < p) (hl : cs.length < 1000000) : Calls Tryd.prog 23 #[vec p, v, vec x] w (Ret (vec (evm p x cs)) w) := by
  obtain ⟨a, cap, rfl, _, hrow⟩ := hS
  obtain ⟨n, hn⟩ : ∃ n, cs.length = n := ⟨_, rfl⟩
  rw [hn] at hl ⊢
  have HM := hid hn
  have HR := hid hrow
  have HP := hid hp
  have H1 := hid h1
  have HX := hid hx
  have HC := hid hcs
  clear hn hrow hp h1 hx hcs
  go_enter Tryd.func23, Tryd.ntmps23
  go_wp2_with (go_at_call 65; refine (rone_any _).mono ?_; rintro e w' ⟨rfl, rfl⟩)
  go_loopw [9] (fun y wr => ∃ k : Nat, k ≤ n ∧ y = .int .i64 (k : Int) ∧ Below w.heap.size w wr ∧ Blk wr (w.heap.size) 28 [.int .u64 (limb p 0 : Int), .int .u64 (limb p 1 : Int), .int .u64 (limb p 2 : Int), .int .u64 (limb p 3 : Int)] ∧ Blk wr (w.heap.size + 1) 28 [.int .u64 (limb x 0 : Int), .int .u64 (limb x 1 : Int), .int .u64 (limb x 2 : Int), .int .u64 (limb x 3 : Int)] ∧ Blk wr (w.heap.size + 1 + 1) 28 [.int .u64 0, .int .u64 0, .int .u64 0, .int .u64 0] ∧ Blk wr (w.heap.size + 1 + 1 + 1) 28 (limbs (evm p x (cs.take k))) ∧ Blk wr (w.heap.size + 1 + 1 + 1 + 1 + 1) 28 (limbs (powm p x k))) (fun y _ => n - (intOf y).toNat)
  case atStart =>
    refine ⟨0, Nat.zero_le _, rfl, by go_grown, Blk.alloc (Blk.alloc (Blk.alloc (Blk.alloc (Blk.alloc (Blk.new rfl) _) _) _) _) _, Blk.alloc (Blk.alloc (Blk.alloc (Blk.alloc (Blk.new (by simp)) _) _) _) _, Blk.alloc (Blk.alloc (Blk.alloc (Blk.new (by simp)) _) _) _, ?_, ?_⟩
    · rw [List.take_zero, evm_nil, limbs_z]; exact Blk.alloc (Blk.alloc (Blk.new (by simp)) _) _
    · rw [powm_zero x H1.out]; exact Blk.new (by simp)
  case round =>
    obtain ⟨k, hk, rfl, hB, hp, hx, hr, ho, hu⟩ := hrel
    have zB := hB.size
    have HB := hid hB
    obtain ⟨e, he⟩ : ∃ e, evm p x (cs.take k) = e := ⟨_, rfl⟩
    obtain ⟨u, hu9⟩ : ∃ u, powm p x k = u := ⟨_, rfl⟩
    have HE := hid he
    have HU := hid hu9
    have el : e < p := by rw [← he]; exact evm_lt _ _ (by have := H1.out; omega)
    have ul : u < p := by rw [← hu9]; exact powm_lt _ _ (by have := H1.out; omega)
    rw [he] at ho
    rw [hu9] at hu
    clear he hu9 hB
    by_cases hlt : k < n
    · obtain ⟨c, hc⟩ : ∃ c, cs[k]? = some c := ⟨cs[k]'(by rw [HM.out]; exact hlt), List.getElem?_eq_getElem _⟩
      obtain ⟨g, off, hga, hat⟩ : ∃ g off, a = some ⟨g, off, none⟩ ∧ NumsAt w g off cs := by
        rcases HR.out with h | h
        · rw [h] at hc; cases hc
        · exact h
      subst hga
      obtain ⟨hcl, e0, e1, e2, e3⟩ := hat k c hc
      have hcp := HC.out c (List.mem_of_getElem? hc)
      have hg : g < w.heap.size := World.block_lt_of_cell? w _ e0
      have hgr := Nat.lt_of_lt_of_le hg zB
      have d0 := (HB.out.cell (p := ⟨g, off + k * 4, none⟩) hg).trans e0
      have d1 := (HB.out.cell (p := ⟨g, off + k * 4 + 1, none⟩) hg).trans e1
      have d2 := (HB.out.cell (p := ⟨g, off + k * 4 + 2, none⟩) hg).trans e2
      have d3 := (HB.out.cell (p := ⟨g, off + k * 4 + 3, none⟩) hg).trans e3
      have TK := hid (take_next hc)
      have LK := hid (show (cs.take k).length = k by rw [List.length_take, HM.out]; omega)
      have PS := hid (powm_next k HX.out)
      have M1 := hid (rmul_any p c u HP.out hcp (by have := HP.out; omega))
      have M2 := hid (radd_any p e (mulm p c u) HP.out el (mulm_lt _ _ (by omega)))
      have M3 := hid (rmul_any p u x HP.out ul (by have := HP.out; have := HX.out; omega))
      have p0 := hp.cell (i := 0) rfl
      have p1 := hp.cell (i := 1) rfl
      have p2 := hp.cell (i := 2) rfl
      have p3 := hp.cell (i := 3) rfl
      have o0 := ho.cell (i := 0) rfl
      have o1 := ho.cell (i := 1) rfl
      have o2 := ho.cell (i := 2) rfl
      have o3 := ho.cell (i := 3) rfl
      have u0 := hu.cell (i := 0) rfl
      have u1 := hu.cell (i := 1) rfl
      have u2 := hu.cell (i := 2) rfl
      have u3 := hu.cell (i := 3) rfl
      have zp := hp.lt
      have zx := hx.lt
      have zr := hr.lt
      have zo := ho.lt
      have zu := hu.lt
      clear e0 e1 e2 e3 hat hc hcl hcp el ul
      go_wp2
      refine wp_region_soft (C := fun W' => Below wr.heap.size wr W') 10 (by kernel_rfl) (by kernel_rfl) ((Below.refl _ _).drew) ?_
      simp only [List.take_succ_cons, List.take_zero, List.drop_succ_cons, List.drop_zero]
      refine wpQuiet_step (fun K hK => ?_)
      rw [if_pos (by rfl)]
      refine ⟨vec p, fun W' hW => ?_, hK _ ?_⟩
      · have e0 := (hW.cell (p := ⟨w.heap.size, 0, none⟩) zp).trans p0
        have e1 := (hW.cell (p := ⟨w.heap.size, 1, none⟩) zp).trans p1
        have e2 := (hW.cell (p := ⟨w.heap.size, 2, none⟩) zp).trans p2
        have e3 := (hW.cell (p := ⟨w.heap.size, 3, none⟩) zp).trans p3
        go_simp
      clear hK K
      simp only [Act.put, List.setIfInBounds_toArray, List.set_cons_zero, List.set_cons_succ]
      refine wpQuiet_step (fun K hK => ?_)
      rw [if_pos (by rfl)]
      refine ⟨vec e, fun W' hW => ?_, hK _ ?_⟩
      · have e0 := (hW.cell (p := ⟨w.heap.size + 1 + 1 + 1, 0, none⟩) zo).trans o0
        have e1 := (hW.cell (p := ⟨w.heap.size + 1 + 1 + 1, 1, none⟩) zo).trans o1
        have e2 := (hW.cell (p := ⟨w.heap.size + 1 + 1 + 1, 2, none⟩) zo).trans o2
        have e3 := (hW.cell (p := ⟨w.heap.size + 1 + 1 + 1, 3, none⟩) zo).trans o3
        go_simp
      clear hK K
      simp only [Act.put, List.setIfInBounds_toArray, List.set_cons_zero, List.set_cons_succ]
      refine wpQuiet_step (fun K hK => ?_)
      rw [if_pos (by rfl)]
      refine ⟨vec p, fun W' hW => ?_, hK _ ?_⟩
      · have e0 := (hW.cell (p := ⟨w.heap.size, 0, none⟩) zp).trans p0
        have e1 := (hW.cell (p := ⟨w.heap.size, 1, none⟩) zp).trans p1
        have e2 := (hW.cell (p := ⟨w.heap.size, 2, none⟩) zp).trans p2
        have e3 := (hW.cell (p := ⟨w.heap.size, 3, none⟩) zp).trans p3
        go_simp
      clear hK K
      simp only [Act.put, List.setIfInBounds_toArray, List.set_cons_zero, List.set_cons_succ]
      refine wpQuiet_step (fun K hK => ?_)
      rw [if_pos (by rfl)]
      refine ⟨.slice (some ⟨g, off, none⟩) n cap, fun W' hW => ?_, hK _ ?_⟩
      · go_simp
      clear hK K
      simp only [Act.put, List.setIfInBounds_toArray, List.set_cons_zero, List.set_cons_succ]
      refine wpQuiet_step (fun K hK => ?_)
      rw [if_pos (by rfl)]
      refine ⟨.int .i64 (k : Int), fun W' hW => ?_, hK _ ?_⟩
      · go_simp
      clear hK K
      simp only [Act.put, List.setIfInBounds_toArray, List.set_cons_zero, List.set_cons_succ]
      refine wpQuiet_step (fun K hK => ?_)
      rw [if_pos (by rfl)]
      refine ⟨.pointer (some ⟨g, off + k * 4, none⟩), fun W' hW => ?_, hK _ ?_⟩
      · go_simp
      clear hK K
      simp only [Act.put, List.setIfInBounds_toArray, List.set_cons_zero, List.set_cons_succ]
      refine wpQuiet_step (fun K hK => ?_)
      rw [if_pos (by rfl)]
      refine ⟨vec c, fun W' hW => ?_, hK _ ?_⟩
      · have e0 := (hW.cell (p := ⟨g, off + k * 4, none⟩) hgr).trans d0
        have e1 := (hW.cell (p := ⟨g, off + k * 4 + 1, none⟩) hgr).trans d1
        have e2 := (hW.cell (p := ⟨g, off + k * 4 + 2, none⟩) hgr).trans d2
        have e3 := (hW.cell (p := ⟨g, off + k * 4 + 3, none⟩) hgr).trans d3
        go_simp
      clear hK K
      simp only [Act.put, List.setIfInBounds_toArray, List.set_cons_zero, List.set_cons_succ]
      refine wpQuiet_step (fun K hK => ?_)
      rw [if_pos (by rfl)]
      refine ⟨vec u, fun W' hW => ?_, hK _ ?_⟩
      · have e0 := (hW.cell (p := ⟨w.heap.size + 1 + 1 + 1 + 1 + 1, 0, none⟩) zu).trans u0
        have e1 := (hW.cell (p := ⟨w.heap.size + 1 + 1 + 1 + 1 + 1, 1, none⟩) zu).trans u1
        have e2 := (hW.cell (p := ⟨w.heap.size + 1 + 1 + 1 + 1 + 1, 2, none⟩) zu).trans u2
        have e3 := (hW.cell (p := ⟨w.heap.size + 1 + 1 + 1 + 1 + 1, 3, none⟩) zu).trans u3
        go_simp
      clear hK K
      simp only [Act.put, List.setIfInBounds_toArray, List.set_cons_zero, List.set_cons_succ]
      refine wpQuiet_step (fun K hK => ?_)
      rw [if_pos (by rfl)]
      refine ⟨vec (mulm p c u), fun W' hW => ?_, hK _ ?_⟩
      · go_simp
        refine (M1.out _).mono ?_
        rintro e w' ⟨rfl, b⟩
        exact ⟨rfl, hW.trans (b.mono hW.size)⟩
      clear hK K
      simp only [Act.put, List.setIfInBounds_toArray, List.set_cons_zero, List.set_cons_succ]
      refine wpQuiet_step (fun K hK => ?_)
      rw [if_pos (by rfl)]
      refine ⟨vec (addm p e (mulm p c u)), fun W' hW => ?_, hK _ ?_⟩
      · go_simp
        refine (M2.out _).mono ?_
        rintro e w' ⟨rfl, b⟩
        exact ⟨rfl, hW.trans (b.mono hW.size)⟩
      clear hK K
      simp only [Act.put, List.setIfInBounds_toArray, List.set_cons_zero, List.set_cons_succ]
      refine wpQuiet_nil ?_
      intro W3 hW3
      have k_p := hp.below hW3 zp
      have k_x := hx.below hW3 zx
      have k_r := hr.below hW3 zr
      have k_o := ho.below hW3 zo
      have k_u := hu.below hW3 zu
      have B3 : Below w.heap.size w W3 := HB.out.trans (hW3.mono zB)
      have zB3 := B3.size
      have pp0 := k_p.cell (i := 0) rfl
      have pp1 := k_p.cell (i := 1) rfl
      have pp2 := k_p.cell (i := 2) rfl
      have pp3 := k_p.cell (i := 3) rfl
      have xx0 := k_x.cell (i := 0) rfl
      have xx1 := k_x.cell (i := 1) rfl
      have xx2 := k_x.cell (i := 2) rfl
      have xx3 := k_x.cell (i := 3) rfl
      have oo0 := k_o.cell (i := 0) rfl
      have oof0 := k_o.frozen 0
      have oo1 := k_o.cell (i := 1) rfl
      have oof1 := k_o.frozen 1
      have oo2 := k_o.cell (i := 2) rfl
      have oof2 := k_o.frozen 2
      have oo3 := k_o.cell (i := 3) rfl
      have oof3 := k_o.frozen 3
      have uu0 := k_u.cell (i := 0) rfl
      have uuf0 := k_u.frozen 0
      have uu1 := k_u.cell (i := 1) rfl
      have uuf1 := k_u.frozen 1
      have uu2 := k_u.cell (i := 2) rfl
      have uuf2 := k_u.frozen 2
      have uu3 := k_u.cell (i := 3) rfl
      have uuf3 := k_u.frozen 3
      have zp3 := k_p.lt
      have zx3 := k_x.lt
      have zo3 := k_o.lt
      have zu3 := k_u.lt
      obtain ⟨e2, he2⟩ : ∃ e2, addm p e (mulm p c u) = e2 := ⟨_, rfl⟩
      have HE2 := hid he2
      rw [he2]
      clear he2
      have l_p := k_p.other4 (c := w.heap.size + 1 + 1 + 1) (by omega) (.int .u64 (limb e2 0 : Int)) (.int .u64 (limb e2 1 : Int)) (.int .u64 (limb e2 2 : Int)) (.int .u64 (limb e2 3 : Int))
      have l_x := k_x.other4 (c := w.heap.size + 1 + 1 + 1) (by omega) (.int .u64 (limb e2 0 : Int)) (.int .u64 (limb e2 1 : Int)) (.int .u64 (limb e2 2 : Int)) (.int .u64 (limb e2 3 : Int))
      have l_r := k_r.other4 (c := w.heap.size + 1 + 1 + 1) (by omega) (.int .u64 (limb e2 0 : Int)) (.int .u64 (limb e2 1 : Int)) (.int .u64 (limb e2 2 : Int)) (.int .u64 (limb e2 3 : Int))
      have l_u := k_u.other4 (c := w.heap.size + 1 + 1 + 1) (by omega) (.int .u64 (limb e2 0 : Int)) (.int .u64 (limb e2 1 : Int)) (.int .u64 (limb e2 2 : Int)) (.int .u64 (limb e2 3 : Int))
      have l_o := k_o.set4 (.int .u64 (limb e2 0 : Int)) (.int .u64 (limb e2 1 : Int)) (.int .u64 (limb e2 2 : Int)) (.int .u64 (limb e2 3 : Int))
      have B4 : Below w.heap.size w ((((W3.setCell ⟨w.heap.size + 1 + 1 + 1, 0, none⟩ (.int .u64 (limb e2 0 : Int))).setCell ⟨w.heap.size + 1 + 1 + 1, 1, none⟩ (.int .u64 (limb e2 1 : Int))).setCell ⟨w.heap.size + 1 + 1 + 1, 2, none⟩ (.int .u64 (limb e2 2 : Int))).setCell ⟨w.heap.size + 1 + 1 + 1, 3, none⟩ (.int .u64 (limb e2 3 : Int))) := (((B3.setCell (by dsimp only; omega) _).setCell (by dsimp only; omega) _).setCell (by dsimp only; omega) _).setCell (by dsimp only; omega) _
      go_wp2_with (go_at_call 54; refine (M3.out _).mono ?_; rintro e w5 ⟨rfl, b5⟩; have m_p := Blk.keep l_p b5; have m_x := Blk.keep l_x b5; have m_r := Blk.keep l_r b5; have m_u := Blk.keep l_u b5; have m_o := Blk.keep l_o b5; have B5 := B4.trans (b5.mono B4.size); have zB5 := B5.size; have v0 := m_u.cell (i := 0) rfl; have vf0 := m_u.frozen 0; have v1 := m_u.cell (i := 1) rfl; have vf1 := m_u.frozen 1; have v2 := m_u.cell (i := 2) rfl; have vf2 := m_u.frozen 2; have v3 := m_u.cell (i := 3) rfl; have vf3 := m_u.frozen 3; have zu5 := m_u.lt)
      obtain ⟨u2, hu2⟩ : ∃ u2, mulm p u x = u2 := ⟨_, rfl⟩
      have HU2 := hid hu2
      rw [hu2]
      clear hu2
      go_roundw
      case rel => exact ⟨k + 1, by omega, by go_num, (((B5.setCell (by dsimp only; omega) _).setCell (by dsimp only; omega) _).setCell (by dsimp only; omega) _).setCell (by dsimp only; omega) _, m_p.other4 (c := w.heap.size + 1 + 1 + 1 + 1 + 1) (by omega) (.int .u64 (limb u2 0 : Int)) (.int .u64 (limb u2 1 : Int)) (.int .u64 (limb u2 2 : Int)) (.int .u64 (limb u2 3 : Int)), m_x.other4 (c := w.heap.size + 1 + 1 + 1 + 1 + 1) (by omega) (.int .u64 (limb u2 0 : Int)) (.int .u64 (limb u2 1 : Int)) (.int .u64 (limb u2 2 : Int)) (.int .u64 (limb u2 3 : Int)), m_r.other4 (c := w.heap.size + 1 + 1 + 1 + 1 + 1) (by omega) (.int .u64 (limb u2 0 : Int)) (.int .u64 (limb u2 1 : Int)) (.int .u64 (limb u2 2 : Int)) (.int .u64 (limb u2 3 : Int)), by rw [TK.out, ← evm_snoc, LK.out, HE.out, HU.out, HE2.out]; exact m_o.other4 (c := w.heap.size + 1 + 1 + 1 + 1 + 1) (by omega) (.int .u64 (limb u2 0 : Int)) (.int .u64 (limb u2 1 : Int)) (.int .u64 (limb u2 2 : Int)) (.int .u64 (limb u2 3 : Int)), by rw [PS.out, HU.out, HU2.out]; exact m_u.set4 (.int .u64 (limb u2 0 : Int)) (.int .u64 (limb u2 1 : Int)) (.int .u64 (limb u2 2 : Int)) (.int .u64 (limb u2 3 : Int))⟩
      case measure => simp [intOf]; omega
    · obtain rfl : k = n := by omega
      have HE3 := hid (show evm p x cs = e by rw [← HE.out, List.take_of_length_le (by rw [HM.out]; exact Nat.le_refl _)])
      have o0 := ho.cell (i := 0) rfl
      have o1 := ho.cell (i := 1) rfl
      have o2 := ho.cell (i := 2) rfl
      have o3 := ho.cell (i := 3) rfl
      have r0 := hr.cell (i := 0) rfl
      have rf0 := hr.frozen 0
      have r1 := hr.cell (i := 1) rfl
      have rf1 := hr.frozen 1
      have r2 := hr.cell (i := 2) rfl
      have rf2 := hr.frozen 2
      have r3 := hr.cell (i := 3) rfl
      have rf3 := hr.frozen 3
      have zo := ho.lt
      have zr := hr.lt
      go_wp2
      refine bodyPost_ret (by simp only [results, Tryd.results23]; go_simp; try rfl) rfl ?_
      exact ⟨by rw [HE3.out], by have HB2 := HB.out; go_grown⟩
end Go.Proofs.YtogenbggjodcnaaDoor
