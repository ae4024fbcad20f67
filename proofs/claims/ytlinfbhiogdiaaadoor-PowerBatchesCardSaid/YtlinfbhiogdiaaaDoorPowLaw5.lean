/-
  PowerBatches: the batch of inverses is the list of inverses.
-/
import Derived.Test.YtlinfbhiogdiaaaDoorAlive06
import Derived.Test.YtlinfbhiogdiaaaDoorDrawn
import Derived.Deep.RegionHeld3
import Derived.Deep.DeepCutAuto
namespace Go.Proofs.YtlinfbhiogdiaaaDoor
open Go.RowKit

theorem info_el6 : (Tryd.prog.info? 24).map (fun i => (i.zero, i.size, i.bytes)) = some (some (.agg #[.int .u64 0, .int .u64 0, .int .u64 0, .int .u64 0]), 4, 32) := by kernel_rfl
set_option maxRecDepth 100000 in
set_option maxHeartbeats 4000000 in
theorem batches_law (b : Bool) (v : Value) (ls : List Nat) (w : World) (hT : Tab w) (hS : NumSl w v ls) :
    Calls Tryd.prog 5 #[.bool b, v] w (Ret (.bool true) w) := by
  have BW := hid (Below.refl w.heap.size w)
  have T := hid hT
  have N_ls := hid hS
  obtain ⟨sa, cap, rfl, hx1, hx2⟩ := hS
  have hlt9 : ∀ y ∈ ls, y < B256 := N_ls.out.lt
  clear hT hx1 hx2
  obtain ⟨n, hn⟩ : ∃ n, ls.length = n := ⟨_, rfl⟩
  rw [hn] at N_ls ⊢
  by_cases h30 : 30 < n
  · skip
    go_enter Tryd.func5, Tryd.ntmps5
    go_wp2_with fail
    refine (alive_any _ T.out).mono ?_
    rintro e v1 ⟨rfl, b9⟩
    replace N_ls := hid (N_ls.out.below b9)
    replace T := hid (T.out.keep b9)
    replace BW := hid (BW.out.trans (b9.mono BW.out.size))
    clear b9
    go_wp2
    go_ret
    exact ⟨rfl, BW.out⟩
  go_enter Tryd.func5, Tryd.ntmps5
  go_wp2_with fail
  refine (lget_any b _ T.out).mono ?_
  rintro e v1 ⟨rfl, b9⟩
  replace N_ls := hid (N_ls.out.below b9)
  replace T := hid (T.out.keep b9)
  replace BW := hid (BW.out.trans (b9.mono BW.out.size))
  clear b9
  have MOC := hid (fun (z : Nat) (hz : z < B256) (W : World) => rmod_any (fP b) z (fP_lt b) (by have := fP_two b; omega) hz W)
  have FX := hid (fun (z : Nat) (hz : z < fP b) (W : World) => lform_any (fP b) z (fP_lt b) (by have := fP_two b; omega) (Nat.lt_trans hz (fP_lt b)) W)
  have VLC := hid (fun (z : Nat) (hz : z < fP b) (W : World) => rvalue_any (fP b) (frm (fP b) z) (fP_lt b) (fP_odd b) (fP_inv b) (frm_lt z (by have := fP_two b; omega)) W)
  obtain ⟨xs, hxs⟩ : ∃ xs, ls.map (mulm (fP b) 1) = xs := ⟨_, rfl⟩
  have hxl : xs.length = n := by rw [← hxs, List.length_map, hn]
  have xlt : ∀ y ∈ xs, y < fP b := by
    intro y hy; rw [← hxs] at hy; obtain ⟨z, _, rfl⟩ := List.mem_map.1 hy
    exact mulm_lt _ _ (by have := fP_two b; omega)
  obtain ⟨fs, hfs⟩ : ∃ fs, xs.map (frm (fP b)) = fs := ⟨_, rfl⟩
  have hM : fs.length = n := by rw [← hfs, List.length_map, hxl]
  have flt : ∀ y ∈ fs, y < B256 := by
    intro y hy; rw [← hfs] at hy; obtain ⟨z, _, rfl⟩ := List.mem_map.1 hy
    exact Nat.lt_trans (frm_lt z (by have := fP_two b; omega)) (fP_lt b)
  have HXS := hid hxs
  have HFS := hid hfs
  have HX := hid xlt
  have HL := hid hlt9
  clear hxs hfs xlt hlt9
  go_wp2_with fail
  obtain ⟨v2, hv9⟩ : ∃ v, ((v1.alloc (.cells #[.int .i64 (fID b), .int .u64 (limb (fP b) 0 : Int), .int .u64 (limb (fP b) 1 : Int), .int .u64 (limb (fP b) 2 : Int), .int .u64 (limb (fP b) 3 : Int), .int .u64 (fI b : Int), .int .u64 (limb (fO b) 0 : Int), .int .u64 (limb (fO b) 1 : Int), .int .u64 (limb (fO b) 2 : Int), .int .u64 (limb (fO b) 3 : Int), .int .u64 (limb (fS b) 0 : Int), .int .u64 (limb (fS b) 1 : Int), .int .u64 (limb (fS b) 2 : Int), .int .u64 (limb (fS b) 3 : Int)] 26)).alloc (.cells #[.int .u64 (limb (fP b) 0 : Int), .int .u64 (limb (fP b) 1 : Int), .int .u64 (limb (fP b) 2 : Int), .int .u64 (limb (fP b) 3 : Int)] 23)) = v := ⟨_, rfl⟩
  have hG9 : Below v1.heap.size v1 v2 := by rw [← hv9]; go_grown
  have X_F : Blk v2 (v1.heap.size) 26 [.int .i64 (fID b), .int .u64 (limb (fP b) 0 : Int), .int .u64 (limb (fP b) 1 : Int), .int .u64 (limb (fP b) 2 : Int), .int .u64 (limb (fP b) 3 : Int), .int .u64 (fI b : Int), .int .u64 (limb (fO b) 0 : Int), .int .u64 (limb (fO b) 1 : Int), .int .u64 (limb (fO b) 2 : Int), .int .u64 (limb (fO b) 3 : Int), .int .u64 (limb (fS b) 0 : Int), .int .u64 (limb (fS b) 1 : Int), .int .u64 (limb (fS b) 2 : Int), .int .u64 (limb (fS b) 3 : Int)] := by rw [← hv9]; exact Blk.alloc (Blk.new rfl) _
  have X_P : Blk v2 (v1.heap.size + 1) 23 [.int .u64 (limb (fP b) 0 : Int), .int .u64 (limb (fP b) 1 : Int), .int .u64 (limb (fP b) 2 : Int), .int .u64 (limb (fP b) 3 : Int)] := by rw [← hv9]; exact Blk.new (by simp)
  obtain ⟨bF, hb9⟩ : ∃ k, v1.heap.size = k := ⟨_, rfl⟩
  rw [hb9] at X_F
  rw [hb9] at X_P
  have g_bF : w.heap.size ≤ bF := by rw [← hb9]; exact BW.out.size
  replace N_ls := hid (N_ls.out.below hG9)
  replace T := hid (T.out.keep hG9)
  replace BW := hid (BW.out.trans (hG9.mono BW.out.size))
  clear hG9
  rw [hv9]
  try rw [hb9]
  clear hv9 hb9
  obtain ⟨i0, hi, hz0, hz1, hz2⟩ := info_parts info_el6
  go_loopw [7, 26] (fun ac i wr => ∃ k : Nat, k ≤ n ∧ i = .int .i64 (k : Int) ∧ Below v2.heap.size v2 wr ∧ wr.ownsRow v2.heap.size 24 4 ac k (nums (fs.take k))) (fun _ i _ => n - (intOf i).toNat)
  case atStart => exact ⟨0, Nat.zero_le _, rfl, Below.refl _ _, by simpa [nums] using World.ownsRow_nil _ _ _ _⟩
  case round =>
    obtain ⟨k, hk, rfl, hB, hO⟩ := hrel
    obtain ⟨aa, cc, rfl, _⟩ := owns_form hO
    have HB := hid hB
    have O6 := hid hO
    have zB := hB.size
    clear hO
    by_cases hlt : k < n
    · skip
      replace X_F := X_F.keep hB
      replace X_P := X_P.keep hB
      replace N_ls := hid (N_ls.out.below hB)
      replace T := hid (T.out.keep hB)
      replace BW := hid (BW.out.trans (hB.mono BW.out.size))
      clear hB
      have hy : ls[k]? = some (ls[k]'(by omega)) := List.getElem?_eq_getElem _
      obtain ⟨y, hy9⟩ : ∃ y, ls[k]'(by omega) = y := ⟨_, rfl⟩
      rw [hy9] at hy
      clear hy9
      obtain ⟨g, off, rfl, hg, d0, d1, d2, d3⟩ := N_ls.out.at4 hy
      have yB := hid (HL.out y (List.mem_of_getElem? hy))
      have hx9 : xs[k]? = some (mulm (fP b) 1 y) := by rw [← HXS.out, List.getElem?_map, hy]; rfl
      have hz : fs[k]? = some (frm (fP b) (mulm (fP b) 1 y)) := by rw [← HFS.out, List.getElem?_map, hx9]; rfl
      have M1 := hid (MOC.out y yB.out)
      have M2 := hid (FX.out _ (HX.out _ (List.mem_of_getElem? hx9)))
      obtain ⟨x, hx⟩ : ∃ x, mulm (fP b) 1 y = x := ⟨_, rfl⟩
      rw [hx] at M1 M2 hz
      obtain ⟨z, hzz⟩ : ∃ z, frm (fP b) x = z := ⟨_, rfl⟩
      rw [hzz] at M2 hz
      have T1 := hid (take_next hz)
      clear hy hz hx9 hx hzz
      go_upto_region 8 with (fail)
      obtain ⟨v3, hv9⟩ : ∃ v, (wr.alloc (.cells #[.int .u64 (limb y 0 : Int), .int .u64 (limb y 1 : Int), .int .u64 (limb y 2 : Int), .int .u64 (limb y 3 : Int)] 23)) = v := ⟨_, rfl⟩
      have hG9 : Below wr.heap.size wr v3 := by rw [← hv9]; go_grown
      have X_Y : Blk v3 (wr.heap.size) 23 [.int .u64 (limb y 0 : Int), .int .u64 (limb y 1 : Int), .int .u64 (limb y 2 : Int), .int .u64 (limb y 3 : Int)] := by rw [← hv9]; exact Blk.new rfl
      obtain ⟨bY, hb9⟩ : ∃ k, wr.heap.size = k := ⟨_, rfl⟩
      rw [hb9] at X_Y
      have g_bY : w.heap.size ≤ bY := by rw [← hb9]; exact BW.out.size
      have q_F_bY : bF < bY := by rw [← hb9]; exact X_F.lt
      have q_P_bY : bF + 1 < bY := by rw [← hb9]; exact X_P.lt
      have O7 : Hid (v3.ownsRow v2.heap.size 24 4 (.slice aa k cc) k (nums (fs.take k))) := hid (by rw [← hv9]; exact O6.out.alloc _)
      replace X_F := X_F.keep hG9
      replace X_P := X_P.keep hG9
      replace N_ls := hid (N_ls.out.below hG9)
      replace T := hid (T.out.keep hG9)
      replace HB := hid (HB.out.trans (hG9.mono HB.out.size))
      replace BW := hid (BW.out.trans (hG9.mono BW.out.size))
      clear hG9
      rw [hv9]
      try rw [hb9]
      clear hv9 hb9
      have z_P := X_P.lt
      have c_P0 := X_P.cell (i := 0) rfl
      have c_P1 := X_P.cell (i := 1) rfl
      have c_P2 := X_P.cell (i := 2) rfl
      have c_P3 := X_P.cell (i := 3) rfl
      have z_Y := X_Y.lt
      have c_Y0 := X_Y.cell (i := 0) rfl
      have c_Y1 := X_Y.cell (i := 1) rfl
      have c_Y2 := X_Y.cell (i := 2) rfl
      have c_Y3 := X_Y.cell (i := 3) rfl
      refine wp_region_soft1 (C := fun W' => Below v3.heap.size v3 W') 5 (by kernel_rfl) (by kernel_rfl) (by decide) (by kernel_rfl) (by kernel_rfl) (by kernel_rfl) (by kernel_rfl) (by kernel_rfl) (fun _ _ _ h => h) (Or.inl ⟨by rfl, fun _ => rfl⟩) ((Below.refl _ _).drew) ?_
      simp only [List.take_succ_cons, List.take_zero, List.drop_succ_cons, List.drop_zero]
      simp only [Act.put, List.setIfInBounds_toArray, List.set_cons_zero, List.set_cons_succ]
      refine wpQuiet_step (fun K hK => ?_)
      rw [if_pos (by rfl)]
      refine ⟨vec (fP b), fun W' hW => ?_, hK _ ?_⟩
      · have e_0 := (hW.cell (p := ⟨bF + 1, 0, none⟩) z_P).trans c_P0
        have e_1 := (hW.cell (p := ⟨bF + 1, 1, none⟩) z_P).trans c_P1
        have e_2 := (hW.cell (p := ⟨bF + 1, 2, none⟩) z_P).trans c_P2
        have e_3 := (hW.cell (p := ⟨bF + 1, 3, none⟩) z_P).trans c_P3
        go_simp
      clear hK K
      simp only [Act.put, List.setIfInBounds_toArray, List.set_cons_zero, List.set_cons_succ]
      refine wpQuiet_step (fun K hK => ?_)
      rw [if_pos (by rfl)]
      refine ⟨vec (fP b), fun W' hW => ?_, hK _ ?_⟩
      · have e_0 := (hW.cell (p := ⟨bF + 1, 0, none⟩) z_P).trans c_P0
        have e_1 := (hW.cell (p := ⟨bF + 1, 1, none⟩) z_P).trans c_P1
        have e_2 := (hW.cell (p := ⟨bF + 1, 2, none⟩) z_P).trans c_P2
        have e_3 := (hW.cell (p := ⟨bF + 1, 3, none⟩) z_P).trans c_P3
        go_simp
      clear hK K
      simp only [Act.put, List.setIfInBounds_toArray, List.set_cons_zero, List.set_cons_succ]
      refine wpQuiet_step (fun K hK => ?_)
      rw [if_pos (by rfl)]
      refine ⟨vec y, fun W' hW => ?_, hK _ ?_⟩
      · have e_0 := (hW.cell (p := ⟨bY, 0, none⟩) z_Y).trans c_Y0
        have e_1 := (hW.cell (p := ⟨bY, 1, none⟩) z_Y).trans c_Y1
        have e_2 := (hW.cell (p := ⟨bY, 2, none⟩) z_Y).trans c_Y2
        have e_3 := (hW.cell (p := ⟨bY, 3, none⟩) z_Y).trans c_Y3
        go_simp
      clear hK K
      simp only [Act.put, List.setIfInBounds_toArray, List.set_cons_zero, List.set_cons_succ]
      refine wpQuiet_step (fun K hK => ?_)
      rw [if_pos (by rfl)]
      refine ⟨vec x, fun W' hW => ?_, hK _ ?_⟩
      · go_simp
        refine (M1.out _).mono ?_
        rintro e w' ⟨rfl, b⟩
        exact ⟨rfl, hW.trans (b.mono hW.size)⟩
      clear hK K
      simp only [Act.put, List.setIfInBounds_toArray, List.set_cons_zero, List.set_cons_succ]
      refine wpQuiet_step (fun K hK => ?_)
      rw [if_pos (by rfl)]
      refine ⟨vec z, fun W' hW => ?_, hK _ ?_⟩
      · go_simp
        refine (M2.out _).mono ?_
        rintro e w' ⟨rfl, b⟩
        exact ⟨rfl, hW.trans (b.mono hW.size)⟩
      clear hK K
      simp only [Act.put, List.setIfInBounds_toArray, List.set_cons_zero, List.set_cons_succ]
      refine wpQuiet_nil ?_
      intro ws0 hW9
      have O8 := hid (owns_keep O7.out hW9)
      clear z_P c_P0 c_P1 c_P2 c_P3 z_Y c_Y0 c_Y1 c_Y2 c_Y3
      replace X_F := X_F.keep hW9
      replace X_P := X_P.keep hW9
      replace X_Y := X_Y.keep hW9
      replace N_ls := hid (N_ls.out.below hW9)
      replace T := hid (T.out.keep hW9)
      replace HB := hid (HB.out.trans (hW9.mono HB.out.size))
      replace BW := hid (BW.out.trans (hW9.mono BW.out.size))
      clear hW9
      go_wp2_with (at_builtin; refine wpList_append_own _ rfl _ _ 38 rfl v2.heap.size 24 i0 _ 4 32 Tryd.underlying38 hi hz0 hz1 hz2 rfl (by decide) _ k _ rfl (O8.out.alloc _) ⟨ws0.heap.size, 0, none⟩ 1 1 (limbs z) rfl rfl (Blk.news (t := 24) (Blk.new (by simp; done))) (by simp [Value.oneCell']) (by unfold maxLen; omega) (by omega) (by have := HB.out.size; simp; omega) ?_; intro v6 w2 ho hg2 _)
      have B2 := hid (Below.grown (HB.out.alloc HB.out.size _) hg2 (by have := HB.out.size; simp; omega) (fun j hj => by have := (O8.out.lt j hj).1; omega))
      have ho' : w2.ownsRow v2.heap.size 24 4 v6 (k + 1) (nums (fs.take (k + 1))) := by rw [T1.out, nums_snoc]; exact ho
      have zk2 : IntKind.i64.wrap (k : Int) = (k : Int) := by rw [IntKind.wrap_i64]; omega
      go_roundw
      case rel => exact ⟨k + 1, by omega, by go_num, B2.out, ho'⟩
      case measure => simp [intOf]; omega
    · skip
      obtain rfl : n = k := by omega
      have N_x := hid (nums_own (xs := fs) (by have q := O6.out; rw [List.take_of_length_le (by omega)] at q; rw [hM]; exact q) flt)
      replace X_F := X_F.keep hB
      replace X_P := X_P.keep hB
      replace N_ls := hid (N_ls.out.below hB)
      replace T := hid (T.out.keep hB)
      replace BW := hid (BW.out.trans (hB.mono BW.out.size))
      clear hB
      clear O6 HB zB hi hz0 hz1 hz2 hlt
      have N_x9 := N_x.out
      have BC := hid (fun (W : World) (h : NumSl W (.slice aa n cc) fs) => batch_any (fID b) (fP b) (fI b) (fS b) (.slice aa n cc) xs W (hid (fOK b)) (hid (fer_b b)) (by rw [HFS.out]; exact h) HX (by omega))
      rw [← fO_eq b] at BC
      rw [hxl] at BC
      obtain ⟨ys, hys⟩ : ∃ ys, xs.map (invm (fP b)) = ys := ⟨_, rfl⟩
      obtain ⟨gs, hgs⟩ : ∃ gs, ys.map (frm (fP b)) = gs := ⟨_, rfl⟩
      rw [hys, hgs] at BC
      have hgl : gs.length = n := by rw [← hgs, List.length_map, ← hys, List.length_map, hxl]
      have glt : ∀ y ∈ gs, y < B256 := by
        intro y hy; rw [← hgs] at hy; obtain ⟨z, _, rfl⟩ := List.mem_map.1 hy
        exact Nat.lt_trans (frm_lt z (by have := fP_two b; omega)) (fP_lt b)
      have HYS := hid hys
      have HGS := hid hgs
      clear hys hgs N_x9
      have z_F := X_F.lt
      have c_F0 := X_F.cell (i := 0) rfl
      have c_F1 := X_F.cell (i := 1) rfl
      have c_F2 := X_F.cell (i := 2) rfl
      have c_F3 := X_F.cell (i := 3) rfl
      have c_F4 := X_F.cell (i := 4) rfl
      have c_F5 := X_F.cell (i := 5) rfl
      have c_F6 := X_F.cell (i := 6) rfl
      have c_F7 := X_F.cell (i := 7) rfl
      have c_F8 := X_F.cell (i := 8) rfl
      have c_F9 := X_F.cell (i := 9) rfl
      have c_F10 := X_F.cell (i := 10) rfl
      have c_F11 := X_F.cell (i := 11) rfl
      have c_F12 := X_F.cell (i := 12) rfl
      have c_F13 := X_F.cell (i := 13) rfl
      go_wp2_with fail
      refine (BC.out _ N_x.out).mono ?_
      rintro e v4 ⟨vg, rfl, hg9, b9⟩
      clear z_F c_F0 c_F1 c_F2 c_F3 c_F4 c_F5 c_F6 c_F7 c_F8 c_F9 c_F10 c_F11 c_F12 c_F13
      replace X_F := X_F.keep b9
      replace X_P := X_P.keep b9
      replace N_ls := hid (N_ls.out.below b9)
      replace N_x := hid (N_x.out.below b9)
      replace T := hid (T.out.keep b9)
      replace BW := hid (BW.out.trans (b9.mono BW.out.size))
      clear b9
      obtain ⟨ag, cg, rfl, _⟩ := owns_form hg9
      have N_g := hid (nums_own (xs := gs) (by rw [hgl]; exact hg9) glt)
      clear hg9 BC glt flt
      have z_P := X_P.lt
      have c_P0 := X_P.cell (i := 0) rfl
      have c_P1 := X_P.cell (i := 1) rfl
      have c_P2 := X_P.cell (i := 2) rfl
      have c_P3 := X_P.cell (i := 3) rfl
      go_wp2_with fail
      clear z_P c_P0 c_P1 c_P2 c_P3
      go_loopw [49] (fun i wr => ∃ k : Nat, k ≤ n ∧ i = .int .i64 (k : Int) ∧ Below v4.heap.size v4 wr) (fun i _ => n - (intOf i).toNat)
      case atStart => exact ⟨0, Nat.zero_le _, rfl, Below.refl _ _⟩
      case round =>
        obtain ⟨k, hk, rfl, hB⟩ := hrel
        have HB := hid hB
        have zB := hB.size
        by_cases hlt : k < n
        · skip
          replace X_F := X_F.keep hB
          replace X_P := X_P.keep hB
          replace N_ls := hid (N_ls.out.below hB)
          replace N_x := hid (N_x.out.below hB)
          replace N_g := hid (N_g.out.below hB)
          replace T := hid (T.out.keep hB)
          replace BW := hid (BW.out.trans (hB.mono BW.out.size))
          clear hB
          have hx : xs[k]? = some (xs[k]'(by omega)) := List.getElem?_eq_getElem _
          obtain ⟨x, hx9⟩ : ∃ y, xs[k]'(by omega) = y := ⟨_, rfl⟩
          rw [hx9] at hx
          clear hx9
          have xP := hid (HX.out x (List.mem_of_getElem? hx))
          have hf : fs[k]? = some (frm (fP b) x) := by rw [← HFS.out, List.getElem?_map, hx]; rfl
          have hg : gs[k]? = some (frm (fP b) (invm (fP b) x)) := by rw [← HGS.out, List.getElem?_map, ← HYS.out, List.getElem?_map, hx]; rfl
          have HYP := hid (invm_lt (p := fP b) x (by have := fP_two b; omega))
          have V1 := hid (VLC.out x xP.out)
          rw [valm_frm (fP_inv b) xP.out] at V1
          have V2 := hid (VLC.out (invm (fP b) x) HYP.out)
          rw [valm_frm (fP_inv b) HYP.out] at V2
          have RC := hid (fun W : World => rmul_any (fP b) x (invm (fP b) x) (fP_lt b) xP.out (Nat.lt_trans HYP.out (fP_lt b)) W)
          have HP1 := hid (fun h : x ≠ 0 => inv_left (fer_b b) (fP_two b) h xP.out)
          have HP3 : Hid (x = 0 → invm (fP b) x = 0) := hid (fun h => by rw [h]; exact invm_zero (fP_two b))
          obtain ⟨y, hy⟩ : ∃ y, invm (fP b) x = y := ⟨_, rfl⟩
          rw [hy] at V2 RC HP1 HP3 HYP hg
          obtain ⟨fx, hfx⟩ : ∃ y, frm (fP b) x = y := ⟨_, rfl⟩
          rw [hfx] at V1 hf
          obtain ⟨fy, hfy⟩ : ∃ z, frm (fP b) y = z := ⟨_, rfl⟩
          rw [hfy] at V2 hg
          obtain ⟨gx, ox, rfl, hgx, d0, d1, d2, d3⟩ := N_x.out.at4 hf
          obtain ⟨gg, og, rfl, hgg, e0, e1, e2, e3⟩ := N_g.out.at4 hg
          clear hy hfx hfy hx hf hg
          go_upto_region 16 with (fail)
          obtain ⟨v5, hv9⟩ : ∃ v, (wr.alloc (.cells #[.int .u64 (limb fy 0 : Int), .int .u64 (limb fy 1 : Int), .int .u64 (limb fy 2 : Int), .int .u64 (limb fy 3 : Int)] 24)) = v := ⟨_, rfl⟩
          have hG9 : Below wr.heap.size wr v5 := by rw [← hv9]; go_grown
          have X_Y : Blk v5 (wr.heap.size) 24 [.int .u64 (limb fy 0 : Int), .int .u64 (limb fy 1 : Int), .int .u64 (limb fy 2 : Int), .int .u64 (limb fy 3 : Int)] := by rw [← hv9]; exact Blk.new rfl
          obtain ⟨bY, hb9⟩ : ∃ k, wr.heap.size = k := ⟨_, rfl⟩
          rw [hb9] at X_Y
          have g_bY : w.heap.size ≤ bY := by rw [← hb9]; exact BW.out.size
          have q_F_bY : bF < bY := by rw [← hb9]; exact X_F.lt
          have q_P_bY : bF + 1 < bY := by rw [← hb9]; exact X_P.lt
          have x0 := (hG9.cell (p := ⟨gx, ox + k * 4, none⟩) hgx).trans d0
          have x1 := (hG9.cell (p := ⟨gx, ox + k * 4 + 1, none⟩) hgx).trans d1
          have x2 := (hG9.cell (p := ⟨gx, ox + k * 4 + 2, none⟩) hgx).trans d2
          have x3 := (hG9.cell (p := ⟨gx, ox + k * 4 + 3, none⟩) hgx).trans d3
          have hgx2 := Nat.lt_of_lt_of_le hgx hG9.size
          clear d0 d1 d2 d3 e0 e1 e2 e3 hgg
          replace X_F := X_F.keep hG9
          replace X_P := X_P.keep hG9
          replace N_ls := hid (N_ls.out.below hG9)
          replace N_x := hid (N_x.out.below hG9)
          replace N_g := hid (N_g.out.below hG9)
          replace T := hid (T.out.keep hG9)
          replace HB := hid (HB.out.trans (hG9.mono HB.out.size))
          replace BW := hid (BW.out.trans (hG9.mono BW.out.size))
          clear hG9
          rw [hv9]
          try rw [hb9]
          clear hv9 hb9
          have hki : (k : Int) < (n : Int) := by omega
          have hk0 : (0 : Int) ≤ (k : Int) := by omega
          have z_P := X_P.lt
          have c_P0 := X_P.cell (i := 0) rfl
          have c_P1 := X_P.cell (i := 1) rfl
          have c_P2 := X_P.cell (i := 2) rfl
          have c_P3 := X_P.cell (i := 3) rfl
          have z_Y := X_Y.lt
          have c_Y0 := X_Y.cell (i := 0) rfl
          have c_Y1 := X_Y.cell (i := 1) rfl
          have c_Y2 := X_Y.cell (i := 2) rfl
          have c_Y3 := X_Y.cell (i := 3) rfl
          go_cut [13, 14] (fun t0 t1 wx => ∃ br0 br1, t0 = .pointer (some ⟨br0, 0, none⟩) ∧ t1 = .pointer (some ⟨br1, 0, none⟩) ∧ Blk wx br0 23 [.int .u64 (limb x 0 : Int), .int .u64 (limb x 1 : Int), .int .u64 (limb x 2 : Int), .int .u64 (limb x 3 : Int)] ∧ Blk wx br1 23 [.int .u64 (limb y 0 : Int), .int .u64 (limb y 1 : Int), .int .u64 (limb y 2 : Int), .int .u64 (limb y 3 : Int)] ∧ ¬ br0 = br1 ∧ v5.heap.size ≤ br0 ∧ v5.heap.size ≤ br1 ∧ Below v5.heap.size v5 wx)
          case first =>
            try refine wp_region_noPanic ?_
            refine wp_region_held_drew (S := (fun w' => ∀ b o, b < v5.heap.size → w'.cell? ⟨b, o, none⟩ = v5.cell? ⟨b, o, none⟩)) (by kernel_rfl) (fun b o h => cell_drew) (fun hHeld => ?_)
            refine wpAnyH_take (i := 0) (oi := _) (v := vec (fP b)) rfl (by kernel_rfl) (by kernel_rfl) (by kernel_rfl) (fun _ _ _ h => h) (Or.inl ⟨by rfl, ?_⟩) (by assumption) ?_
            · intro w hSw; (try dsimp only at hSw); go_simp
            try simp only [Act.put, List.setIfInBounds_toArray, List.set_cons_zero, List.set_cons_succ]
            refine wpAnyH_take (i := 1) (oi := _) (v := .slice (some ⟨gx, ox, none⟩) n cc) rfl (by kernel_rfl) (by kernel_rfl) (by kernel_rfl) (fun _ _ _ h => h) (Or.inl ⟨by rfl, ?_⟩) (by assumption) ?_
            · intro w hSw; (try dsimp only at hSw); go_simp
            try simp only [Act.put, List.setIfInBounds_toArray, List.set_cons_zero, List.set_cons_succ]
            refine wpAnyH_take (i := 2) (oi := _) (v := .int .i64 (k : Int)) rfl (by kernel_rfl) (by kernel_rfl) (by kernel_rfl) (fun _ _ _ h => h) (Or.inl ⟨by rfl, ?_⟩) (by assumption) ?_
            · intro w hSw; (try dsimp only at hSw); go_simp
            try simp only [Act.put, List.setIfInBounds_toArray, List.set_cons_zero, List.set_cons_succ]
            refine wpAnyH_take (i := 3) (oi := _) (v := .pointer (some ⟨gx, ox + k * 4, none⟩)) rfl (by kernel_rfl) (by kernel_rfl) (by kernel_rfl) (fun _ _ _ h => h) (Or.inl ⟨by rfl, ?_⟩) (by assumption) ?_
            · intro w hSw; (try dsimp only at hSw); go_simp
            try simp only [Act.put, List.setIfInBounds_toArray, List.set_cons_zero, List.set_cons_succ]
            refine wpAnyH_take (i := 4) (oi := _) (v := vec fx) rfl (by kernel_rfl) (by kernel_rfl) (by kernel_rfl) (fun _ _ _ h => h) (Or.inl ⟨by rfl, ?_⟩) (by assumption) ?_
            · intro w hSw
              (try dsimp only at hSw)
              have e_0 := (hSw gx (ox + k * 4) hgx2).trans x0
              have e_1 := (hSw gx (ox + k * 4 + 1) hgx2).trans x1
              have e_2 := (hSw gx (ox + k * 4 + 2) hgx2).trans x2
              have e_3 := (hSw gx (ox + k * 4 + 3) hgx2).trans x3
              go_simp
            try simp only [Act.put, List.setIfInBounds_toArray, List.set_cons_zero, List.set_cons_succ]
            refine wpAnyH_take (i := 6) (oi := _) (v := vec (fP b)) rfl (by kernel_rfl) (by kernel_rfl) (by kernel_rfl) (fun _ _ _ h => h) (Or.inl ⟨by rfl, ?_⟩) (by assumption) ?_
            · intro w hSw; (try dsimp only at hSw); go_simp
            try simp only [Act.put, List.setIfInBounds_toArray, List.set_cons_zero, List.set_cons_succ]
            refine wpAnyH_take (i := 7) (oi := _) (v := vec fy) rfl (by kernel_rfl) (by kernel_rfl) (by kernel_rfl) (fun _ _ _ h => h) (Or.inl ⟨by rfl, ?_⟩) (by assumption) ?_
            · intro w hSw; (try dsimp only at hSw); go_simp
            try simp only [Act.put, List.setIfInBounds_toArray, List.set_cons_zero, List.set_cons_succ]
            have H9 := (Below.refl v5.heap.size v5).drew
            clear hHeld
            refine wpAnyH_ready (rs := [5, 9, 10]) (by kernel_rfl) (by simp) ?_
            refine AllReadyH.cons (o := _) rfl (fun K hK => ?_) ?_
            · skip
              go_simp
              go_at_call 15
              refine (V1.out _).mono ?_
              rintro e rr1 ⟨rfl, b9⟩
              replace H9 := H9.trans (b9.mono H9.size)
              clear b9
              try go_wp2_with fail
              refine hK.out _ _ (fun b o h => H9.cell (p := ⟨b, o, none⟩) h) (fun hHeld => ?_)
              clear hK K hHeld
              try simp only [Act.put, List.setIfInBounds_toArray, List.set_cons_zero, List.set_cons_succ]
              refine wpAnyH_ready (rs := [8, 9, 10]) (by kernel_rfl) (by simp) ?_
              refine AllReadyH.cons (o := _) rfl (fun K hK => ?_) ?_
              · skip
                go_simp
                go_at_call 15
                refine (V2.out _).mono ?_
                rintro e rr2 ⟨rfl, b9⟩
                replace H9 := H9.trans (b9.mono H9.size)
                clear b9
                try go_wp2_with fail
                refine hK.out _ _ (fun b o h => H9.cell (p := ⟨b, o, none⟩) h) (fun hHeld => ?_)
                clear hK K hHeld
                try simp only [Act.put, List.setIfInBounds_toArray, List.set_cons_zero, List.set_cons_succ]
                refine wpAnyH_ready (rs := [9, 10]) (by kernel_rfl) (by simp) ?_
                refine AllReadyH.cons (o := _) rfl (fun K hK => ?_) ?_
                · skip
                  go_simp
                  obtain ⟨rr3, e9⟩ : ∃ q, (rr2.alloc (.cells #[.int .u64 0, .int .u64 0, .int .u64 0, .int .u64 0] 23)) = q := ⟨_, rfl⟩
                  rw [e9]
                  have g_A : v5.heap.size ≤ rr2.heap.size := H9.size
                  have Z_A : Blk rr3 (rr2.heap.size) 23 [.int .u64 0, .int .u64 0, .int .u64 0, .int .u64 0] := blk_to e9 (Blk.new (w := rr2) (xs := [.int .u64 0, .int .u64 0, .int .u64 0, .int .u64 0]) (t := 23) rfl)
                  replace H9 := below_to e9 (H9.alloc H9.size (.cells #[.int .u64 0, .int .u64 0, .int .u64 0, .int .u64 0] 23))
                  clear e9
                  refine hK.out _ _ (fun b o h => H9.cell (p := ⟨b, o, none⟩) h) (fun hHeld => ?_)
                  clear hK K hHeld
                  try simp only [Act.put, List.setIfInBounds_toArray, List.set_cons_zero, List.set_cons_succ]
                  refine wpAnyH_ready (rs := [10]) (by kernel_rfl) (by simp) ?_
                  refine AllReadyH.cons (o := _) rfl (fun K hK => ?_) ?_
                  · skip
                    go_simp
                    obtain ⟨rr4, e9⟩ : ∃ q, (rr3.alloc (.cells #[.int .u64 0, .int .u64 0, .int .u64 0, .int .u64 0] 23)) = q := ⟨_, rfl⟩
                    rw [e9]
                    have g_C : v5.heap.size ≤ rr3.heap.size := H9.size
                    have n_A_C : ¬ rr2.heap.size = rr3.heap.size := Nat.ne_of_lt Z_A.lt
                    have n_C_A : ¬ rr3.heap.size = rr2.heap.size := (Nat.ne_of_lt Z_A.lt).symm
                    replace Z_A := blk_to e9 (Z_A.alloc (.cells #[.int .u64 0, .int .u64 0, .int .u64 0, .int .u64 0] 23))
                    have Z_C : Blk rr4 (rr3.heap.size) 23 [.int .u64 0, .int .u64 0, .int .u64 0, .int .u64 0] := blk_to e9 (Blk.new (w := rr3) (xs := [.int .u64 0, .int .u64 0, .int .u64 0, .int .u64 0]) (t := 23) rfl)
                    replace H9 := below_to e9 (H9.alloc H9.size (.cells #[.int .u64 0, .int .u64 0, .int .u64 0, .int .u64 0] 23))
                    clear e9
                    refine hK.out _ _ (fun b o h => H9.cell (p := ⟨b, o, none⟩) h) (fun hHeld => ?_)
                    clear hK K hHeld
                    try simp only [Act.put, List.setIfInBounds_toArray, List.set_cons_zero, List.set_cons_succ]
                    refine wpAnyH_ready (rs := [11]) (by kernel_rfl) (by simp) ?_
                    refine AllReadyH.cons (o := _) rfl (fun K hK => ?_) ?_
                    · skip
                      have s_l := Z_A.lt
                      have s_c0 := Z_A.cell (i := 0) rfl
                      have s_c1 := Z_A.cell (i := 1) rfl
                      have s_c2 := Z_A.cell (i := 2) rfl
                      have s_c3 := Z_A.cell (i := 3) rfl
                      have s_f0 := Z_A.frozen 0
                      have s_f1 := Z_A.frozen 1
                      have s_f2 := Z_A.frozen 2
                      have s_f3 := Z_A.frozen 3
                      go_simp
                      clear s_l s_c0 s_f0 s_c1 s_f1 s_c2 s_f2 s_c3 s_f3
                      obtain ⟨rr5, e9⟩ : ∃ q, ((((rr4.setCell ⟨rr2.heap.size, 0, none⟩ (.int .u64 (limb x 0 : Int))).setCell ⟨rr2.heap.size, 1, none⟩ (.int .u64 (limb x 1 : Int))).setCell ⟨rr2.heap.size, 2, none⟩ (.int .u64 (limb x 2 : Int))).setCell ⟨rr2.heap.size, 3, none⟩ (.int .u64 (limb x 3 : Int))) = q := ⟨_, rfl⟩
                      rw [e9]
                      replace Z_A := blk_to e9 (Z_A.set4 (.int .u64 (limb x 0 : Int)) (.int .u64 (limb x 1 : Int)) (.int .u64 (limb x 2 : Int)) (.int .u64 (limb x 3 : Int)))
                      replace Z_C := blk_to e9 (Z_C.other4 n_C_A (.int .u64 (limb x 0 : Int)) (.int .u64 (limb x 1 : Int)) (.int .u64 (limb x 2 : Int)) (.int .u64 (limb x 3 : Int)))
                      replace H9 := below_to e9 (below_set4 H9 g_A (.int .u64 (limb x 0 : Int)) (.int .u64 (limb x 1 : Int)) (.int .u64 (limb x 2 : Int)) (.int .u64 (limb x 3 : Int)))
                      clear e9
                      refine hK.out _ _ (fun b o h => H9.cell (p := ⟨b, o, none⟩) h) (fun hHeld => ?_)
                      clear hK K hHeld
                      try simp only [Act.put, List.setIfInBounds_toArray, List.set_cons_zero, List.set_cons_succ]
                      refine wpAnyH_ready (rs := [12]) (by kernel_rfl) (by simp) ?_
                      refine AllReadyH.cons (o := _) rfl (fun K hK => ?_) ?_
                      · skip
                        have s_l := Z_C.lt
                        have s_c0 := Z_C.cell (i := 0) rfl
                        have s_c1 := Z_C.cell (i := 1) rfl
                        have s_c2 := Z_C.cell (i := 2) rfl
                        have s_c3 := Z_C.cell (i := 3) rfl
                        have s_f0 := Z_C.frozen 0
                        have s_f1 := Z_C.frozen 1
                        have s_f2 := Z_C.frozen 2
                        have s_f3 := Z_C.frozen 3
                        go_simp
                        clear s_l s_c0 s_f0 s_c1 s_f1 s_c2 s_f2 s_c3 s_f3
                        obtain ⟨rr6, e9⟩ : ∃ q, ((((rr5.setCell ⟨rr3.heap.size, 0, none⟩ (.int .u64 (limb y 0 : Int))).setCell ⟨rr3.heap.size, 1, none⟩ (.int .u64 (limb y 1 : Int))).setCell ⟨rr3.heap.size, 2, none⟩ (.int .u64 (limb y 2 : Int))).setCell ⟨rr3.heap.size, 3, none⟩ (.int .u64 (limb y 3 : Int))) = q := ⟨_, rfl⟩
                        rw [e9]
                        replace Z_A := blk_to e9 (Z_A.other4 n_A_C (.int .u64 (limb y 0 : Int)) (.int .u64 (limb y 1 : Int)) (.int .u64 (limb y 2 : Int)) (.int .u64 (limb y 3 : Int)))
                        replace Z_C := blk_to e9 (Z_C.set4 (.int .u64 (limb y 0 : Int)) (.int .u64 (limb y 1 : Int)) (.int .u64 (limb y 2 : Int)) (.int .u64 (limb y 3 : Int)))
                        replace H9 := below_to e9 (below_set4 H9 g_C (.int .u64 (limb y 0 : Int)) (.int .u64 (limb y 1 : Int)) (.int .u64 (limb y 2 : Int)) (.int .u64 (limb y 3 : Int)))
                        clear e9
                        refine hK.out _ _ (fun b o h => H9.cell (p := ⟨b, o, none⟩) h) (fun hHeld => ?_)
                        clear hK K hHeld
                        try simp only [Act.put, List.setIfInBounds_toArray, List.set_cons_zero, List.set_cons_succ]
                        refine wpAnyH_done (by kernel_rfl) ?_ _
                        try refine NoPanic.normal ?_
                        go_wp2_with (fail)
                        go_meet
                        exact ⟨_, _, rfl, rfl, Z_A, Z_C, n_A_C, g_A, g_C, H9⟩
                      exact AllReadyH.nil
                    exact AllReadyH.nil
                  exact AllReadyH.nil
                refine AllReadyH.cons (o := _) rfl (fun K hK => ?_) ?_
                · skip
                  go_simp
                  obtain ⟨rr7, e9⟩ : ∃ q, (rr2.alloc (.cells #[.int .u64 0, .int .u64 0, .int .u64 0, .int .u64 0] 23)) = q := ⟨_, rfl⟩
                  rw [e9]
                  have g_C : v5.heap.size ≤ rr2.heap.size := H9.size
                  have Z_C : Blk rr7 (rr2.heap.size) 23 [.int .u64 0, .int .u64 0, .int .u64 0, .int .u64 0] := blk_to e9 (Blk.new (w := rr2) (xs := [.int .u64 0, .int .u64 0, .int .u64 0, .int .u64 0]) (t := 23) rfl)
                  replace H9 := below_to e9 (H9.alloc H9.size (.cells #[.int .u64 0, .int .u64 0, .int .u64 0, .int .u64 0] 23))
                  clear e9
                  refine hK.out _ _ (fun b o h => H9.cell (p := ⟨b, o, none⟩) h) (fun hHeld => ?_)
                  clear hK K hHeld
                  try simp only [Act.put, List.setIfInBounds_toArray, List.set_cons_zero, List.set_cons_succ]
                  refine wpAnyH_ready (rs := [9]) (by kernel_rfl) (by simp) ?_
                  refine AllReadyH.cons (o := _) rfl (fun K hK => ?_) ?_
                  · skip
                    go_simp
                    obtain ⟨rr8, e9⟩ : ∃ q, (rr7.alloc (.cells #[.int .u64 0, .int .u64 0, .int .u64 0, .int .u64 0] 23)) = q := ⟨_, rfl⟩
                    rw [e9]
                    have g_A : v5.heap.size ≤ rr7.heap.size := H9.size
                    have n_C_A : ¬ rr2.heap.size = rr7.heap.size := Nat.ne_of_lt Z_C.lt
                    have n_A_C : ¬ rr7.heap.size = rr2.heap.size := (Nat.ne_of_lt Z_C.lt).symm
                    replace Z_C := blk_to e9 (Z_C.alloc (.cells #[.int .u64 0, .int .u64 0, .int .u64 0, .int .u64 0] 23))
                    have Z_A : Blk rr8 (rr7.heap.size) 23 [.int .u64 0, .int .u64 0, .int .u64 0, .int .u64 0] := blk_to e9 (Blk.new (w := rr7) (xs := [.int .u64 0, .int .u64 0, .int .u64 0, .int .u64 0]) (t := 23) rfl)
                    replace H9 := below_to e9 (H9.alloc H9.size (.cells #[.int .u64 0, .int .u64 0, .int .u64 0, .int .u64 0] 23))
                    clear e9
                    refine hK.out _ _ (fun b o h => H9.cell (p := ⟨b, o, none⟩) h) (fun hHeld => ?_)
                    clear hK K hHeld
                    try simp only [Act.put, List.setIfInBounds_toArray, List.set_cons_zero, List.set_cons_succ]
                    refine wpAnyH_ready (rs := [11]) (by kernel_rfl) (by simp) ?_
                    refine AllReadyH.cons (o := _) rfl (fun K hK => ?_) ?_
                    · skip
                      have s_l := Z_A.lt
                      have s_c0 := Z_A.cell (i := 0) rfl
                      have s_c1 := Z_A.cell (i := 1) rfl
                      have s_c2 := Z_A.cell (i := 2) rfl
                      have s_c3 := Z_A.cell (i := 3) rfl
                      have s_f0 := Z_A.frozen 0
                      have s_f1 := Z_A.frozen 1
                      have s_f2 := Z_A.frozen 2
                      have s_f3 := Z_A.frozen 3
                      go_simp
                      clear s_l s_c0 s_f0 s_c1 s_f1 s_c2 s_f2 s_c3 s_f3
                      obtain ⟨rr9, e9⟩ : ∃ q, ((((rr8.setCell ⟨rr7.heap.size, 0, none⟩ (.int .u64 (limb x 0 : Int))).setCell ⟨rr7.heap.size, 1, none⟩ (.int .u64 (limb x 1 : Int))).setCell ⟨rr7.heap.size, 2, none⟩ (.int .u64 (limb x 2 : Int))).setCell ⟨rr7.heap.size, 3, none⟩ (.int .u64 (limb x 3 : Int))) = q := ⟨_, rfl⟩
                      rw [e9]
                      replace Z_C := blk_to e9 (Z_C.other4 n_C_A (.int .u64 (limb x 0 : Int)) (.int .u64 (limb x 1 : Int)) (.int .u64 (limb x 2 : Int)) (.int .u64 (limb x 3 : Int)))
                      replace Z_A := blk_to e9 (Z_A.set4 (.int .u64 (limb x 0 : Int)) (.int .u64 (limb x 1 : Int)) (.int .u64 (limb x 2 : Int)) (.int .u64 (limb x 3 : Int)))
                      replace H9 := below_to e9 (below_set4 H9 g_A (.int .u64 (limb x 0 : Int)) (.int .u64 (limb x 1 : Int)) (.int .u64 (limb x 2 : Int)) (.int .u64 (limb x 3 : Int)))
                      clear e9
                      refine hK.out _ _ (fun b o h => H9.cell (p := ⟨b, o, none⟩) h) (fun hHeld => ?_)
                      clear hK K hHeld
                      try simp only [Act.put, List.setIfInBounds_toArray, List.set_cons_zero, List.set_cons_succ]
                      refine wpAnyH_ready (rs := [12]) (by kernel_rfl) (by simp) ?_
                      refine AllReadyH.cons (o := _) rfl (fun K hK => ?_) ?_
                      · skip
                        have s_l := Z_C.lt
                        have s_c0 := Z_C.cell (i := 0) rfl
                        have s_c1 := Z_C.cell (i := 1) rfl
                        have s_c2 := Z_C.cell (i := 2) rfl
                        have s_c3 := Z_C.cell (i := 3) rfl
                        have s_f0 := Z_C.frozen 0
                        have s_f1 := Z_C.frozen 1
                        have s_f2 := Z_C.frozen 2
                        have s_f3 := Z_C.frozen 3
                        go_simp
                        clear s_l s_c0 s_f0 s_c1 s_f1 s_c2 s_f2 s_c3 s_f3
                        obtain ⟨rr10, e9⟩ : ∃ q, ((((rr9.setCell ⟨rr2.heap.size, 0, none⟩ (.int .u64 (limb y 0 : Int))).setCell ⟨rr2.heap.size, 1, none⟩ (.int .u64 (limb y 1 : Int))).setCell ⟨rr2.heap.size, 2, none⟩ (.int .u64 (limb y 2 : Int))).setCell ⟨rr2.heap.size, 3, none⟩ (.int .u64 (limb y 3 : Int))) = q := ⟨_, rfl⟩
                        rw [e9]
                        replace Z_C := blk_to e9 (Z_C.set4 (.int .u64 (limb y 0 : Int)) (.int .u64 (limb y 1 : Int)) (.int .u64 (limb y 2 : Int)) (.int .u64 (limb y 3 : Int)))
                        replace Z_A := blk_to e9 (Z_A.other4 n_A_C (.int .u64 (limb y 0 : Int)) (.int .u64 (limb y 1 : Int)) (.int .u64 (limb y 2 : Int)) (.int .u64 (limb y 3 : Int)))
                        replace H9 := below_to e9 (below_set4 H9 g_C (.int .u64 (limb y 0 : Int)) (.int .u64 (limb y 1 : Int)) (.int .u64 (limb y 2 : Int)) (.int .u64 (limb y 3 : Int)))
                        clear e9
                        refine hK.out _ _ (fun b o h => H9.cell (p := ⟨b, o, none⟩) h) (fun hHeld => ?_)
                        clear hK K hHeld
                        try simp only [Act.put, List.setIfInBounds_toArray, List.set_cons_zero, List.set_cons_succ]
                        refine wpAnyH_done (by kernel_rfl) ?_ _
                        try refine NoPanic.normal ?_
                        go_wp2_with (fail)
                        go_meet
                        exact ⟨_, _, rfl, rfl, Z_A, Z_C, n_A_C, g_A, g_C, H9⟩
                      exact AllReadyH.nil
                    exact AllReadyH.nil
                  exact AllReadyH.nil
                exact AllReadyH.nil
              refine AllReadyH.cons (o := _) rfl (fun K hK => ?_) ?_
              · skip
                go_simp
                obtain ⟨rr11, e9⟩ : ∃ q, (rr1.alloc (.cells #[.int .u64 0, .int .u64 0, .int .u64 0, .int .u64 0] 23)) = q := ⟨_, rfl⟩
                rw [e9]
                have g_A : v5.heap.size ≤ rr1.heap.size := H9.size
                have Z_A : Blk rr11 (rr1.heap.size) 23 [.int .u64 0, .int .u64 0, .int .u64 0, .int .u64 0] := blk_to e9 (Blk.new (w := rr1) (xs := [.int .u64 0, .int .u64 0, .int .u64 0, .int .u64 0]) (t := 23) rfl)
                replace H9 := below_to e9 (H9.alloc H9.size (.cells #[.int .u64 0, .int .u64 0, .int .u64 0, .int .u64 0] 23))
                clear e9
                refine hK.out _ _ (fun b o h => H9.cell (p := ⟨b, o, none⟩) h) (fun hHeld => ?_)
                clear hK K hHeld
                try simp only [Act.put, List.setIfInBounds_toArray, List.set_cons_zero, List.set_cons_succ]
                refine wpAnyH_ready (rs := [8, 10]) (by kernel_rfl) (by simp) ?_
                refine AllReadyH.cons (o := _) rfl (fun K hK => ?_) ?_
                · skip
                  go_simp
                  go_at_call 15
                  refine (V2.out _).mono ?_
                  rintro e rr12 ⟨rfl, b9⟩
                  replace H9 := H9.trans (b9.mono H9.size)
                  replace Z_A := Z_A.keep b9
                  clear b9
                  try go_wp2_with fail
                  refine hK.out _ _ (fun b o h => H9.cell (p := ⟨b, o, none⟩) h) (fun hHeld => ?_)
                  clear hK K hHeld
                  try simp only [Act.put, List.setIfInBounds_toArray, List.set_cons_zero, List.set_cons_succ]
                  refine wpAnyH_ready (rs := [10]) (by kernel_rfl) (by simp) ?_
                  refine AllReadyH.cons (o := _) rfl (fun K hK => ?_) ?_
                  · skip
                    go_simp
                    obtain ⟨rr13, e9⟩ : ∃ q, (rr12.alloc (.cells #[.int .u64 0, .int .u64 0, .int .u64 0, .int .u64 0] 23)) = q := ⟨_, rfl⟩
                    rw [e9]
                    have g_C : v5.heap.size ≤ rr12.heap.size := H9.size
                    have n_A_C : ¬ rr1.heap.size = rr12.heap.size := Nat.ne_of_lt Z_A.lt
                    have n_C_A : ¬ rr12.heap.size = rr1.heap.size := (Nat.ne_of_lt Z_A.lt).symm
                    replace Z_A := blk_to e9 (Z_A.alloc (.cells #[.int .u64 0, .int .u64 0, .int .u64 0, .int .u64 0] 23))
                    have Z_C : Blk rr13 (rr12.heap.size) 23 [.int .u64 0, .int .u64 0, .int .u64 0, .int .u64 0] := blk_to e9 (Blk.new (w := rr12) (xs := [.int .u64 0, .int .u64 0, .int .u64 0, .int .u64 0]) (t := 23) rfl)
                    replace H9 := below_to e9 (H9.alloc H9.size (.cells #[.int .u64 0, .int .u64 0, .int .u64 0, .int .u64 0] 23))
                    clear e9
                    refine hK.out _ _ (fun b o h => H9.cell (p := ⟨b, o, none⟩) h) (fun hHeld => ?_)
                    clear hK K hHeld
                    try simp only [Act.put, List.setIfInBounds_toArray, List.set_cons_zero, List.set_cons_succ]
                    refine wpAnyH_ready (rs := [11]) (by kernel_rfl) (by simp) ?_
                    refine AllReadyH.cons (o := _) rfl (fun K hK => ?_) ?_
                    · skip
                      have s_l := Z_A.lt
                      have s_c0 := Z_A.cell (i := 0) rfl
                      have s_c1 := Z_A.cell (i := 1) rfl
                      have s_c2 := Z_A.cell (i := 2) rfl
                      have s_c3 := Z_A.cell (i := 3) rfl
                      have s_f0 := Z_A.frozen 0
                      have s_f1 := Z_A.frozen 1
                      have s_f2 := Z_A.frozen 2
                      have s_f3 := Z_A.frozen 3
                      go_simp
                      clear s_l s_c0 s_f0 s_c1 s_f1 s_c2 s_f2 s_c3 s_f3
                      obtain ⟨rr14, e9⟩ : ∃ q, ((((rr13.setCell ⟨rr1.heap.size, 0, none⟩ (.int .u64 (limb x 0 : Int))).setCell ⟨rr1.heap.size, 1, none⟩ (.int .u64 (limb x 1 : Int))).setCell ⟨rr1.heap.size, 2, none⟩ (.int .u64 (limb x 2 : Int))).setCell ⟨rr1.heap.size, 3, none⟩ (.int .u64 (limb x 3 : Int))) = q := ⟨_, rfl⟩
                      rw [e9]
                      replace Z_A := blk_to e9 (Z_A.set4 (.int .u64 (limb x 0 : Int)) (.int .u64 (limb x 1 : Int)) (.int .u64 (limb x 2 : Int)) (.int .u64 (limb x 3 : Int)))
                      replace Z_C := blk_to e9 (Z_C.other4 n_C_A (.int .u64 (limb x 0 : Int)) (.int .u64 (limb x 1 : Int)) (.int .u64 (limb x 2 : Int)) (.int .u64 (limb x 3 : Int)))
                      replace H9 := below_to e9 (below_set4 H9 g_A (.int .u64 (limb x 0 : Int)) (.int .u64 (limb x 1 : Int)) (.int .u64 (limb x 2 : Int)) (.int .u64 (limb x 3 : Int)))
                      clear e9
                      refine hK.out _ _ (fun b o h => H9.cell (p := ⟨b, o, none⟩) h) (fun hHeld => ?_)
                      clear hK K hHeld
                      try simp only [Act.put, List.setIfInBounds_toArray, List.set_cons_zero, List.set_cons_succ]
                      refine wpAnyH_ready (rs := [12]) (by kernel_rfl) (by simp) ?_
                      refine AllReadyH.cons (o := _) rfl (fun K hK => ?_) ?_
                      · skip
                        have s_l := Z_C.lt
                        have s_c0 := Z_C.cell (i := 0) rfl
                        have s_c1 := Z_C.cell (i := 1) rfl
                        have s_c2 := Z_C.cell (i := 2) rfl
                        have s_c3 := Z_C.cell (i := 3) rfl
                        have s_f0 := Z_C.frozen 0
                        have s_f1 := Z_C.frozen 1
                        have s_f2 := Z_C.frozen 2
                        have s_f3 := Z_C.frozen 3
                        go_simp
                        clear s_l s_c0 s_f0 s_c1 s_f1 s_c2 s_f2 s_c3 s_f3
                        obtain ⟨rr15, e9⟩ : ∃ q, ((((rr14.setCell ⟨rr12.heap.size, 0, none⟩ (.int .u64 (limb y 0 : Int))).setCell ⟨rr12.heap.size, 1, none⟩ (.int .u64 (limb y 1 : Int))).setCell ⟨rr12.heap.size, 2, none⟩ (.int .u64 (limb y 2 : Int))).setCell ⟨rr12.heap.size, 3, none⟩ (.int .u64 (limb y 3 : Int))) = q := ⟨_, rfl⟩
                        rw [e9]
                        replace Z_A := blk_to e9 (Z_A.other4 n_A_C (.int .u64 (limb y 0 : Int)) (.int .u64 (limb y 1 : Int)) (.int .u64 (limb y 2 : Int)) (.int .u64 (limb y 3 : Int)))
                        replace Z_C := blk_to e9 (Z_C.set4 (.int .u64 (limb y 0 : Int)) (.int .u64 (limb y 1 : Int)) (.int .u64 (limb y 2 : Int)) (.int .u64 (limb y 3 : Int)))
                        replace H9 := below_to e9 (below_set4 H9 g_C (.int .u64 (limb y 0 : Int)) (.int .u64 (limb y 1 : Int)) (.int .u64 (limb y 2 : Int)) (.int .u64 (limb y 3 : Int)))
                        clear e9
                        refine hK.out _ _ (fun b o h => H9.cell (p := ⟨b, o, none⟩) h) (fun hHeld => ?_)
                        clear hK K hHeld
                        try simp only [Act.put, List.setIfInBounds_toArray, List.set_cons_zero, List.set_cons_succ]
                        refine wpAnyH_done (by kernel_rfl) ?_ _
                        try refine NoPanic.normal ?_
                        go_wp2_with (fail)
                        go_meet
                        exact ⟨_, _, rfl, rfl, Z_A, Z_C, n_A_C, g_A, g_C, H9⟩
                      exact AllReadyH.nil
                    exact AllReadyH.nil
                  exact AllReadyH.nil
                refine AllReadyH.cons (o := _) rfl (fun K hK => ?_) ?_
                · skip
                  go_simp
                  obtain ⟨rr16, e9⟩ : ∃ q, (rr11.alloc (.cells #[.int .u64 0, .int .u64 0, .int .u64 0, .int .u64 0] 23)) = q := ⟨_, rfl⟩
                  rw [e9]
                  have g_C : v5.heap.size ≤ rr11.heap.size := H9.size
                  have n_A_C : ¬ rr1.heap.size = rr11.heap.size := Nat.ne_of_lt Z_A.lt
                  have n_C_A : ¬ rr11.heap.size = rr1.heap.size := (Nat.ne_of_lt Z_A.lt).symm
                  replace Z_A := blk_to e9 (Z_A.alloc (.cells #[.int .u64 0, .int .u64 0, .int .u64 0, .int .u64 0] 23))
                  have Z_C : Blk rr16 (rr11.heap.size) 23 [.int .u64 0, .int .u64 0, .int .u64 0, .int .u64 0] := blk_to e9 (Blk.new (w := rr11) (xs := [.int .u64 0, .int .u64 0, .int .u64 0, .int .u64 0]) (t := 23) rfl)
                  replace H9 := below_to e9 (H9.alloc H9.size (.cells #[.int .u64 0, .int .u64 0, .int .u64 0, .int .u64 0] 23))
                  clear e9
                  refine hK.out _ _ (fun b o h => H9.cell (p := ⟨b, o, none⟩) h) (fun hHeld => ?_)
                  clear hK K hHeld
                  try simp only [Act.put, List.setIfInBounds_toArray, List.set_cons_zero, List.set_cons_succ]
                  refine wpAnyH_ready (rs := [8]) (by kernel_rfl) (by simp) ?_
                  refine AllReadyH.cons (o := _) rfl (fun K hK => ?_) ?_
                  · skip
                    go_simp
                    go_at_call 15
                    refine (V2.out _).mono ?_
                    rintro e rr17 ⟨rfl, b9⟩
                    replace H9 := H9.trans (b9.mono H9.size)
                    replace Z_A := Z_A.keep b9
                    replace Z_C := Z_C.keep b9
                    clear b9
                    try go_wp2_with fail
                    refine hK.out _ _ (fun b o h => H9.cell (p := ⟨b, o, none⟩) h) (fun hHeld => ?_)
                    clear hK K hHeld
                    try simp only [Act.put, List.setIfInBounds_toArray, List.set_cons_zero, List.set_cons_succ]
                    refine wpAnyH_ready (rs := [11]) (by kernel_rfl) (by simp) ?_
                    refine AllReadyH.cons (o := _) rfl (fun K hK => ?_) ?_
                    · skip
                      have s_l := Z_A.lt
                      have s_c0 := Z_A.cell (i := 0) rfl
                      have s_c1 := Z_A.cell (i := 1) rfl
                      have s_c2 := Z_A.cell (i := 2) rfl
                      have s_c3 := Z_A.cell (i := 3) rfl
                      have s_f0 := Z_A.frozen 0
                      have s_f1 := Z_A.frozen 1
                      have s_f2 := Z_A.frozen 2
                      have s_f3 := Z_A.frozen 3
                      go_simp
                      clear s_l s_c0 s_f0 s_c1 s_f1 s_c2 s_f2 s_c3 s_f3
                      obtain ⟨rr18, e9⟩ : ∃ q, ((((rr17.setCell ⟨rr1.heap.size, 0, none⟩ (.int .u64 (limb x 0 : Int))).setCell ⟨rr1.heap.size, 1, none⟩ (.int .u64 (limb x 1 : Int))).setCell ⟨rr1.heap.size, 2, none⟩ (.int .u64 (limb x 2 : Int))).setCell ⟨rr1.heap.size, 3, none⟩ (.int .u64 (limb x 3 : Int))) = q := ⟨_, rfl⟩
                      rw [e9]
                      replace Z_A := blk_to e9 (Z_A.set4 (.int .u64 (limb x 0 : Int)) (.int .u64 (limb x 1 : Int)) (.int .u64 (limb x 2 : Int)) (.int .u64 (limb x 3 : Int)))
                      replace Z_C := blk_to e9 (Z_C.other4 n_C_A (.int .u64 (limb x 0 : Int)) (.int .u64 (limb x 1 : Int)) (.int .u64 (limb x 2 : Int)) (.int .u64 (limb x 3 : Int)))
                      replace H9 := below_to e9 (below_set4 H9 g_A (.int .u64 (limb x 0 : Int)) (.int .u64 (limb x 1 : Int)) (.int .u64 (limb x 2 : Int)) (.int .u64 (limb x 3 : Int)))
                      clear e9
                      refine hK.out _ _ (fun b o h => H9.cell (p := ⟨b, o, none⟩) h) (fun hHeld => ?_)
                      clear hK K hHeld
                      try simp only [Act.put, List.setIfInBounds_toArray, List.set_cons_zero, List.set_cons_succ]
                      refine wpAnyH_ready (rs := [12]) (by kernel_rfl) (by simp) ?_
                      refine AllReadyH.cons (o := _) rfl (fun K hK => ?_) ?_
                      · skip
                        have s_l := Z_C.lt
                        have s_c0 := Z_C.cell (i := 0) rfl
                        have s_c1 := Z_C.cell (i := 1) rfl
                        have s_c2 := Z_C.cell (i := 2) rfl
                        have s_c3 := Z_C.cell (i := 3) rfl
                        have s_f0 := Z_C.frozen 0
                        have s_f1 := Z_C.frozen 1
                        have s_f2 := Z_C.frozen 2
                        have s_f3 := Z_C.frozen 3
                        go_simp
                        clear s_l s_c0 s_f0 s_c1 s_f1 s_c2 s_f2 s_c3 s_f3
                        obtain ⟨rr19, e9⟩ : ∃ q, ((((rr18.setCell ⟨rr11.heap.size, 0, none⟩ (.int .u64 (limb y 0 : Int))).setCell ⟨rr11.heap.size, 1, none⟩ (.int .u64 (limb y 1 : Int))).setCell ⟨rr11.heap.size, 2, none⟩ (.int .u64 (limb y 2 : Int))).setCell ⟨rr11.heap.size, 3, none⟩ (.int .u64 (limb y 3 : Int))) = q := ⟨_, rfl⟩
                        rw [e9]
                        replace Z_A := blk_to e9 (Z_A.other4 n_A_C (.int .u64 (limb y 0 : Int)) (.int .u64 (limb y 1 : Int)) (.int .u64 (limb y 2 : Int)) (.int .u64 (limb y 3 : Int)))
                        replace Z_C := blk_to e9 (Z_C.set4 (.int .u64 (limb y 0 : Int)) (.int .u64 (limb y 1 : Int)) (.int .u64 (limb y 2 : Int)) (.int .u64 (limb y 3 : Int)))
                        replace H9 := below_to e9 (below_set4 H9 g_C (.int .u64 (limb y 0 : Int)) (.int .u64 (limb y 1 : Int)) (.int .u64 (limb y 2 : Int)) (.int .u64 (limb y 3 : Int)))
                        clear e9
                        refine hK.out _ _ (fun b o h => H9.cell (p := ⟨b, o, none⟩) h) (fun hHeld => ?_)
                        clear hK K hHeld
                        try simp only [Act.put, List.setIfInBounds_toArray, List.set_cons_zero, List.set_cons_succ]
                        refine wpAnyH_done (by kernel_rfl) ?_ _
                        try refine NoPanic.normal ?_
                        go_wp2_with (fail)
                        go_meet
                        exact ⟨_, _, rfl, rfl, Z_A, Z_C, n_A_C, g_A, g_C, H9⟩
                      exact AllReadyH.nil
                    exact AllReadyH.nil
                  exact AllReadyH.nil
                exact AllReadyH.nil
              refine AllReadyH.cons (o := _) rfl (fun K hK => ?_) ?_
              · skip
                go_simp
                obtain ⟨rr20, e9⟩ : ∃ q, (rr1.alloc (.cells #[.int .u64 0, .int .u64 0, .int .u64 0, .int .u64 0] 23)) = q := ⟨_, rfl⟩
                rw [e9]
                have g_C : v5.heap.size ≤ rr1.heap.size := H9.size
                have Z_C : Blk rr20 (rr1.heap.size) 23 [.int .u64 0, .int .u64 0, .int .u64 0, .int .u64 0] := blk_to e9 (Blk.new (w := rr1) (xs := [.int .u64 0, .int .u64 0, .int .u64 0, .int .u64 0]) (t := 23) rfl)
                replace H9 := below_to e9 (H9.alloc H9.size (.cells #[.int .u64 0, .int .u64 0, .int .u64 0, .int .u64 0] 23))
                clear e9
                refine hK.out _ _ (fun b o h => H9.cell (p := ⟨b, o, none⟩) h) (fun hHeld => ?_)
                clear hK K hHeld
                try simp only [Act.put, List.setIfInBounds_toArray, List.set_cons_zero, List.set_cons_succ]
                refine wpAnyH_ready (rs := [8, 9]) (by kernel_rfl) (by simp) ?_
                refine AllReadyH.cons (o := _) rfl (fun K hK => ?_) ?_
                · skip
                  go_simp
                  go_at_call 15
                  refine (V2.out _).mono ?_
                  rintro e rr21 ⟨rfl, b9⟩
                  replace H9 := H9.trans (b9.mono H9.size)
                  replace Z_C := Z_C.keep b9
                  clear b9
                  try go_wp2_with fail
                  refine hK.out _ _ (fun b o h => H9.cell (p := ⟨b, o, none⟩) h) (fun hHeld => ?_)
                  clear hK K hHeld
                  try simp only [Act.put, List.setIfInBounds_toArray, List.set_cons_zero, List.set_cons_succ]
                  refine wpAnyH_ready (rs := [9]) (by kernel_rfl) (by simp) ?_
                  refine AllReadyH.cons (o := _) rfl (fun K hK => ?_) ?_
                  · skip
                    go_simp
                    obtain ⟨rr22, e9⟩ : ∃ q, (rr21.alloc (.cells #[.int .u64 0, .int .u64 0, .int .u64 0, .int .u64 0] 23)) = q := ⟨_, rfl⟩
                    rw [e9]
                    have g_A : v5.heap.size ≤ rr21.heap.size := H9.size
                    have n_C_A : ¬ rr1.heap.size = rr21.heap.size := Nat.ne_of_lt Z_C.lt
                    have n_A_C : ¬ rr21.heap.size = rr1.heap.size := (Nat.ne_of_lt Z_C.lt).symm
                    replace Z_C := blk_to e9 (Z_C.alloc (.cells #[.int .u64 0, .int .u64 0, .int .u64 0, .int .u64 0] 23))
                    have Z_A : Blk rr22 (rr21.heap.size) 23 [.int .u64 0, .int .u64 0, .int .u64 0, .int .u64 0] := blk_to e9 (Blk.new (w := rr21) (xs := [.int .u64 0, .int .u64 0, .int .u64 0, .int .u64 0]) (t := 23) rfl)
                    replace H9 := below_to e9 (H9.alloc H9.size (.cells #[.int .u64 0, .int .u64 0, .int .u64 0, .int .u64 0] 23))
                    clear e9
                    refine hK.out _ _ (fun b o h => H9.cell (p := ⟨b, o, none⟩) h) (fun hHeld => ?_)
                    clear hK K hHeld
                    try simp only [Act.put, List.setIfInBounds_toArray, List.set_cons_zero, List.set_cons_succ]
                    refine wpAnyH_ready (rs := [11]) (by kernel_rfl) (by simp) ?_
                    refine AllReadyH.cons (o := _) rfl (fun K hK => ?_) ?_
                    · skip
                      have s_l := Z_A.lt
                      have s_c0 := Z_A.cell (i := 0) rfl
                      have s_c1 := Z_A.cell (i := 1) rfl
                      have s_c2 := Z_A.cell (i := 2) rfl
                      have s_c3 := Z_A.cell (i := 3) rfl
                      have s_f0 := Z_A.frozen 0
                      have s_f1 := Z_A.frozen 1
                      have s_f2 := Z_A.frozen 2
                      have s_f3 := Z_A.frozen 3
                      go_simp
                      clear s_l s_c0 s_f0 s_c1 s_f1 s_c2 s_f2 s_c3 s_f3
                      obtain ⟨rr23, e9⟩ : ∃ q, ((((rr22.setCell ⟨rr21.heap.size, 0, none⟩ (.int .u64 (limb x 0 : Int))).setCell ⟨rr21.heap.size, 1, none⟩ (.int .u64 (limb x 1 : Int))).setCell ⟨rr21.heap.size, 2, none⟩ (.int .u64 (limb x 2 : Int))).setCell ⟨rr21.heap.size, 3, none⟩ (.int .u64 (limb x 3 : Int))) = q := ⟨_, rfl⟩
                      rw [e9]
                      replace Z_C := blk_to e9 (Z_C.other4 n_C_A (.int .u64 (limb x 0 : Int)) (.int .u64 (limb x 1 : Int)) (.int .u64 (limb x 2 : Int)) (.int .u64 (limb x 3 : Int)))
                      replace Z_A := blk_to e9 (Z_A.set4 (.int .u64 (limb x 0 : Int)) (.int .u64 (limb x 1 : Int)) (.int .u64 (limb x 2 : Int)) (.int .u64 (limb x 3 : Int)))
                      replace H9 := below_to e9 (below_set4 H9 g_A (.int .u64 (limb x 0 : Int)) (.int .u64 (limb x 1 : Int)) (.int .u64 (limb x 2 : Int)) (.int .u64 (limb x 3 : Int)))
                      clear e9
                      refine hK.out _ _ (fun b o h => H9.cell (p := ⟨b, o, none⟩) h) (fun hHeld => ?_)
                      clear hK K hHeld
                      try simp only [Act.put, List.setIfInBounds_toArray, List.set_cons_zero, List.set_cons_succ]
                      refine wpAnyH_ready (rs := [12]) (by kernel_rfl) (by simp) ?_
                      refine AllReadyH.cons (o := _) rfl (fun K hK => ?_) ?_
                      · skip
                        have s_l := Z_C.lt
                        have s_c0 := Z_C.cell (i := 0) rfl
                        have s_c1 := Z_C.cell (i := 1) rfl
                        have s_c2 := Z_C.cell (i := 2) rfl
                        have s_c3 := Z_C.cell (i := 3) rfl
                        have s_f0 := Z_C.frozen 0
                        have s_f1 := Z_C.frozen 1
                        have s_f2 := Z_C.frozen 2
                        have s_f3 := Z_C.frozen 3
                        go_simp
                        clear s_l s_c0 s_f0 s_c1 s_f1 s_c2 s_f2 s_c3 s_f3
                        obtain ⟨rr24, e9⟩ : ∃ q, ((((rr23.setCell ⟨rr1.heap.size, 0, none⟩ (.int .u64 (limb y 0 : Int))).setCell ⟨rr1.heap.size, 1, none⟩ (.int .u64 (limb y 1 : Int))).setCell ⟨rr1.heap.size, 2, none⟩ (.int .u64 (limb y 2 : Int))).setCell ⟨rr1.heap.size, 3, none⟩ (.int .u64 (limb y 3 : Int))) = q := ⟨_, rfl⟩
                        rw [e9]
                        replace Z_C := blk_to e9 (Z_C.set4 (.int .u64 (limb y 0 : Int)) (.int .u64 (limb y 1 : Int)) (.int .u64 (limb y 2 : Int)) (.int .u64 (limb y 3 : Int)))
                        replace Z_A := blk_to e9 (Z_A.other4 n_A_C (.int .u64 (limb y 0 : Int)) (.int .u64 (limb y 1 : Int)) (.int .u64 (limb y 2 : Int)) (.int .u64 (limb y 3 : Int)))
                        replace H9 := below_to e9 (below_set4 H9 g_C (.int .u64 (limb y 0 : Int)) (.int .u64 (limb y 1 : Int)) (.int .u64 (limb y 2 : Int)) (.int .u64 (limb y 3 : Int)))
                        clear e9
                        refine hK.out _ _ (fun b o h => H9.cell (p := ⟨b, o, none⟩) h) (fun hHeld => ?_)
                        clear hK K hHeld
                        try simp only [Act.put, List.setIfInBounds_toArray, List.set_cons_zero, List.set_cons_succ]
                        refine wpAnyH_done (by kernel_rfl) ?_ _
                        try refine NoPanic.normal ?_
                        go_wp2_with (fail)
                        go_meet
                        exact ⟨_, _, rfl, rfl, Z_A, Z_C, n_A_C, g_A, g_C, H9⟩
                      exact AllReadyH.nil
                    exact AllReadyH.nil
                  exact AllReadyH.nil
                refine AllReadyH.cons (o := _) rfl (fun K hK => ?_) ?_
                · skip
                  go_simp
                  obtain ⟨rr25, e9⟩ : ∃ q, (rr20.alloc (.cells #[.int .u64 0, .int .u64 0, .int .u64 0, .int .u64 0] 23)) = q := ⟨_, rfl⟩
                  rw [e9]
                  have g_A : v5.heap.size ≤ rr20.heap.size := H9.size
                  have n_C_A : ¬ rr1.heap.size = rr20.heap.size := Nat.ne_of_lt Z_C.lt
                  have n_A_C : ¬ rr20.heap.size = rr1.heap.size := (Nat.ne_of_lt Z_C.lt).symm
                  replace Z_C := blk_to e9 (Z_C.alloc (.cells #[.int .u64 0, .int .u64 0, .int .u64 0, .int .u64 0] 23))
                  have Z_A : Blk rr25 (rr20.heap.size) 23 [.int .u64 0, .int .u64 0, .int .u64 0, .int .u64 0] := blk_to e9 (Blk.new (w := rr20) (xs := [.int .u64 0, .int .u64 0, .int .u64 0, .int .u64 0]) (t := 23) rfl)
                  replace H9 := below_to e9 (H9.alloc H9.size (.cells #[.int .u64 0, .int .u64 0, .int .u64 0, .int .u64 0] 23))
                  clear e9
                  refine hK.out _ _ (fun b o h => H9.cell (p := ⟨b, o, none⟩) h) (fun hHeld => ?_)
                  clear hK K hHeld
                  try simp only [Act.put, List.setIfInBounds_toArray, List.set_cons_zero, List.set_cons_succ]
                  refine wpAnyH_ready (rs := [8]) (by kernel_rfl) (by simp) ?_
                  refine AllReadyH.cons (o := _) rfl (fun K hK => ?_) ?_
                  · skip
                    go_simp
                    go_at_call 15
                    refine (V2.out _).mono ?_
                    rintro e rr26 ⟨rfl, b9⟩
                    replace H9 := H9.trans (b9.mono H9.size)
                    replace Z_C := Z_C.keep b9
                    replace Z_A := Z_A.keep b9
                    clear b9
                    try go_wp2_with fail
                    refine hK.out _ _ (fun b o h => H9.cell (p := ⟨b, o, none⟩) h) (fun hHeld => ?_)
                    clear hK K hHeld
                    try simp only [Act.put, List.setIfInBounds_toArray, List.set_cons_zero, List.set_cons_succ]
                    refine wpAnyH_ready (rs := [11]) (by kernel_rfl) (by simp) ?_
                    refine AllReadyH.cons (o := _) rfl (fun K hK => ?_) ?_
                    · skip
                      have s_l := Z_A.lt
                      have s_c0 := Z_A.cell (i := 0) rfl
                      have s_c1 := Z_A.cell (i := 1) rfl
                      have s_c2 := Z_A.cell (i := 2) rfl
                      have s_c3 := Z_A.cell (i := 3) rfl
                      have s_f0 := Z_A.frozen 0
                      have s_f1 := Z_A.frozen 1
                      have s_f2 := Z_A.frozen 2
                      have s_f3 := Z_A.frozen 3
                      go_simp
                      clear s_l s_c0 s_f0 s_c1 s_f1 s_c2 s_f2 s_c3 s_f3
                      obtain ⟨rr27, e9⟩ : ∃ q, ((((rr26.setCell ⟨rr20.heap.size, 0, none⟩ (.int .u64 (limb x 0 : Int))).setCell ⟨rr20.heap.size, 1, none⟩ (.int .u64 (limb x 1 : Int))).setCell ⟨rr20.heap.size, 2, none⟩ (.int .u64 (limb x 2 : Int))).setCell ⟨rr20.heap.size, 3, none⟩ (.int .u64 (limb x 3 : Int))) = q := ⟨_, rfl⟩
                      rw [e9]
                      replace Z_C := blk_to e9 (Z_C.other4 n_C_A (.int .u64 (limb x 0 : Int)) (.int .u64 (limb x 1 : Int)) (.int .u64 (limb x 2 : Int)) (.int .u64 (limb x 3 : Int)))
                      replace Z_A := blk_to e9 (Z_A.set4 (.int .u64 (limb x 0 : Int)) (.int .u64 (limb x 1 : Int)) (.int .u64 (limb x 2 : Int)) (.int .u64 (limb x 3 : Int)))
                      replace H9 := below_to e9 (below_set4 H9 g_A (.int .u64 (limb x 0 : Int)) (.int .u64 (limb x 1 : Int)) (.int .u64 (limb x 2 : Int)) (.int .u64 (limb x 3 : Int)))
                      clear e9
                      refine hK.out _ _ (fun b o h => H9.cell (p := ⟨b, o, none⟩) h) (fun hHeld => ?_)
                      clear hK K hHeld
                      try simp only [Act.put, List.setIfInBounds_toArray, List.set_cons_zero, List.set_cons_succ]
                      refine wpAnyH_ready (rs := [12]) (by kernel_rfl) (by simp) ?_
                      refine AllReadyH.cons (o := _) rfl (fun K hK => ?_) ?_
                      · skip
                        have s_l := Z_C.lt
                        have s_c0 := Z_C.cell (i := 0) rfl
                        have s_c1 := Z_C.cell (i := 1) rfl
                        have s_c2 := Z_C.cell (i := 2) rfl
                        have s_c3 := Z_C.cell (i := 3) rfl
                        have s_f0 := Z_C.frozen 0
                        have s_f1 := Z_C.frozen 1
                        have s_f2 := Z_C.frozen 2
                        have s_f3 := Z_C.frozen 3
                        go_simp
                        clear s_l s_c0 s_f0 s_c1 s_f1 s_c2 s_f2 s_c3 s_f3
                        obtain ⟨rr28, e9⟩ : ∃ q, ((((rr27.setCell ⟨rr1.heap.size, 0, none⟩ (.int .u64 (limb y 0 : Int))).setCell ⟨rr1.heap.size, 1, none⟩ (.int .u64 (limb y 1 : Int))).setCell ⟨rr1.heap.size, 2, none⟩ (.int .u64 (limb y 2 : Int))).setCell ⟨rr1.heap.size, 3, none⟩ (.int .u64 (limb y 3 : Int))) = q := ⟨_, rfl⟩
                        rw [e9]
                        replace Z_C := blk_to e9 (Z_C.set4 (.int .u64 (limb y 0 : Int)) (.int .u64 (limb y 1 : Int)) (.int .u64 (limb y 2 : Int)) (.int .u64 (limb y 3 : Int)))
                        replace Z_A := blk_to e9 (Z_A.other4 n_A_C (.int .u64 (limb y 0 : Int)) (.int .u64 (limb y 1 : Int)) (.int .u64 (limb y 2 : Int)) (.int .u64 (limb y 3 : Int)))
                        replace H9 := below_to e9 (below_set4 H9 g_C (.int .u64 (limb y 0 : Int)) (.int .u64 (limb y 1 : Int)) (.int .u64 (limb y 2 : Int)) (.int .u64 (limb y 3 : Int)))
                        clear e9
                        refine hK.out _ _ (fun b o h => H9.cell (p := ⟨b, o, none⟩) h) (fun hHeld => ?_)
                        clear hK K hHeld
                        try simp only [Act.put, List.setIfInBounds_toArray, List.set_cons_zero, List.set_cons_succ]
                        refine wpAnyH_done (by kernel_rfl) ?_ _
                        try refine NoPanic.normal ?_
                        go_wp2_with (fail)
                        go_meet
                        exact ⟨_, _, rfl, rfl, Z_A, Z_C, n_A_C, g_A, g_C, H9⟩
                      exact AllReadyH.nil
                    exact AllReadyH.nil
                  exact AllReadyH.nil
                exact AllReadyH.nil
              exact AllReadyH.nil
            refine AllReadyH.cons (o := _) rfl (fun K hK => ?_) ?_
            · skip
              go_simp
              obtain ⟨rr29, e9⟩ : ∃ q, (v5.alloc (.cells #[.int .u64 0, .int .u64 0, .int .u64 0, .int .u64 0] 23)).drew = q := ⟨_, rfl⟩
              rw [e9]
              have g_A : v5.heap.size ≤ v5.heap.size := H9.size
              have Z_A : Blk rr29 (v5.heap.size) 23 [.int .u64 0, .int .u64 0, .int .u64 0, .int .u64 0] := blk_to e9 (Blk.drew (Blk.new (w := v5) (xs := [.int .u64 0, .int .u64 0, .int .u64 0, .int .u64 0]) (t := 23) rfl))
              replace H9 := below_to e9 (((Below.refl v5.heap.size v5).alloc (Nat.le_refl _) (.cells #[.int .u64 0, .int .u64 0, .int .u64 0, .int .u64 0] 23)).drew)
              clear e9
              refine hK.out _ _ (fun b o h => H9.cell (p := ⟨b, o, none⟩) h) (fun hHeld => ?_)
              clear hK K hHeld
              try simp only [Act.put, List.setIfInBounds_toArray, List.set_cons_zero, List.set_cons_succ]
              refine wpAnyH_ready (rs := [5, 10]) (by kernel_rfl) (by simp) ?_
              refine AllReadyH.cons (o := _) rfl (fun K hK => ?_) ?_
              · skip
                go_simp
                go_at_call 15
                refine (V1.out _).mono ?_
                rintro e rr30 ⟨rfl, b9⟩
                replace H9 := H9.trans (b9.mono H9.size)
                replace Z_A := Z_A.keep b9
                clear b9
                try go_wp2_with fail
                refine hK.out _ _ (fun b o h => H9.cell (p := ⟨b, o, none⟩) h) (fun hHeld => ?_)
                clear hK K hHeld
                try simp only [Act.put, List.setIfInBounds_toArray, List.set_cons_zero, List.set_cons_succ]
                refine wpAnyH_ready (rs := [8, 10]) (by kernel_rfl) (by simp) ?_
                refine AllReadyH.cons (o := _) rfl (fun K hK => ?_) ?_
                · skip
                  go_simp
                  go_at_call 15
                  refine (V2.out _).mono ?_
                  rintro e rr31 ⟨rfl, b9⟩
                  replace H9 := H9.trans (b9.mono H9.size)
                  replace Z_A := Z_A.keep b9
                  clear b9
                  try go_wp2_with fail
                  refine hK.out _ _ (fun b o h => H9.cell (p := ⟨b, o, none⟩) h) (fun hHeld => ?_)
                  clear hK K hHeld
                  try simp only [Act.put, List.setIfInBounds_toArray, List.set_cons_zero, List.set_cons_succ]
                  refine wpAnyH_ready (rs := [10]) (by kernel_rfl) (by simp) ?_
                  refine AllReadyH.cons (o := _) rfl (fun K hK => ?_) ?_
                  · skip
                    go_simp
                    obtain ⟨rr32, e9⟩ : ∃ q, (rr31.alloc (.cells #[.int .u64 0, .int .u64 0, .int .u64 0, .int .u64 0] 23)) = q := ⟨_, rfl⟩
                    rw [e9]
                    have g_C : v5.heap.size ≤ rr31.heap.size := H9.size
                    have n_A_C : ¬ v5.heap.size = rr31.heap.size := Nat.ne_of_lt Z_A.lt
                    have n_C_A : ¬ rr31.heap.size = v5.heap.size := (Nat.ne_of_lt Z_A.lt).symm
                    replace Z_A := blk_to e9 (Z_A.alloc (.cells #[.int .u64 0, .int .u64 0, .int .u64 0, .int .u64 0] 23))
                    have Z_C : Blk rr32 (rr31.heap.size) 23 [.int .u64 0, .int .u64 0, .int .u64 0, .int .u64 0] := blk_to e9 (Blk.new (w := rr31) (xs := [.int .u64 0, .int .u64 0, .int .u64 0, .int .u64 0]) (t := 23) rfl)
                    replace H9 := below_to e9 (H9.alloc H9.size (.cells #[.int .u64 0, .int .u64 0, .int .u64 0, .int .u64 0] 23))
                    clear e9
                    refine hK.out _ _ (fun b o h => H9.cell (p := ⟨b, o, none⟩) h) (fun hHeld => ?_)
                    clear hK K hHeld
                    try simp only [Act.put, List.setIfInBounds_toArray, List.set_cons_zero, List.set_cons_succ]
                    refine wpAnyH_ready (rs := [11]) (by kernel_rfl) (by simp) ?_
                    refine AllReadyH.cons (o := _) rfl (fun K hK => ?_) ?_
                    · skip
                      have s_l := Z_A.lt
                      have s_c0 := Z_A.cell (i := 0) rfl
                      have s_c1 := Z_A.cell (i := 1) rfl
                      have s_c2 := Z_A.cell (i := 2) rfl
                      have s_c3 := Z_A.cell (i := 3) rfl
                      have s_f0 := Z_A.frozen 0
                      have s_f1 := Z_A.frozen 1
                      have s_f2 := Z_A.frozen 2
                      have s_f3 := Z_A.frozen 3
                      go_simp
                      clear s_l s_c0 s_f0 s_c1 s_f1 s_c2 s_f2 s_c3 s_f3
                      obtain ⟨rr33, e9⟩ : ∃ q, ((((rr32.setCell ⟨v5.heap.size, 0, none⟩ (.int .u64 (limb x 0 : Int))).setCell ⟨v5.heap.size, 1, none⟩ (.int .u64 (limb x 1 : Int))).setCell ⟨v5.heap.size, 2, none⟩ (.int .u64 (limb x 2 : Int))).setCell ⟨v5.heap.size, 3, none⟩ (.int .u64 (limb x 3 : Int))) = q := ⟨_, rfl⟩
                      rw [e9]
                      replace Z_A := blk_to e9 (Z_A.set4 (.int .u64 (limb x 0 : Int)) (.int .u64 (limb x 1 : Int)) (.int .u64 (limb x 2 : Int)) (.int .u64 (limb x 3 : Int)))
                      replace Z_C := blk_to e9 (Z_C.other4 n_C_A (.int .u64 (limb x 0 : Int)) (.int .u64 (limb x 1 : Int)) (.int .u64 (limb x 2 : Int)) (.int .u64 (limb x 3 : Int)))
                      replace H9 := below_to e9 (below_set4 H9 g_A (.int .u64 (limb x 0 : Int)) (.int .u64 (limb x 1 : Int)) (.int .u64 (limb x 2 : Int)) (.int .u64 (limb x 3 : Int)))
                      clear e9
                      refine hK.out _ _ (fun b o h => H9.cell (p := ⟨b, o, none⟩) h) (fun hHeld => ?_)
                      clear hK K hHeld
                      try simp only [Act.put, List.setIfInBounds_toArray, List.set_cons_zero, List.set_cons_succ]
                      refine wpAnyH_ready (rs := [12]) (by kernel_rfl) (by simp) ?_
                      refine AllReadyH.cons (o := _) rfl (fun K hK => ?_) ?_
                      · skip
                        have s_l := Z_C.lt
                        have s_c0 := Z_C.cell (i := 0) rfl
                        have s_c1 := Z_C.cell (i := 1) rfl
                        have s_c2 := Z_C.cell (i := 2) rfl
                        have s_c3 := Z_C.cell (i := 3) rfl
                        have s_f0 := Z_C.frozen 0
                        have s_f1 := Z_C.frozen 1
                        have s_f2 := Z_C.frozen 2
                        have s_f3 := Z_C.frozen 3
                        go_simp
                        clear s_l s_c0 s_f0 s_c1 s_f1 s_c2 s_f2 s_c3 s_f3
                        obtain ⟨rr34, e9⟩ : ∃ q, ((((rr33.setCell ⟨rr31.heap.size, 0, none⟩ (.int .u64 (limb y 0 : Int))).setCell ⟨rr31.heap.size, 1, none⟩ (.int .u64 (limb y 1 : Int))).setCell ⟨rr31.heap.size, 2, none⟩ (.int .u64 (limb y 2 : Int))).setCell ⟨rr31.heap.size, 3, none⟩ (.int .u64 (limb y 3 : Int))) = q := ⟨_, rfl⟩
                        rw [e9]
                        replace Z_A := blk_to e9 (Z_A.other4 n_A_C (.int .u64 (limb y 0 : Int)) (.int .u64 (limb y 1 : Int)) (.int .u64 (limb y 2 : Int)) (.int .u64 (limb y 3 : Int)))
                        replace Z_C := blk_to e9 (Z_C.set4 (.int .u64 (limb y 0 : Int)) (.int .u64 (limb y 1 : Int)) (.int .u64 (limb y 2 : Int)) (.int .u64 (limb y 3 : Int)))
                        replace H9 := below_to e9 (below_set4 H9 g_C (.int .u64 (limb y 0 : Int)) (.int .u64 (limb y 1 : Int)) (.int .u64 (limb y 2 : Int)) (.int .u64 (limb y 3 : Int)))
                        clear e9
                        refine hK.out _ _ (fun b o h => H9.cell (p := ⟨b, o, none⟩) h) (fun hHeld => ?_)
                        clear hK K hHeld
                        try simp only [Act.put, List.setIfInBounds_toArray, List.set_cons_zero, List.set_cons_succ]
                        refine wpAnyH_done (by kernel_rfl) ?_ _
                        try refine NoPanic.normal ?_
                        go_wp2_with (fail)
                        go_meet
                        exact ⟨_, _, rfl, rfl, Z_A, Z_C, n_A_C, g_A, g_C, H9⟩
                      exact AllReadyH.nil
                    exact AllReadyH.nil
                  exact AllReadyH.nil
                refine AllReadyH.cons (o := _) rfl (fun K hK => ?_) ?_
                · skip
                  go_simp
                  obtain ⟨rr35, e9⟩ : ∃ q, (rr30.alloc (.cells #[.int .u64 0, .int .u64 0, .int .u64 0, .int .u64 0] 23)) = q := ⟨_, rfl⟩
                  rw [e9]
                  have g_C : v5.heap.size ≤ rr30.heap.size := H9.size
                  have n_A_C : ¬ v5.heap.size = rr30.heap.size := Nat.ne_of_lt Z_A.lt
                  have n_C_A : ¬ rr30.heap.size = v5.heap.size := (Nat.ne_of_lt Z_A.lt).symm
                  replace Z_A := blk_to e9 (Z_A.alloc (.cells #[.int .u64 0, .int .u64 0, .int .u64 0, .int .u64 0] 23))
                  have Z_C : Blk rr35 (rr30.heap.size) 23 [.int .u64 0, .int .u64 0, .int .u64 0, .int .u64 0] := blk_to e9 (Blk.new (w := rr30) (xs := [.int .u64 0, .int .u64 0, .int .u64 0, .int .u64 0]) (t := 23) rfl)
                  replace H9 := below_to e9 (H9.alloc H9.size (.cells #[.int .u64 0, .int .u64 0, .int .u64 0, .int .u64 0] 23))
                  clear e9
                  refine hK.out _ _ (fun b o h => H9.cell (p := ⟨b, o, none⟩) h) (fun hHeld => ?_)
                  clear hK K hHeld
                  try simp only [Act.put, List.setIfInBounds_toArray, List.set_cons_zero, List.set_cons_succ]
                  refine wpAnyH_ready (rs := [8]) (by kernel_rfl) (by simp) ?_
                  refine AllReadyH.cons (o := _) rfl (fun K hK => ?_) ?_
                  · skip
                    go_simp
                    go_at_call 15
                    refine (V2.out _).mono ?_
                    rintro e rr36 ⟨rfl, b9⟩
                    replace H9 := H9.trans (b9.mono H9.size)
                    replace Z_A := Z_A.keep b9
                    replace Z_C := Z_C.keep b9
                    clear b9
                    try go_wp2_with fail
                    refine hK.out _ _ (fun b o h => H9.cell (p := ⟨b, o, none⟩) h) (fun hHeld => ?_)
                    clear hK K hHeld
                    try simp only [Act.put, List.setIfInBounds_toArray, List.set_cons_zero, List.set_cons_succ]
                    refine wpAnyH_ready (rs := [11]) (by kernel_rfl) (by simp) ?_
                    refine AllReadyH.cons (o := _) rfl (fun K hK => ?_) ?_
                    · skip
                      have s_l := Z_A.lt
                      have s_c0 := Z_A.cell (i := 0) rfl
                      have s_c1 := Z_A.cell (i := 1) rfl
                      have s_c2 := Z_A.cell (i := 2) rfl
                      have s_c3 := Z_A.cell (i := 3) rfl
                      have s_f0 := Z_A.frozen 0
                      have s_f1 := Z_A.frozen 1
                      have s_f2 := Z_A.frozen 2
                      have s_f3 := Z_A.frozen 3
                      go_simp
                      clear s_l s_c0 s_f0 s_c1 s_f1 s_c2 s_f2 s_c3 s_f3
                      obtain ⟨rr37, e9⟩ : ∃ q, ((((rr36.setCell ⟨v5.heap.size, 0, none⟩ (.int .u64 (limb x 0 : Int))).setCell ⟨v5.heap.size, 1, none⟩ (.int .u64 (limb x 1 : Int))).setCell ⟨v5.heap.size, 2, none⟩ (.int .u64 (limb x 2 : Int))).setCell ⟨v5.heap.size, 3, none⟩ (.int .u64 (limb x 3 : Int))) = q := ⟨_, rfl⟩
                      rw [e9]
                      replace Z_A := blk_to e9 (Z_A.set4 (.int .u64 (limb x 0 : Int)) (.int .u64 (limb x 1 : Int)) (.int .u64 (limb x 2 : Int)) (.int .u64 (limb x 3 : Int)))
                      replace Z_C := blk_to e9 (Z_C.other4 n_C_A (.int .u64 (limb x 0 : Int)) (.int .u64 (limb x 1 : Int)) (.int .u64 (limb x 2 : Int)) (.int .u64 (limb x 3 : Int)))
                      replace H9 := below_to e9 (below_set4 H9 g_A (.int .u64 (limb x 0 : Int)) (.int .u64 (limb x 1 : Int)) (.int .u64 (limb x 2 : Int)) (.int .u64 (limb x 3 : Int)))
                      clear e9
                      refine hK.out _ _ (fun b o h => H9.cell (p := ⟨b, o, none⟩) h) (fun hHeld => ?_)
                      clear hK K hHeld
                      try simp only [Act.put, List.setIfInBounds_toArray, List.set_cons_zero, List.set_cons_succ]
                      refine wpAnyH_ready (rs := [12]) (by kernel_rfl) (by simp) ?_
                      refine AllReadyH.cons (o := _) rfl (fun K hK => ?_) ?_
                      · skip
                        have s_l := Z_C.lt
                        have s_c0 := Z_C.cell (i := 0) rfl
                        have s_c1 := Z_C.cell (i := 1) rfl
                        have s_c2 := Z_C.cell (i := 2) rfl
                        have s_c3 := Z_C.cell (i := 3) rfl
                        have s_f0 := Z_C.frozen 0
                        have s_f1 := Z_C.frozen 1
                        have s_f2 := Z_C.frozen 2
                        have s_f3 := Z_C.frozen 3
                        go_simp
                        clear s_l s_c0 s_f0 s_c1 s_f1 s_c2 s_f2 s_c3 s_f3
                        obtain ⟨rr38, e9⟩ : ∃ q, ((((rr37.setCell ⟨rr30.heap.size, 0, none⟩ (.int .u64 (limb y 0 : Int))).setCell ⟨rr30.heap.size, 1, none⟩ (.int .u64 (limb y 1 : Int))).setCell ⟨rr30.heap.size, 2, none⟩ (.int .u64 (limb y 2 : Int))).setCell ⟨rr30.heap.size, 3, none⟩ (.int .u64 (limb y 3 : Int))) = q := ⟨_, rfl⟩
                        rw [e9]
                        replace Z_A := blk_to e9 (Z_A.other4 n_A_C (.int .u64 (limb y 0 : Int)) (.int .u64 (limb y 1 : Int)) (.int .u64 (limb y 2 : Int)) (.int .u64 (limb y 3 : Int)))
                        replace Z_C := blk_to e9 (Z_C.set4 (.int .u64 (limb y 0 : Int)) (.int .u64 (limb y 1 : Int)) (.int .u64 (limb y 2 : Int)) (.int .u64 (limb y 3 : Int)))
                        replace H9 := below_to e9 (below_set4 H9 g_C (.int .u64 (limb y 0 : Int)) (.int .u64 (limb y 1 : Int)) (.int .u64 (limb y 2 : Int)) (.int .u64 (limb y 3 : Int)))
                        clear e9
                        refine hK.out _ _ (fun b o h => H9.cell (p := ⟨b, o, none⟩) h) (fun hHeld => ?_)
                        clear hK K hHeld
                        try simp only [Act.put, List.setIfInBounds_toArray, List.set_cons_zero, List.set_cons_succ]
                        refine wpAnyH_done (by kernel_rfl) ?_ _
                        try refine NoPanic.normal ?_
                        go_wp2_with (fail)
                        go_meet
                        exact ⟨_, _, rfl, rfl, Z_A, Z_C, n_A_C, g_A, g_C, H9⟩
                      exact AllReadyH.nil
                    exact AllReadyH.nil
                  exact AllReadyH.nil
                exact AllReadyH.nil
              refine AllReadyH.cons (o := _) rfl (fun K hK => ?_) ?_
              · skip
                go_simp
                obtain ⟨rr39, e9⟩ : ∃ q, (rr29.alloc (.cells #[.int .u64 0, .int .u64 0, .int .u64 0, .int .u64 0] 23)) = q := ⟨_, rfl⟩
                rw [e9]
                have g_C : v5.heap.size ≤ rr29.heap.size := H9.size
                have n_A_C : ¬ v5.heap.size = rr29.heap.size := Nat.ne_of_lt Z_A.lt
                have n_C_A : ¬ rr29.heap.size = v5.heap.size := (Nat.ne_of_lt Z_A.lt).symm
                replace Z_A := blk_to e9 (Z_A.alloc (.cells #[.int .u64 0, .int .u64 0, .int .u64 0, .int .u64 0] 23))
                have Z_C : Blk rr39 (rr29.heap.size) 23 [.int .u64 0, .int .u64 0, .int .u64 0, .int .u64 0] := blk_to e9 (Blk.new (w := rr29) (xs := [.int .u64 0, .int .u64 0, .int .u64 0, .int .u64 0]) (t := 23) rfl)
                replace H9 := below_to e9 (H9.alloc H9.size (.cells #[.int .u64 0, .int .u64 0, .int .u64 0, .int .u64 0] 23))
                clear e9
                refine hK.out _ _ (fun b o h => H9.cell (p := ⟨b, o, none⟩) h) (fun hHeld => ?_)
                clear hK K hHeld
                try simp only [Act.put, List.setIfInBounds_toArray, List.set_cons_zero, List.set_cons_succ]
                refine wpAnyH_ready (rs := [5]) (by kernel_rfl) (by simp) ?_
                refine AllReadyH.cons (o := _) rfl (fun K hK => ?_) ?_
                · skip
                  go_simp
                  go_at_call 15
                  refine (V1.out _).mono ?_
                  rintro e rr40 ⟨rfl, b9⟩
                  replace H9 := H9.trans (b9.mono H9.size)
                  replace Z_A := Z_A.keep b9
                  replace Z_C := Z_C.keep b9
                  clear b9
                  try go_wp2_with fail
                  refine hK.out _ _ (fun b o h => H9.cell (p := ⟨b, o, none⟩) h) (fun hHeld => ?_)
                  clear hK K hHeld
                  try simp only [Act.put, List.setIfInBounds_toArray, List.set_cons_zero, List.set_cons_succ]
                  refine wpAnyH_ready (rs := [8]) (by kernel_rfl) (by simp) ?_
                  refine AllReadyH.cons (o := _) rfl (fun K hK => ?_) ?_
                  · skip
                    go_simp
                    go_at_call 15
                    refine (V2.out _).mono ?_
                    rintro e rr41 ⟨rfl, b9⟩
                    replace H9 := H9.trans (b9.mono H9.size)
                    replace Z_A := Z_A.keep b9
                    replace Z_C := Z_C.keep b9
                    clear b9
                    try go_wp2_with fail
                    refine hK.out _ _ (fun b o h => H9.cell (p := ⟨b, o, none⟩) h) (fun hHeld => ?_)
                    clear hK K hHeld
                    try simp only [Act.put, List.setIfInBounds_toArray, List.set_cons_zero, List.set_cons_succ]
                    refine wpAnyH_ready (rs := [11]) (by kernel_rfl) (by simp) ?_
                    refine AllReadyH.cons (o := _) rfl (fun K hK => ?_) ?_
                    · skip
                      have s_l := Z_A.lt
                      have s_c0 := Z_A.cell (i := 0) rfl
                      have s_c1 := Z_A.cell (i := 1) rfl
                      have s_c2 := Z_A.cell (i := 2) rfl
                      have s_c3 := Z_A.cell (i := 3) rfl
                      have s_f0 := Z_A.frozen 0
                      have s_f1 := Z_A.frozen 1
                      have s_f2 := Z_A.frozen 2
                      have s_f3 := Z_A.frozen 3
                      go_simp
                      clear s_l s_c0 s_f0 s_c1 s_f1 s_c2 s_f2 s_c3 s_f3
                      obtain ⟨rr42, e9⟩ : ∃ q, ((((rr41.setCell ⟨v5.heap.size, 0, none⟩ (.int .u64 (limb x 0 : Int))).setCell ⟨v5.heap.size, 1, none⟩ (.int .u64 (limb x 1 : Int))).setCell ⟨v5.heap.size, 2, none⟩ (.int .u64 (limb x 2 : Int))).setCell ⟨v5.heap.size, 3, none⟩ (.int .u64 (limb x 3 : Int))) = q := ⟨_, rfl⟩
                      rw [e9]
                      replace Z_A := blk_to e9 (Z_A.set4 (.int .u64 (limb x 0 : Int)) (.int .u64 (limb x 1 : Int)) (.int .u64 (limb x 2 : Int)) (.int .u64 (limb x 3 : Int)))
                      replace Z_C := blk_to e9 (Z_C.other4 n_C_A (.int .u64 (limb x 0 : Int)) (.int .u64 (limb x 1 : Int)) (.int .u64 (limb x 2 : Int)) (.int .u64 (limb x 3 : Int)))
                      replace H9 := below_to e9 (below_set4 H9 g_A (.int .u64 (limb x 0 : Int)) (.int .u64 (limb x 1 : Int)) (.int .u64 (limb x 2 : Int)) (.int .u64 (limb x 3 : Int)))
                      clear e9
                      refine hK.out _ _ (fun b o h => H9.cell (p := ⟨b, o, none⟩) h) (fun hHeld => ?_)
                      clear hK K hHeld
                      try simp only [Act.put, List.setIfInBounds_toArray, List.set_cons_zero, List.set_cons_succ]
                      refine wpAnyH_ready (rs := [12]) (by kernel_rfl) (by simp) ?_
                      refine AllReadyH.cons (o := _) rfl (fun K hK => ?_) ?_
                      · skip
                        have s_l := Z_C.lt
                        have s_c0 := Z_C.cell (i := 0) rfl
                        have s_c1 := Z_C.cell (i := 1) rfl
                        have s_c2 := Z_C.cell (i := 2) rfl
                        have s_c3 := Z_C.cell (i := 3) rfl
                        have s_f0 := Z_C.frozen 0
                        have s_f1 := Z_C.frozen 1
                        have s_f2 := Z_C.frozen 2
                        have s_f3 := Z_C.frozen 3
                        go_simp
                        clear s_l s_c0 s_f0 s_c1 s_f1 s_c2 s_f2 s_c3 s_f3
                        obtain ⟨rr43, e9⟩ : ∃ q, ((((rr42.setCell ⟨rr29.heap.size, 0, none⟩ (.int .u64 (limb y 0 : Int))).setCell ⟨rr29.heap.size, 1, none⟩ (.int .u64 (limb y 1 : Int))).setCell ⟨rr29.heap.size, 2, none⟩ (.int .u64 (limb y 2 : Int))).setCell ⟨rr29.heap.size, 3, none⟩ (.int .u64 (limb y 3 : Int))) = q := ⟨_, rfl⟩
                        rw [e9]
                        replace Z_A := blk_to e9 (Z_A.other4 n_A_C (.int .u64 (limb y 0 : Int)) (.int .u64 (limb y 1 : Int)) (.int .u64 (limb y 2 : Int)) (.int .u64 (limb y 3 : Int)))
                        replace Z_C := blk_to e9 (Z_C.set4 (.int .u64 (limb y 0 : Int)) (.int .u64 (limb y 1 : Int)) (.int .u64 (limb y 2 : Int)) (.int .u64 (limb y 3 : Int)))
                        replace H9 := below_to e9 (below_set4 H9 g_C (.int .u64 (limb y 0 : Int)) (.int .u64 (limb y 1 : Int)) (.int .u64 (limb y 2 : Int)) (.int .u64 (limb y 3 : Int)))
                        clear e9
                        refine hK.out _ _ (fun b o h => H9.cell (p := ⟨b, o, none⟩) h) (fun hHeld => ?_)
                        clear hK K hHeld
                        try simp only [Act.put, List.setIfInBounds_toArray, List.set_cons_zero, List.set_cons_succ]
                        refine wpAnyH_done (by kernel_rfl) ?_ _
                        try refine NoPanic.normal ?_
                        go_wp2_with (fail)
                        go_meet
                        exact ⟨_, _, rfl, rfl, Z_A, Z_C, n_A_C, g_A, g_C, H9⟩
                      exact AllReadyH.nil
                    exact AllReadyH.nil
                  exact AllReadyH.nil
                exact AllReadyH.nil
              exact AllReadyH.nil
            refine AllReadyH.cons (o := _) rfl (fun K hK => ?_) ?_
            · skip
              go_simp
              obtain ⟨rr44, e9⟩ : ∃ q, (v5.alloc (.cells #[.int .u64 0, .int .u64 0, .int .u64 0, .int .u64 0] 23)).drew = q := ⟨_, rfl⟩
              rw [e9]
              have g_C : v5.heap.size ≤ v5.heap.size := H9.size
              have Z_C : Blk rr44 (v5.heap.size) 23 [.int .u64 0, .int .u64 0, .int .u64 0, .int .u64 0] := blk_to e9 (Blk.drew (Blk.new (w := v5) (xs := [.int .u64 0, .int .u64 0, .int .u64 0, .int .u64 0]) (t := 23) rfl))
              replace H9 := below_to e9 (((Below.refl v5.heap.size v5).alloc (Nat.le_refl _) (.cells #[.int .u64 0, .int .u64 0, .int .u64 0, .int .u64 0] 23)).drew)
              clear e9
              refine hK.out _ _ (fun b o h => H9.cell (p := ⟨b, o, none⟩) h) (fun hHeld => ?_)
              clear hK K hHeld
              try simp only [Act.put, List.setIfInBounds_toArray, List.set_cons_zero, List.set_cons_succ]
              refine wpAnyH_ready (rs := [5, 9]) (by kernel_rfl) (by simp) ?_
              refine AllReadyH.cons (o := _) rfl (fun K hK => ?_) ?_
              · skip
                go_simp
                go_at_call 15
                refine (V1.out _).mono ?_
                rintro e rr45 ⟨rfl, b9⟩
                replace H9 := H9.trans (b9.mono H9.size)
                replace Z_C := Z_C.keep b9
                clear b9
                try go_wp2_with fail
                refine hK.out _ _ (fun b o h => H9.cell (p := ⟨b, o, none⟩) h) (fun hHeld => ?_)
                clear hK K hHeld
                try simp only [Act.put, List.setIfInBounds_toArray, List.set_cons_zero, List.set_cons_succ]
                refine wpAnyH_ready (rs := [8, 9]) (by kernel_rfl) (by simp) ?_
                refine AllReadyH.cons (o := _) rfl (fun K hK => ?_) ?_
                · skip
                  go_simp
                  go_at_call 15
                  refine (V2.out _).mono ?_
                  rintro e rr46 ⟨rfl, b9⟩
                  replace H9 := H9.trans (b9.mono H9.size)
                  replace Z_C := Z_C.keep b9
                  clear b9
                  try go_wp2_with fail
                  refine hK.out _ _ (fun b o h => H9.cell (p := ⟨b, o, none⟩) h) (fun hHeld => ?_)
                  clear hK K hHeld
                  try simp only [Act.put, List.setIfInBounds_toArray, List.set_cons_zero, List.set_cons_succ]
                  refine wpAnyH_ready (rs := [9]) (by kernel_rfl) (by simp) ?_
                  refine AllReadyH.cons (o := _) rfl (fun K hK => ?_) ?_
                  · skip
                    go_simp
                    obtain ⟨rr47, e9⟩ : ∃ q, (rr46.alloc (.cells #[.int .u64 0, .int .u64 0, .int .u64 0, .int .u64 0] 23)) = q := ⟨_, rfl⟩
                    rw [e9]
                    have g_A : v5.heap.size ≤ rr46.heap.size := H9.size
                    have n_C_A : ¬ v5.heap.size = rr46.heap.size := Nat.ne_of_lt Z_C.lt
                    have n_A_C : ¬ rr46.heap.size = v5.heap.size := (Nat.ne_of_lt Z_C.lt).symm
                    replace Z_C := blk_to e9 (Z_C.alloc (.cells #[.int .u64 0, .int .u64 0, .int .u64 0, .int .u64 0] 23))
                    have Z_A : Blk rr47 (rr46.heap.size) 23 [.int .u64 0, .int .u64 0, .int .u64 0, .int .u64 0] := blk_to e9 (Blk.new (w := rr46) (xs := [.int .u64 0, .int .u64 0, .int .u64 0, .int .u64 0]) (t := 23) rfl)
                    replace H9 := below_to e9 (H9.alloc H9.size (.cells #[.int .u64 0, .int .u64 0, .int .u64 0, .int .u64 0] 23))
                    clear e9
                    refine hK.out _ _ (fun b o h => H9.cell (p := ⟨b, o, none⟩) h) (fun hHeld => ?_)
                    clear hK K hHeld
                    try simp only [Act.put, List.setIfInBounds_toArray, List.set_cons_zero, List.set_cons_succ]
                    refine wpAnyH_ready (rs := [11]) (by kernel_rfl) (by simp) ?_
                    refine AllReadyH.cons (o := _) rfl (fun K hK => ?_) ?_
                    · skip
                      have s_l := Z_A.lt
                      have s_c0 := Z_A.cell (i := 0) rfl
                      have s_c1 := Z_A.cell (i := 1) rfl
                      have s_c2 := Z_A.cell (i := 2) rfl
                      have s_c3 := Z_A.cell (i := 3) rfl
                      have s_f0 := Z_A.frozen 0
                      have s_f1 := Z_A.frozen 1
                      have s_f2 := Z_A.frozen 2
                      have s_f3 := Z_A.frozen 3
                      go_simp
                      clear s_l s_c0 s_f0 s_c1 s_f1 s_c2 s_f2 s_c3 s_f3
                      obtain ⟨rr48, e9⟩ : ∃ q, ((((rr47.setCell ⟨rr46.heap.size, 0, none⟩ (.int .u64 (limb x 0 : Int))).setCell ⟨rr46.heap.size, 1, none⟩ (.int .u64 (limb x 1 : Int))).setCell ⟨rr46.heap.size, 2, none⟩ (.int .u64 (limb x 2 : Int))).setCell ⟨rr46.heap.size, 3, none⟩ (.int .u64 (limb x 3 : Int))) = q := ⟨_, rfl⟩
                      rw [e9]
                      replace Z_C := blk_to e9 (Z_C.other4 n_C_A (.int .u64 (limb x 0 : Int)) (.int .u64 (limb x 1 : Int)) (.int .u64 (limb x 2 : Int)) (.int .u64 (limb x 3 : Int)))
                      replace Z_A := blk_to e9 (Z_A.set4 (.int .u64 (limb x 0 : Int)) (.int .u64 (limb x 1 : Int)) (.int .u64 (limb x 2 : Int)) (.int .u64 (limb x 3 : Int)))
                      replace H9 := below_to e9 (below_set4 H9 g_A (.int .u64 (limb x 0 : Int)) (.int .u64 (limb x 1 : Int)) (.int .u64 (limb x 2 : Int)) (.int .u64 (limb x 3 : Int)))
                      clear e9
                      refine hK.out _ _ (fun b o h => H9.cell (p := ⟨b, o, none⟩) h) (fun hHeld => ?_)
                      clear hK K hHeld
                      try simp only [Act.put, List.setIfInBounds_toArray, List.set_cons_zero, List.set_cons_succ]
                      refine wpAnyH_ready (rs := [12]) (by kernel_rfl) (by simp) ?_
                      refine AllReadyH.cons (o := _) rfl (fun K hK => ?_) ?_
                      · skip
                        have s_l := Z_C.lt
                        have s_c0 := Z_C.cell (i := 0) rfl
                        have s_c1 := Z_C.cell (i := 1) rfl
                        have s_c2 := Z_C.cell (i := 2) rfl
                        have s_c3 := Z_C.cell (i := 3) rfl
                        have s_f0 := Z_C.frozen 0
                        have s_f1 := Z_C.frozen 1
                        have s_f2 := Z_C.frozen 2
                        have s_f3 := Z_C.frozen 3
                        go_simp
                        clear s_l s_c0 s_f0 s_c1 s_f1 s_c2 s_f2 s_c3 s_f3
                        obtain ⟨rr49, e9⟩ : ∃ q, ((((rr48.setCell ⟨v5.heap.size, 0, none⟩ (.int .u64 (limb y 0 : Int))).setCell ⟨v5.heap.size, 1, none⟩ (.int .u64 (limb y 1 : Int))).setCell ⟨v5.heap.size, 2, none⟩ (.int .u64 (limb y 2 : Int))).setCell ⟨v5.heap.size, 3, none⟩ (.int .u64 (limb y 3 : Int))) = q := ⟨_, rfl⟩
                        rw [e9]
                        replace Z_C := blk_to e9 (Z_C.set4 (.int .u64 (limb y 0 : Int)) (.int .u64 (limb y 1 : Int)) (.int .u64 (limb y 2 : Int)) (.int .u64 (limb y 3 : Int)))
                        replace Z_A := blk_to e9 (Z_A.other4 n_A_C (.int .u64 (limb y 0 : Int)) (.int .u64 (limb y 1 : Int)) (.int .u64 (limb y 2 : Int)) (.int .u64 (limb y 3 : Int)))
                        replace H9 := below_to e9 (below_set4 H9 g_C (.int .u64 (limb y 0 : Int)) (.int .u64 (limb y 1 : Int)) (.int .u64 (limb y 2 : Int)) (.int .u64 (limb y 3 : Int)))
                        clear e9
                        refine hK.out _ _ (fun b o h => H9.cell (p := ⟨b, o, none⟩) h) (fun hHeld => ?_)
                        clear hK K hHeld
                        try simp only [Act.put, List.setIfInBounds_toArray, List.set_cons_zero, List.set_cons_succ]
                        refine wpAnyH_done (by kernel_rfl) ?_ _
                        try refine NoPanic.normal ?_
                        go_wp2_with (fail)
                        go_meet
                        exact ⟨_, _, rfl, rfl, Z_A, Z_C, n_A_C, g_A, g_C, H9⟩
                      exact AllReadyH.nil
                    exact AllReadyH.nil
                  exact AllReadyH.nil
                refine AllReadyH.cons (o := _) rfl (fun K hK => ?_) ?_
                · skip
                  go_simp
                  obtain ⟨rr50, e9⟩ : ∃ q, (rr45.alloc (.cells #[.int .u64 0, .int .u64 0, .int .u64 0, .int .u64 0] 23)) = q := ⟨_, rfl⟩
                  rw [e9]
                  have g_A : v5.heap.size ≤ rr45.heap.size := H9.size
                  have n_C_A : ¬ v5.heap.size = rr45.heap.size := Nat.ne_of_lt Z_C.lt
                  have n_A_C : ¬ rr45.heap.size = v5.heap.size := (Nat.ne_of_lt Z_C.lt).symm
                  replace Z_C := blk_to e9 (Z_C.alloc (.cells #[.int .u64 0, .int .u64 0, .int .u64 0, .int .u64 0] 23))
                  have Z_A : Blk rr50 (rr45.heap.size) 23 [.int .u64 0, .int .u64 0, .int .u64 0, .int .u64 0] := blk_to e9 (Blk.new (w := rr45) (xs := [.int .u64 0, .int .u64 0, .int .u64 0, .int .u64 0]) (t := 23) rfl)
                  replace H9 := below_to e9 (H9.alloc H9.size (.cells #[.int .u64 0, .int .u64 0, .int .u64 0, .int .u64 0] 23))
                  clear e9
                  refine hK.out _ _ (fun b o h => H9.cell (p := ⟨b, o, none⟩) h) (fun hHeld => ?_)
                  clear hK K hHeld
                  try simp only [Act.put, List.setIfInBounds_toArray, List.set_cons_zero, List.set_cons_succ]
                  refine wpAnyH_ready (rs := [8]) (by kernel_rfl) (by simp) ?_
                  refine AllReadyH.cons (o := _) rfl (fun K hK => ?_) ?_
                  · skip
                    go_simp
                    go_at_call 15
                    refine (V2.out _).mono ?_
                    rintro e rr51 ⟨rfl, b9⟩
                    replace H9 := H9.trans (b9.mono H9.size)
                    replace Z_C := Z_C.keep b9
                    replace Z_A := Z_A.keep b9
                    clear b9
                    try go_wp2_with fail
                    refine hK.out _ _ (fun b o h => H9.cell (p := ⟨b, o, none⟩) h) (fun hHeld => ?_)
                    clear hK K hHeld
                    try simp only [Act.put, List.setIfInBounds_toArray, List.set_cons_zero, List.set_cons_succ]
                    refine wpAnyH_ready (rs := [11]) (by kernel_rfl) (by simp) ?_
                    refine AllReadyH.cons (o := _) rfl (fun K hK => ?_) ?_
                    · skip
                      have s_l := Z_A.lt
                      have s_c0 := Z_A.cell (i := 0) rfl
                      have s_c1 := Z_A.cell (i := 1) rfl
                      have s_c2 := Z_A.cell (i := 2) rfl
                      have s_c3 := Z_A.cell (i := 3) rfl
                      have s_f0 := Z_A.frozen 0
                      have s_f1 := Z_A.frozen 1
                      have s_f2 := Z_A.frozen 2
                      have s_f3 := Z_A.frozen 3
                      go_simp
                      clear s_l s_c0 s_f0 s_c1 s_f1 s_c2 s_f2 s_c3 s_f3
                      obtain ⟨rr52, e9⟩ : ∃ q, ((((rr51.setCell ⟨rr45.heap.size, 0, none⟩ (.int .u64 (limb x 0 : Int))).setCell ⟨rr45.heap.size, 1, none⟩ (.int .u64 (limb x 1 : Int))).setCell ⟨rr45.heap.size, 2, none⟩ (.int .u64 (limb x 2 : Int))).setCell ⟨rr45.heap.size, 3, none⟩ (.int .u64 (limb x 3 : Int))) = q := ⟨_, rfl⟩
                      rw [e9]
                      replace Z_C := blk_to e9 (Z_C.other4 n_C_A (.int .u64 (limb x 0 : Int)) (.int .u64 (limb x 1 : Int)) (.int .u64 (limb x 2 : Int)) (.int .u64 (limb x 3 : Int)))
                      replace Z_A := blk_to e9 (Z_A.set4 (.int .u64 (limb x 0 : Int)) (.int .u64 (limb x 1 : Int)) (.int .u64 (limb x 2 : Int)) (.int .u64 (limb x 3 : Int)))
                      replace H9 := below_to e9 (below_set4 H9 g_A (.int .u64 (limb x 0 : Int)) (.int .u64 (limb x 1 : Int)) (.int .u64 (limb x 2 : Int)) (.int .u64 (limb x 3 : Int)))
                      clear e9
                      refine hK.out _ _ (fun b o h => H9.cell (p := ⟨b, o, none⟩) h) (fun hHeld => ?_)
                      clear hK K hHeld
                      try simp only [Act.put, List.setIfInBounds_toArray, List.set_cons_zero, List.set_cons_succ]
                      refine wpAnyH_ready (rs := [12]) (by kernel_rfl) (by simp) ?_
                      refine AllReadyH.cons (o := _) rfl (fun K hK => ?_) ?_
                      · skip
                        have s_l := Z_C.lt
                        have s_c0 := Z_C.cell (i := 0) rfl
                        have s_c1 := Z_C.cell (i := 1) rfl
                        have s_c2 := Z_C.cell (i := 2) rfl
                        have s_c3 := Z_C.cell (i := 3) rfl
                        have s_f0 := Z_C.frozen 0
                        have s_f1 := Z_C.frozen 1
                        have s_f2 := Z_C.frozen 2
                        have s_f3 := Z_C.frozen 3
                        go_simp
                        clear s_l s_c0 s_f0 s_c1 s_f1 s_c2 s_f2 s_c3 s_f3
                        obtain ⟨rr53, e9⟩ : ∃ q, ((((rr52.setCell ⟨v5.heap.size, 0, none⟩ (.int .u64 (limb y 0 : Int))).setCell ⟨v5.heap.size, 1, none⟩ (.int .u64 (limb y 1 : Int))).setCell ⟨v5.heap.size, 2, none⟩ (.int .u64 (limb y 2 : Int))).setCell ⟨v5.heap.size, 3, none⟩ (.int .u64 (limb y 3 : Int))) = q := ⟨_, rfl⟩
                        rw [e9]
                        replace Z_C := blk_to e9 (Z_C.set4 (.int .u64 (limb y 0 : Int)) (.int .u64 (limb y 1 : Int)) (.int .u64 (limb y 2 : Int)) (.int .u64 (limb y 3 : Int)))
                        replace Z_A := blk_to e9 (Z_A.other4 n_A_C (.int .u64 (limb y 0 : Int)) (.int .u64 (limb y 1 : Int)) (.int .u64 (limb y 2 : Int)) (.int .u64 (limb y 3 : Int)))
                        replace H9 := below_to e9 (below_set4 H9 g_C (.int .u64 (limb y 0 : Int)) (.int .u64 (limb y 1 : Int)) (.int .u64 (limb y 2 : Int)) (.int .u64 (limb y 3 : Int)))
                        clear e9
                        refine hK.out _ _ (fun b o h => H9.cell (p := ⟨b, o, none⟩) h) (fun hHeld => ?_)
                        clear hK K hHeld
                        try simp only [Act.put, List.setIfInBounds_toArray, List.set_cons_zero, List.set_cons_succ]
                        refine wpAnyH_done (by kernel_rfl) ?_ _
                        try refine NoPanic.normal ?_
                        go_wp2_with (fail)
                        go_meet
                        exact ⟨_, _, rfl, rfl, Z_A, Z_C, n_A_C, g_A, g_C, H9⟩
                      exact AllReadyH.nil
                    exact AllReadyH.nil
                  exact AllReadyH.nil
                exact AllReadyH.nil
              refine AllReadyH.cons (o := _) rfl (fun K hK => ?_) ?_
              · skip
                go_simp
                obtain ⟨rr54, e9⟩ : ∃ q, (rr44.alloc (.cells #[.int .u64 0, .int .u64 0, .int .u64 0, .int .u64 0] 23)) = q := ⟨_, rfl⟩
                rw [e9]
                have g_A : v5.heap.size ≤ rr44.heap.size := H9.size
                have n_C_A : ¬ v5.heap.size = rr44.heap.size := Nat.ne_of_lt Z_C.lt
                have n_A_C : ¬ rr44.heap.size = v5.heap.size := (Nat.ne_of_lt Z_C.lt).symm
                replace Z_C := blk_to e9 (Z_C.alloc (.cells #[.int .u64 0, .int .u64 0, .int .u64 0, .int .u64 0] 23))
                have Z_A : Blk rr54 (rr44.heap.size) 23 [.int .u64 0, .int .u64 0, .int .u64 0, .int .u64 0] := blk_to e9 (Blk.new (w := rr44) (xs := [.int .u64 0, .int .u64 0, .int .u64 0, .int .u64 0]) (t := 23) rfl)
                replace H9 := below_to e9 (H9.alloc H9.size (.cells #[.int .u64 0, .int .u64 0, .int .u64 0, .int .u64 0] 23))
                clear e9
                refine hK.out _ _ (fun b o h => H9.cell (p := ⟨b, o, none⟩) h) (fun hHeld => ?_)
                clear hK K hHeld
                try simp only [Act.put, List.setIfInBounds_toArray, List.set_cons_zero, List.set_cons_succ]
                refine wpAnyH_ready (rs := [5]) (by kernel_rfl) (by simp) ?_
                refine AllReadyH.cons (o := _) rfl (fun K hK => ?_) ?_
                · skip
                  go_simp
                  go_at_call 15
                  refine (V1.out _).mono ?_
                  rintro e rr55 ⟨rfl, b9⟩
                  replace H9 := H9.trans (b9.mono H9.size)
                  replace Z_C := Z_C.keep b9
                  replace Z_A := Z_A.keep b9
                  clear b9
                  try go_wp2_with fail
                  refine hK.out _ _ (fun b o h => H9.cell (p := ⟨b, o, none⟩) h) (fun hHeld => ?_)
                  clear hK K hHeld
                  try simp only [Act.put, List.setIfInBounds_toArray, List.set_cons_zero, List.set_cons_succ]
                  refine wpAnyH_ready (rs := [8]) (by kernel_rfl) (by simp) ?_
                  refine AllReadyH.cons (o := _) rfl (fun K hK => ?_) ?_
                  · skip
                    go_simp
                    go_at_call 15
                    refine (V2.out _).mono ?_
                    rintro e rr56 ⟨rfl, b9⟩
                    replace H9 := H9.trans (b9.mono H9.size)
                    replace Z_C := Z_C.keep b9
                    replace Z_A := Z_A.keep b9
                    clear b9
                    try go_wp2_with fail
                    refine hK.out _ _ (fun b o h => H9.cell (p := ⟨b, o, none⟩) h) (fun hHeld => ?_)
                    clear hK K hHeld
                    try simp only [Act.put, List.setIfInBounds_toArray, List.set_cons_zero, List.set_cons_succ]
                    refine wpAnyH_ready (rs := [11]) (by kernel_rfl) (by simp) ?_
                    refine AllReadyH.cons (o := _) rfl (fun K hK => ?_) ?_
                    · skip
                      have s_l := Z_A.lt
                      have s_c0 := Z_A.cell (i := 0) rfl
                      have s_c1 := Z_A.cell (i := 1) rfl
                      have s_c2 := Z_A.cell (i := 2) rfl
                      have s_c3 := Z_A.cell (i := 3) rfl
                      have s_f0 := Z_A.frozen 0
                      have s_f1 := Z_A.frozen 1
                      have s_f2 := Z_A.frozen 2
                      have s_f3 := Z_A.frozen 3
                      go_simp
                      clear s_l s_c0 s_f0 s_c1 s_f1 s_c2 s_f2 s_c3 s_f3
                      obtain ⟨rr57, e9⟩ : ∃ q, ((((rr56.setCell ⟨rr44.heap.size, 0, none⟩ (.int .u64 (limb x 0 : Int))).setCell ⟨rr44.heap.size, 1, none⟩ (.int .u64 (limb x 1 : Int))).setCell ⟨rr44.heap.size, 2, none⟩ (.int .u64 (limb x 2 : Int))).setCell ⟨rr44.heap.size, 3, none⟩ (.int .u64 (limb x 3 : Int))) = q := ⟨_, rfl⟩
                      rw [e9]
                      replace Z_C := blk_to e9 (Z_C.other4 n_C_A (.int .u64 (limb x 0 : Int)) (.int .u64 (limb x 1 : Int)) (.int .u64 (limb x 2 : Int)) (.int .u64 (limb x 3 : Int)))
                      replace Z_A := blk_to e9 (Z_A.set4 (.int .u64 (limb x 0 : Int)) (.int .u64 (limb x 1 : Int)) (.int .u64 (limb x 2 : Int)) (.int .u64 (limb x 3 : Int)))
                      replace H9 := below_to e9 (below_set4 H9 g_A (.int .u64 (limb x 0 : Int)) (.int .u64 (limb x 1 : Int)) (.int .u64 (limb x 2 : Int)) (.int .u64 (limb x 3 : Int)))
                      clear e9
                      refine hK.out _ _ (fun b o h => H9.cell (p := ⟨b, o, none⟩) h) (fun hHeld => ?_)
                      clear hK K hHeld
                      try simp only [Act.put, List.setIfInBounds_toArray, List.set_cons_zero, List.set_cons_succ]
                      refine wpAnyH_ready (rs := [12]) (by kernel_rfl) (by simp) ?_
                      refine AllReadyH.cons (o := _) rfl (fun K hK => ?_) ?_
                      · skip
                        have s_l := Z_C.lt
                        have s_c0 := Z_C.cell (i := 0) rfl
                        have s_c1 := Z_C.cell (i := 1) rfl
                        have s_c2 := Z_C.cell (i := 2) rfl
                        have s_c3 := Z_C.cell (i := 3) rfl
                        have s_f0 := Z_C.frozen 0
                        have s_f1 := Z_C.frozen 1
                        have s_f2 := Z_C.frozen 2
                        have s_f3 := Z_C.frozen 3
                        go_simp
                        clear s_l s_c0 s_f0 s_c1 s_f1 s_c2 s_f2 s_c3 s_f3
                        obtain ⟨rr58, e9⟩ : ∃ q, ((((rr57.setCell ⟨v5.heap.size, 0, none⟩ (.int .u64 (limb y 0 : Int))).setCell ⟨v5.heap.size, 1, none⟩ (.int .u64 (limb y 1 : Int))).setCell ⟨v5.heap.size, 2, none⟩ (.int .u64 (limb y 2 : Int))).setCell ⟨v5.heap.size, 3, none⟩ (.int .u64 (limb y 3 : Int))) = q := ⟨_, rfl⟩
                        rw [e9]
                        replace Z_C := blk_to e9 (Z_C.set4 (.int .u64 (limb y 0 : Int)) (.int .u64 (limb y 1 : Int)) (.int .u64 (limb y 2 : Int)) (.int .u64 (limb y 3 : Int)))
                        replace Z_A := blk_to e9 (Z_A.other4 n_A_C (.int .u64 (limb y 0 : Int)) (.int .u64 (limb y 1 : Int)) (.int .u64 (limb y 2 : Int)) (.int .u64 (limb y 3 : Int)))
                        replace H9 := below_to e9 (below_set4 H9 g_C (.int .u64 (limb y 0 : Int)) (.int .u64 (limb y 1 : Int)) (.int .u64 (limb y 2 : Int)) (.int .u64 (limb y 3 : Int)))
                        clear e9
                        refine hK.out _ _ (fun b o h => H9.cell (p := ⟨b, o, none⟩) h) (fun hHeld => ?_)
                        clear hK K hHeld
                        try simp only [Act.put, List.setIfInBounds_toArray, List.set_cons_zero, List.set_cons_succ]
                        refine wpAnyH_done (by kernel_rfl) ?_ _
                        try refine NoPanic.normal ?_
                        go_wp2_with (fail)
                        go_meet
                        exact ⟨_, _, rfl, rfl, Z_A, Z_C, n_A_C, g_A, g_C, H9⟩
                      exact AllReadyH.nil
                    exact AllReadyH.nil
                  exact AllReadyH.nil
                exact AllReadyH.nil
              exact AllReadyH.nil
            exact AllReadyH.nil
          case rest =>
            obtain ⟨bA, bC, rfl, rfl, hx9_A, hx9_C, n9_01, g_bA, g_bC, hbel⟩ := hcut
            obtain ⟨wc2, hwc⟩ : ∃ v, wc = v := ⟨_, rfl⟩
            rw [hwc] at hx9_A hx9_C hbel ⊢
            clear hwc
            clear z_P c_P0 c_P1 c_P2 c_P3 z_Y c_Y0 c_Y1 c_Y2 c_Y3
            replace X_F := X_F.keep hbel
            replace X_P := X_P.keep hbel
            replace X_Y := X_Y.keep hbel
            replace N_ls := hid (N_ls.out.below hbel)
            replace N_x := hid (N_x.out.below hbel)
            replace N_g := hid (N_g.out.below hbel)
            replace T := hid (T.out.keep hbel)
            replace HB := hid (HB.out.trans (hbel.mono HB.out.size))
            replace BW := hid (BW.out.trans (hbel.mono BW.out.size))
            clear hbel
            have X_A := hx9_A
            clear hx9_A
            have X_C := hx9_C
            clear hx9_C
            by_cases hx0 : x = 0
            · skip
              have hy0 := HP3.out hx0
              clear HP1 HP3 RC V1 V2 hgx2 x0 x1 x2 x3
              subst hx0 hy0
              have hz := fun W : World => eqz_vec (a := 0) (by decide) W
              simp only [decide_true] at hz
              have heq := fun W : World => eq_same_v4 (limb 0 0 : Int) (limb 0 1 : Int) (limb 0 2 : Int) (limb 0 3 : Int) W
              have z_P := X_P.lt
              have c_P0 := X_P.cell (i := 0) rfl
              have c_P1 := X_P.cell (i := 1) rfl
              have c_P2 := X_P.cell (i := 2) rfl
              have c_P3 := X_P.cell (i := 3) rfl
              have z_A := X_A.lt
              have c_A0 := X_A.cell (i := 0) rfl
              have c_A1 := X_A.cell (i := 1) rfl
              have c_A2 := X_A.cell (i := 2) rfl
              have c_A3 := X_A.cell (i := 3) rfl
              have z_C := X_C.lt
              have c_C0 := X_C.cell (i := 0) rfl
              have c_C1 := X_C.cell (i := 1) rfl
              have c_C2 := X_C.cell (i := 2) rfl
              have c_C3 := X_C.cell (i := 3) rfl
              go_wp2
              go_roundw
              case rel => exact ⟨k + 1, by omega, by go_num, HB.out⟩
              case measure => simp [intOf]; omega
            · skip
              have h1 := HP1.out hx0
              rw [h1] at RC
              have hz := fun W : World => eqz_vec (a := x) (Nat.lt_trans xP.out (fP_lt b)) W
              simp only [hx0, decide_false] at hz
              have ho := fun W : World => eq1_vec (a := 1) (by decide) W
              simp only [decide_true] at ho
              clear HP1 HP3 V1 V2 hgx2 x0 x1 x2 x3 h1
              have z_P := X_P.lt
              have c_P0 := X_P.cell (i := 0) rfl
              have c_P1 := X_P.cell (i := 1) rfl
              have c_P2 := X_P.cell (i := 2) rfl
              have c_P3 := X_P.cell (i := 3) rfl
              have z_A := X_A.lt
              have c_A0 := X_A.cell (i := 0) rfl
              have c_A1 := X_A.cell (i := 1) rfl
              have c_A2 := X_A.cell (i := 2) rfl
              have c_A3 := X_A.cell (i := 3) rfl
              have z_C := X_C.lt
              have c_C0 := X_C.cell (i := 0) rfl
              have c_C1 := X_C.cell (i := 1) rfl
              have c_C2 := X_C.cell (i := 2) rfl
              have c_C3 := X_C.cell (i := 3) rfl
              go_wp2_with fail
              refine (RC.out _).mono ?_
              rintro e v6 ⟨rfl, b9⟩
              clear z_P c_P0 c_P1 c_P2 c_P3 z_A c_A0 c_A1 c_A2 c_A3 z_C c_C0 c_C1 c_C2 c_C3
              replace X_F := X_F.keep b9
              replace X_P := X_P.keep b9
              replace X_Y := X_Y.keep b9
              replace X_A := X_A.keep b9
              replace X_C := X_C.keep b9
              replace N_ls := hid (N_ls.out.below b9)
              replace N_x := hid (N_x.out.below b9)
              replace N_g := hid (N_g.out.below b9)
              replace T := hid (T.out.keep b9)
              replace HB := hid (HB.out.trans (b9.mono HB.out.size))
              replace BW := hid (BW.out.trans (b9.mono BW.out.size))
              clear b9
              clear RC
              have z_A := X_A.lt
              have c_A0 := X_A.cell (i := 0) rfl
              have c_A1 := X_A.cell (i := 1) rfl
              have c_A2 := X_A.cell (i := 2) rfl
              have c_A3 := X_A.cell (i := 3) rfl
              have z_C := X_C.lt
              have c_C0 := X_C.cell (i := 0) rfl
              have c_C1 := X_C.cell (i := 1) rfl
              have c_C2 := X_C.cell (i := 2) rfl
              have c_C3 := X_C.cell (i := 3) rfl
              go_wp2
              go_roundw
              case rel => exact ⟨k + 1, by omega, by go_num, HB.out⟩
              case measure => simp [intOf]; omega
        · skip
          obtain rfl : n = k := by omega
          replace X_F := X_F.keep hB
          replace X_P := X_P.keep hB
          replace N_ls := hid (N_ls.out.below hB)
          replace N_x := hid (N_x.out.below hB)
          replace N_g := hid (N_g.out.below hB)
          replace T := hid (T.out.keep hB)
          replace BW := hid (BW.out.trans (hB.mono BW.out.size))
          clear hB
          clear HB zB hlt
          go_wp2_with fail
          refine (alive_any _ T.out).mono ?_
          rintro e v7 ⟨rfl, b9⟩
          replace X_F := X_F.keep b9
          replace X_P := X_P.keep b9
          replace N_ls := hid (N_ls.out.below b9)
          replace N_x := hid (N_x.out.below b9)
          replace N_g := hid (N_g.out.below b9)
          replace T := hid (T.out.keep b9)
          replace BW := hid (BW.out.trans (b9.mono BW.out.size))
          clear b9
          go_wp2
          go_ret
          exact ⟨rfl, BW.out⟩
end Go.Proofs.YtlinfbhiogdiaaaDoor
