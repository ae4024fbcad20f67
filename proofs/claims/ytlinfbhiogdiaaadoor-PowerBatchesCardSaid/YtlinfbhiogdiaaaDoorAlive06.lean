/-
  The examples of chapter 6 hold.
-/
import Derived.Test.YtlinfbhiogdiaaaDoorBatch
import Derived.Test.YtlinfbhiogdiaaaDoorGet06
import Derived.Test.YtlinfbhiogdiaaaDoorRefV
import Derived.Test.YtlinfbhiogdiaaaDoorPolys
import Derived.Deep.RegionHeld3
namespace Go.Proofs.YtlinfbhiogdiaaaDoor
open Go.RowKit

def HALF : Nat := 28948022309329048855892746252171976963317496166410141009864396001978282409975
theorem vec_half : (.agg #[.int .u64 18446744073709551607, .int .u64 18446744073709551615, .int .u64 18446744073709551615, .int .u64 4611686018427387903] : Value) = vec HALF :=
  vec_lit (n := HALF) (by decide) (by decide) (by decide) (by decide) (by decide) (by decide)
theorem half_inv : invm P1 2 = HALF := (inv_of fer_P1 (by decide) (by decide) (by decide) (by rw [mulm_eq]; decide)).symm
theorem pow_1024 : powm P1 2 10 = 1024 := by rw [powm_eq]; decide
theorem eq_same_el (a b c d : Int) (w : World) : (Op.equalIn 10000 24 (.agg #[.int .u64 a, .int .u64 b, .int .u64 c, .int .u64 d]) (.agg #[.int .u64 a, .int .u64 b, .int .u64 c, .int .u64 d])).run Tryd.prog w = .ok true w := by
  rw [run_eq_elem]; simp
theorem eq_same_v4 (a b c d : Int) (w : World) : (Op.equalIn 10000 23 (.agg #[.int .u64 a, .int .u64 b, .int .u64 c, .int .u64 d]) (.agg #[.int .u64 a, .int .u64 b, .int .u64 c, .int .u64 d])).run Tryd.prog w = .ok true w := by
  rw [run_eq_vec]; simp
theorem vec_sm {x : Nat} (hx : x < 18446744073709551616) : (.agg #[.int .u64 (x : Int), .int .u64 0, .int .u64 0, .int .u64 0] : Value) = vec x := (vec_small hx).symm
theorem fer_b (b : Bool) : Fer (fP b) := by cases b; exact fer_P1; exact fer_P2
theorem batch_any (id : Int) (m inv s : Nat) (v : Value) (xs : List Nat) (w : World) (hF : Hid (FieldOK m inv)) (hFer : Hid (Fer m)) (hS : NumSl w v (xs.map (frm m))) (hxs : Hid (∀ y ∈ xs, y < m)) (hl : xs.length < 1000000) :
    Calls Tryd.prog 18 #[.pointer none, fld id m inv (frm m 1) s, v] w (RetOwn 24 4 xs.length (nums ((xs.map (invm m)).map (frm m))) w) := by
  obtain ⟨n, hn⟩ : ∃ n, xs.length = n := ⟨_, rfl⟩
  have hS' := hS
  obtain ⟨a, cap, rfl, h1, h2⟩ := hS'
  rw [List.length_map, hn] at hS ⊢
  by_cases h0 : n = 0
  · subst h0
    have hx : xs = [] := List.length_eq_zero_iff.1 hn
    subst hx
    clear hS h1 h2 hn hl hxs
    go_enter Tryd.func18, Tryd.ntmps18
    go_wp2
    go_ret
    exact ⟨_, rfl, by simpa [nums] using World.ownsRow_nil _ _ _ _, by go_grown⟩
  · exact batch_pos id m inv s n cap a xs w hF hFer hS hxs hn (by omega) (by omega)
set_option maxRecDepth 100000 in
set_option maxHeartbeats 4000000 in
theorem alive_any (w : World) (hT : Tab w) : Calls Tryd.prog 11 #[] w (Ret (.bool true) w) := by
  have BW := hid (Below.refl w.heap.size w)
  have T := hid hT
  clear hT
  have GC := hid (fun (W : World) (h : Tab W) => show Calls Tryd.prog 9 #[.bool false] W (Ret (.tuple #[fld 1 P1 I1 O1 S1, vec P1]) W) from lget_any false W h)
  have hO : frm P1 1 = O1 := (fO_eq false).symm
  have hy : ∃ y, B256 * y % P1 = 1 := fieldOK_1.2.2.2.1
  have F2 := hid (fun W : World => lform_any P1 2 (by decide) (by decide) (by decide) W)
  rw [← vec_sm (x := 2) (by decide)] at F2
  have F3 := hid (fun W : World => lform_any P1 1024 (by decide) (by decide) (by decide) W)
  rw [← vec_sm (x := 1024) (by decide)] at F3
  have F4 := hid (fun W : World => lform_any P1 HALF (by decide) (by decide) (by decide) W)
  rw [← vec_half] at F4
  have PC := hid (fun W : World => pow_any 1 P1 I1 S1 2 10 fieldOK_1 (by decide) (by decide) W)
  rw [hO, pow_1024, ← vec_sm (x := 10) (by decide)] at PC
  have IC := hid (fun W : World => inverse_any 1 P1 I1 S1 2 fieldOK_1 (by decide) W)
  rw [hO, half_inv] at IC
  have BC := hid (fun (W : World) (v : Value) (h : NumSl W v ([0, 0].map (frm P1))) => batch_any 1 P1 I1 S1 v [0, 0] W (hid fieldOK_1) (hid fer_P1) h (hid (by decide)) (by decide))
  rw [hO] at BC
  have HZ : nums ([0, 0].map (frm P1)) = (madeCells (Value.agg #[.int .u64 0, .int .u64 0, .int .u64 0, .int .u64 0]).cells (2 * 4)).toList := by
    rw [(FRow.zero 2 (madeCells (Value.agg #[.int .u64 0, .int .u64 0, .int .u64 0, .int .u64 0]).cells (2 * 4)).toList (by rw [Array.length_toList]; exact size_madeCells _ _) (fun j i hj hi => made_zeros 2 j i hj hi)).done]
    show nums [frm P1 0, frm P1 0] = nums [0, 0]
    rw [frm_zero]
  have HN0 : ∀ x ∈ [0, 0].map (frm P1), x < B256 := by
    intro x hx; obtain ⟨z, hz, rfl⟩ := List.mem_map.1 hx
    exact Nat.lt_trans (frm_lt z (by decide)) P1_lt
  have HZZ := hid (And.intro HZ HN0)
  obtain ⟨e2, he2⟩ : ∃ e, frm P1 2 = e := ⟨_, rfl⟩
  obtain ⟨e3, he3⟩ : ∃ e, frm P1 1024 = e := ⟨_, rfl⟩
  obtain ⟨e4, he4⟩ : ∃ e, frm P1 HALF = e := ⟨_, rfl⟩
  rw [he2] at F2 PC IC
  rw [he3] at F3 PC
  rw [he4] at F4 IC
  clear hO hy he2 he3 he4 HZ HN0
  have heA := fun W : World => eq_same_el (limb e3 0 : Int) (limb e3 1 : Int) (limb e3 2 : Int) (limb e3 3 : Int) W
  have heB := fun W : World => eq_same_el (limb e4 0 : Int) (limb e4 1 : Int) (limb e4 2 : Int) (limb e4 3 : Int) W
  simp only [Int.cast_ofNat_Int] at F2 F3 PC
  go_enter Tryd.func11, Tryd.ntmps11
  go_wp2_with fail
  refine (GC.out _ T.out).mono ?_
  rintro e v1 ⟨rfl, b9⟩
  replace T := hid (T.out.keep b9)
  replace BW := hid (BW.out.trans (b9.mono BW.out.size))
  clear b9
  obtain ⟨i0, hi, hz0, hz1, hz2⟩ := info_parts info_el
  go_wp2_with fail
  obtain ⟨v2, hv9⟩ : ∃ v, (((v1.alloc (.cells #[.int .i64 1, .int .u64 (limb P1 0 : Int), .int .u64 (limb P1 1 : Int), .int .u64 (limb P1 2 : Int), .int .u64 (limb P1 3 : Int), .int .u64 (I1 : Int), .int .u64 (limb O1 0 : Int), .int .u64 (limb O1 1 : Int), .int .u64 (limb O1 2 : Int), .int .u64 (limb O1 3 : Int), .int .u64 (limb S1 0 : Int), .int .u64 (limb S1 1 : Int), .int .u64 (limb S1 2 : Int), .int .u64 (limb S1 3 : Int)] 26)).alloc (.cells #[.int .u64 (limb P1 0 : Int), .int .u64 (limb P1 1 : Int), .int .u64 (limb P1 2 : Int), .int .u64 (limb P1 3 : Int)] 23)).alloc (.cells #[.int .u64 18446744073709551607, .int .u64 18446744073709551615, .int .u64 18446744073709551615, .int .u64 4611686018427387903] 23)) = v := ⟨_, rfl⟩
  have hG9 : Below v1.heap.size v1 v2 := by rw [← hv9]; go_grown
  have X_F : Blk v2 (v1.heap.size) 26 [.int .i64 1, .int .u64 (limb P1 0 : Int), .int .u64 (limb P1 1 : Int), .int .u64 (limb P1 2 : Int), .int .u64 (limb P1 3 : Int), .int .u64 (I1 : Int), .int .u64 (limb O1 0 : Int), .int .u64 (limb O1 1 : Int), .int .u64 (limb O1 2 : Int), .int .u64 (limb O1 3 : Int), .int .u64 (limb S1 0 : Int), .int .u64 (limb S1 1 : Int), .int .u64 (limb S1 2 : Int), .int .u64 (limb S1 3 : Int)] := by rw [← hv9]; exact Blk.alloc (Blk.alloc (Blk.new rfl) _) _
  have X_P : Blk v2 (v1.heap.size + 1) 23 [.int .u64 (limb P1 0 : Int), .int .u64 (limb P1 1 : Int), .int .u64 (limb P1 2 : Int), .int .u64 (limb P1 3 : Int)] := by rw [← hv9]; exact Blk.alloc (Blk.new (by simp)) _
  have X_H : Blk v2 (v1.heap.size + 1 + 1) 23 [.int .u64 18446744073709551607, .int .u64 18446744073709551615, .int .u64 18446744073709551615, .int .u64 4611686018427387903] := by rw [← hv9]; exact Blk.new (by simp)
  obtain ⟨bF, hb9⟩ : ∃ k, v1.heap.size = k := ⟨_, rfl⟩
  rw [hb9] at X_F
  rw [hb9] at X_P
  rw [hb9] at X_H
  have g_bF : w.heap.size ≤ bF := by rw [← hb9]; exact BW.out.size
  replace T := hid (T.out.keep hG9)
  replace BW := hid (BW.out.trans (hG9.mono BW.out.size))
  clear hG9
  rw [hv9]
  try rw [hb9]
  clear hv9 hb9
  have z_F := X_F.lt
  have c_F0 := X_F.cell (i := 0) rfl
  have c_F1 := X_F.cell (i := 1) rfl
  have c_F2 := X_F.cell (i := 2) rfl
  have c_F3 := X_F.cell (i := 3) rfl
  have c_F4 := X_F.cell (i := 4) rfl
  have c_F5 := X_F.cell (i := 5) rfl
  have c_F6 := X_F.cell (i := 6) rfl
  have c_F7 := X_F.cell (i := 7) rfl
  have c_F8 := X_F.cell (i := 8) rfl
  have c_F9 := X_F.cell (i := 9) rfl
  have c_F10 := X_F.cell (i := 10) rfl
  have c_F11 := X_F.cell (i := 11) rfl
  have c_F12 := X_F.cell (i := 12) rfl
  have c_F13 := X_F.cell (i := 13) rfl
  have z_P := X_P.lt
  have c_P0 := X_P.cell (i := 0) rfl
  have c_P1 := X_P.cell (i := 1) rfl
  have c_P2 := X_P.cell (i := 2) rfl
  have c_P3 := X_P.cell (i := 3) rfl
  have z_H := X_H.lt
  have c_H0 := X_H.cell (i := 0) rfl
  have c_H1 := X_H.cell (i := 1) rfl
  have c_H2 := X_H.cell (i := 2) rfl
  have c_H3 := X_H.cell (i := 3) rfl
  go_wp2_with fail
  go_region_held3 (fun w' => ∀ b o, b < v2.heap.size → w'.cell? ⟨b, o, none⟩ = v2.cell? ⟨b, o, none⟩) ((intro b o h; first | with_reducible exact c8 b o h | with_reducible exact c7 b o h | with_reducible exact c6 b o h | with_reducible exact c5 b o h | with_reducible exact c4 b o h | with_reducible exact c3 b o h | with_reducible exact c2 b o h | with_reducible exact c1 b o h | with_reducible exact cell_drew | with_reducible exact cell_drew.trans (cell_alloc h) | (with_reducible refine (cell_alloc (by (try simp); omega)).trans ?_; first | with_reducible exact c8 b o h | with_reducible exact c7 b o h | with_reducible exact c6 b o h | with_reducible exact c5 b o h | with_reducible exact c4 b o h | with_reducible exact c3 b o h | with_reducible exact c2 b o h | with_reducible exact c1 b o h | with_reducible exact cell_drew) | with_reducible exact (below_set4 H8.out (by omega) _ _ _ _).cell (p := ⟨b, o, none⟩) h | with_reducible exact (below_set4 H7.out (by omega) _ _ _ _).cell (p := ⟨b, o, none⟩) h | with_reducible exact (below_set4 H6.out (by omega) _ _ _ _).cell (p := ⟨b, o, none⟩) h | with_reducible exact (below_set4 H5.out (by omega) _ _ _ _).cell (p := ⟨b, o, none⟩) h | with_reducible exact (below_set4 H4.out (by omega) _ _ _ _).cell (p := ⟨b, o, none⟩) h | with_reducible exact (below_set4 H3.out (by omega) _ _ _ _).cell (p := ⟨b, o, none⟩) h | with_reducible exact (below_set4 H2.out (by omega) _ _ _ _).cell (p := ⟨b, o, none⟩) h | with_reducible exact (below_set4 H1.out (by omega) _ _ _ _).cell (p := ⟨b, o, none⟩) h)) (first | (go_at_call 18; refine (BC.out _ _ (nums_own (by rw [HZZ.out.1]; exact HOQ.out) HZZ.out.2)).mono ?_; rintro e ra8 ⟨vb, rfl, ho, b9⟩; have H8 : Hid (Below v2.heap.size v2 ra8) := hid H7.out.trans (b9.mono H7.out.size); obtain ⟨ab, cb, rfl, _, _, _⟩ := owns_form ho; clear ho; clear b9; have c8 := bcell H8.out; have z8 := H8.out.size) | (go_at_call 13; refine (F4.out _).mono ?_; rintro e ra6 ⟨rfl, b9⟩; have H6 : Hid (Below v2.heap.size v2 ra6) := hid H5.out.trans (b9.mono H5.out.size); obtain ⟨wq, hmk, hoq, hgq⟩ := run_make_full (P := Tryd.prog) ra6 ra6.heap.size 38 24 i0 _ 4 Tryd.underlying38 hi hz0 hz1 .i64 .i64 2 (by rw [hz2]; decide) (by unfold maxLen; decide) (Nat.le_refl _); have HMK : Sem.run Tryd.prog (Instr.makeSlice 38 (.int .i64 2) (.int .i64 2)) ra6 = _ := hmk; clear hmk; have H7 : Hid (Below v2.heap.size v2 wq) := hid (Below.grown H6.out hgq H6.out.size (fun j hj => by cases hj)); have c7 := bcell H7.out; have z7 := H7.out.size; have HOQ := hid hoq; clear hoq hgq; clear b9; have c6 := bcell H6.out; have z6 := H6.out.size) | (go_at_call 16; refine (IC.out _).mono ?_; rintro e ra5 ⟨rfl, b9⟩; have H5 : Hid (Below v2.heap.size v2 ra5) := hid H4.out.trans (b9.mono H4.out.size); clear b9; have c5 := bcell H5.out; have z5 := H5.out.size) | (go_at_call 13; refine (F2.out _).mono ?_; rintro e ra4 ⟨rfl, b9⟩; have H4 : Hid (Below v2.heap.size v2 ra4) := hid H3.out.trans (b9.mono H3.out.size); clear b9; have c4 := bcell H4.out; have z4 := H4.out.size) | (go_at_call 13; refine (F3.out _).mono ?_; rintro e ra3 ⟨rfl, b9⟩; have H3 : Hid (Below v2.heap.size v2 ra3) := hid H2.out.trans (b9.mono H2.out.size); clear b9; have c3 := bcell H3.out; have z3 := H3.out.size) | (go_at_call 12; refine (PC.out _).mono ?_; rintro e ra2 ⟨rfl, b9⟩; have H2 : Hid (Below v2.heap.size v2 ra2) := hid H1.out.trans (b9.mono H1.out.size); clear b9; have c2 := bcell H2.out; have z2 := H2.out.size) | (go_at_call 13; refine (F2.out _).mono ?_; rintro e ra1 ⟨rfl, b9⟩; have H1 : Hid (Below v2.heap.size v2 ra1) := hid (Below.drew (Below.refl _ v2)).trans b9; clear b9; have c1 := bcell H1.out; have z1 := H1.out.size))
  have hH9 := H8.out
  clear z_F c_F0 c_F1 c_F2 c_F3 c_F4 c_F5 c_F6 c_F7 c_F8 c_F9 c_F10 c_F11 c_F12 c_F13 z_P c_P0 c_P1 c_P2 c_P3 z_H c_H0 c_H1 c_H2 c_H3
  replace X_F := X_F.keep hH9
  replace X_P := X_P.keep hH9
  replace X_H := X_H.keep hH9
  replace T := hid (T.out.keep hH9)
  replace BW := hid (BW.out.trans (hH9.mono BW.out.size))
  clear hH9
  clear H1 c1 z1 H2 c2 z2 H3 c3 z3 H4 c4 z4 H5 c5 z5 H6 c6 z6 H7 c7 z7 H8 c8 z8
  go_wp2
  go_ret
  exact ⟨rfl, BW.out⟩
end Go.Proofs.YtlinfbhiogdiaaaDoor
