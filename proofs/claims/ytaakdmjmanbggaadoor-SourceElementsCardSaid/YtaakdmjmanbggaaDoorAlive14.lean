/-
  The example of the chapter holds.
-/
import Derived.Test.YtaakdmjmanbggaaDoorSrcU
import Derived.Test.YtaakdmjmanbggaaDoorGet14
namespace Go.Proofs.YtaakdmjmanbggaaDoor
open Go.RowKit

theorem eq_same_el (a b c d : Int) (w : World) : (Op.equalIn 10000 42 (.agg #[.int .u64 a, .int .u64 b, .int .u64 c, .int .u64 d]) (.agg #[.int .u64 a, .int .u64 b, .int .u64 c, .int .u64 d])).run Tryd.prog w = .ok true w := by
  rw [run_eq_elem]; simp
/-- One byte 1, then 70 bytes 0. -/
def L71 : List Nat := 1 :: List.replicate 70 0
theorem L71_byt : Byt L71 := by unfold Byt L71; decide
theorem zeros_bys (n : Nat) : (Builtin.zeroCells (Value.int .u8 0).cells n).toList = bys (List.replicate n 0) := by
  have hs : (Value.int .u8 0).cells = #[.int .u8 0] := rfl
  rw [hs]
  refine List.ext_getElem (by simp [Builtin.zeroCells, bys_len]) fun i h1 h2 => ?_
  simp [Builtin.zeroCells, bys, Nat.mod_one]
theorem byte_zeros (W : World) (B : Nat) (hB : W.cell? ⟨B, 0, none⟩ = some (.int .u8 1)) : ∃ (G : Nat) (cs : Array Value) (rest : List Value), 71 ≤ G ∧ cs.toList = bys L71 ++ rest ∧ ∀ ty,
    (Builtin.append_ #[22, 3] ty #[.slice (some ⟨B, 0, none⟩) 1 1, .int .i64 70]).run Tryd.prog W =
      .ok (.slice (some ⟨W.heap.size, 0, none⟩) 71 G) (W.drew.alloc (.cells cs 5)) := by
  obtain ⟨i0, hi, hz0, hz1, hz2⟩ := info_parts info_u8
  have hold : (Builtin.firstCells i0.size 1 (.slice (some ⟨B, 0, none⟩) 1 1)).run Tryd.prog W.drew = .ok ([Value.int .u8 1]).toArray W.drew := by
    rw [hz1]
    have h := run_loadCells_list (P := Tryd.prog) W.drew ⟨B, 0, none⟩ [.int .u8 1] (fun j v hj => by
      match j with
      | 0 => cases hj; exact hB
      | j + 1 => simp at hj)
    simpa [Builtin.firstCells] using h
  refine ⟨grownCap W 71 1 5, _, (Builtin.zeroCells (Value.int .u8 0).cells (grownCap W 71 1 5 - 71)).toList, grownCap_ge W _ _ _, ?_, fun ty =>
    Lib.run_append_grow_zeros W 22 3 ty 5 i0 _ .i64 .i64 Tryd.underlying22 Tryd.underlying3 hi hz0 (some ⟨B, 0, none⟩) 1 1 [.int .u8 1] hold 70 (by omega) (by rw [hz1]; decide) (by omega) (by omega) (by rw [hz2]; decide) (by rw [hz2]; decide)⟩
  rw [Array.toList_append, Array.toList_append, zeros_bys 70]
  rfl
theorem bytes_pre {w : World} {b n c : Nat} {t : TypeId} {l : List Nat} {rest : List Value} (h : Blk w b t (bys l ++ rest)) (hb : Byt l) (hn : l.length = n) (hc : n ≤ c) : ByteSl w (.slice (some ⟨b, 0, none⟩) n c) l := by
  refine ⟨_, c, by rw [hn], by omega, .inr ⟨b, 0, rfl, fun j x hj => ⟨hb x (List.mem_of_getElem? hj), ?_⟩⟩⟩
  have e1 : (bys l ++ rest)[j]? = some (.int .u8 (x : Int)) := by
    rw [List.getElem?_append_left (by rw [bys_len]; exact (List.getElem?_eq_some_iff.1 hj).1)]
    unfold bys; rw [List.getElem?_map, hj]; rfl
  rw [Nat.zero_add]; exact h.cell e1
set_option maxRecDepth 100000 in
set_option maxHeartbeats 4000000 in
theorem alive_any (w : World) (hT : Tab w) :
    Calls Tryd.prog 9 #[] w (Ret (.bool true) w) := by
  have BW := hid (Below.refl w.heap.size w)
  have T := hid hT
  have T0 := hid hT
  clear hT
  go_enter Tryd.func9, Tryd.ntmps9
  go_wp2_with fail
  refine (lget_any false _ T.out).mono ?_
  rintro e v1 ⟨rfl, b9⟩
  replace T := hid (T.out.keep b9)
  replace BW := hid (BW.out.trans (b9.mono BW.out.size))
  clear b9
  go_wp2_with fail
  obtain ⟨v2, hv9⟩ : ∃ v, (((v1.alloc (.cells #[.int .i64 (fID false), .int .u64 (limb (fP false) 0 : Int), .int .u64 (limb (fP false) 1 : Int), .int .u64 (limb (fP false) 2 : Int), .int .u64 (limb (fP false) 3 : Int), .int .u64 (fI false : Int), .int .u64 (limb (fO false) 0 : Int), .int .u64 (limb (fO false) 1 : Int), .int .u64 (limb (fO false) 2 : Int), .int .u64 (limb (fO false) 3 : Int), .int .u64 (limb (fS false) 0 : Int), .int .u64 (limb (fS false) 1 : Int), .int .u64 (limb (fS false) 2 : Int), .int .u64 (limb (fS false) 3 : Int)] 44)).alloc (.cells #[.int .u64 (limb (fP false) 0 : Int), .int .u64 (limb (fP false) 1 : Int), .int .u64 (limb (fP false) 2 : Int), .int .u64 (limb (fP false) 3 : Int)] 41)).alloc (.cells #[.int .u8 1, .int .u8 2, .int .u8 3] 5)) = v := ⟨_, rfl⟩
  have hG9 : Below v1.heap.size v1 v2 := by rw [← hv9]; go_grown
  have X_F : Blk v2 (v1.heap.size) 44 [.int .i64 (fID false), .int .u64 (limb (fP false) 0 : Int), .int .u64 (limb (fP false) 1 : Int), .int .u64 (limb (fP false) 2 : Int), .int .u64 (limb (fP false) 3 : Int), .int .u64 (fI false : Int), .int .u64 (limb (fO false) 0 : Int), .int .u64 (limb (fO false) 1 : Int), .int .u64 (limb (fO false) 2 : Int), .int .u64 (limb (fO false) 3 : Int), .int .u64 (limb (fS false) 0 : Int), .int .u64 (limb (fS false) 1 : Int), .int .u64 (limb (fS false) 2 : Int), .int .u64 (limb (fS false) 3 : Int)] := by rw [← hv9]; exact Blk.alloc (Blk.alloc (Blk.new rfl) _) _
  have X_P : Blk v2 (v1.heap.size + 1) 41 [.int .u64 (limb (fP false) 0 : Int), .int .u64 (limb (fP false) 1 : Int), .int .u64 (limb (fP false) 2 : Int), .int .u64 (limb (fP false) 3 : Int)] := by rw [← hv9]; exact Blk.alloc (Blk.new (by simp)) _
  have X_b1 : Blk v2 (v1.heap.size + 1 + 1) 5 [.int .u8 1, .int .u8 2, .int .u8 3] := by rw [← hv9]; exact Blk.new (by simp)
  obtain ⟨bF, hb9⟩ : ∃ k, v1.heap.size = k := ⟨_, rfl⟩
  rw [hb9] at X_F
  rw [hb9] at X_P
  rw [hb9] at X_b1
  have g_bF : w.heap.size ≤ bF := by rw [← hb9]; exact BW.out.size
  replace T := hid (T.out.keep hG9)
  replace BW := hid (BW.out.trans (hG9.mono BW.out.size))
  clear hG9
  rw [hv9]
  try rw [hb9]
  clear hv9 hb9
  have hb1 : ByteSl v2 _ [1, 2, 3] := bytes_new (c := 3) (l := [1, 2, 3]) X_b1 (by unfold Byt; decide) rfl (by decide)
  refine (newsrc_any _ [1, 2, 3] _ hb1 (by first | decide | (simp; omega) | omega)).mono ?_
  rintro e v3 ⟨sS, gS, rfl, hs9, gs9, gg9, gl9, b9⟩
  have g_sS := gs9
  have g_gS := gg9
  have h_gS := gl9
  clear gs9 gg9 gl9
  have h_sS := hs9.lt
  have n_sS_F := X_F.lt
  have n_sS_P := X_P.lt
  have n_sS_b1 := X_b1.lt
  have n_sS_w := BW.out.size
  have N_S := hid hs9
  clear hs9
  replace X_F := X_F.keep b9
  replace X_P := X_P.keep b9
  replace X_b1 := X_b1.keep b9
  replace T := hid (T.out.keep b9)
  replace BW := hid (BW.out.trans (b9.mono BW.out.size))
  clear b9
  obtain ⟨G, cs, rest, hG, hcs, hz⟩ := byte_zeros (v3.alloc (.cells #[.int .u8 1] 5)) v3.heap.size ((Blk.new (xs := [.int .u8 1]) rfl).cell (i := 0) rfl)
  have HCS := hid hcs
  clear hcs
  go_wp2_with (at_builtin; refine Lib.wpList_append_run _ rfl _ _ _ _ rfl _ _ rfl rfl _ _ (hz _) ?_)
  obtain ⟨v4, hv9⟩ : ∃ v, ((v3.alloc (.cells #[.int .u8 1] 5)).alloc (.cells cs 5)).drew = v := ⟨_, rfl⟩
  have hG9 : Below v3.heap.size v3 v4 := by rw [← hv9]; exact (((Below.refl _ v3).alloc (Nat.le_refl _) _).alloc (by simp) _).drew
  have hx9 : Blk v4 (v3.heap.size + 1) 5 (bys L71 ++ rest) := by rw [← hv9, ← HCS.out]; exact Blk.drew (Blk.new (xs := cs.toList) (by simp))
  have hb2 : ByteSl v4 _ L71 := bytes_pre (c := G) hx9 L71_byt rfl hG
  replace X_F := X_F.keep hG9
  replace X_P := X_P.keep hG9
  replace X_b1 := X_b1.keep hG9
  replace N_S := hid (N_S.out.below hG9)
  replace T := hid (T.out.keep hG9)
  replace BW := hid (BW.out.trans (hG9.mono BW.out.size))
  clear hG9
  rw [hv9]
  clear hv9 hz hx9 HCS
  refine (newsrc_any _ L71 _ hb2 (by first | decide | (simp; omega) | omega)).mono ?_
  rintro e v5 ⟨sQ, gQ, rfl, hs9, gs9, gg9, gl9, b9⟩
  have g_sQ := gs9
  have g_gQ := gg9
  have h_gQ := gl9
  clear gs9 gg9 gl9
  have h_sQ := hs9.lt
  have n_sQ_S := N_S.out.lt
  have n_sQ_F := X_F.lt
  have n_sQ_P := X_P.lt
  have n_sQ_b1 := X_b1.lt
  have n_sQ_w := BW.out.size
  have N_Q := hid hs9
  clear hs9
  replace X_F := X_F.keep b9
  replace X_P := X_P.keep b9
  replace X_b1 := X_b1.keep b9
  replace N_S := hid (N_S.out.below b9)
  replace T := hid (T.out.keep b9)
  replace BW := hid (BW.out.trans (b9.mono BW.out.size))
  clear b9
  clear hb2
  go_wp2_with fail
  refine (take_ok sS gS [1, 2, 3] 2 (by first | decide | (simp; omega) | omega) (by first | decide | (simp; omega) | omega) _ N_S.out).mono ?_
  rintro e v6 ⟨rv6, rfl, ho9, hy9, hs9, hO9⟩
  replace X_F := X_F.only hO9 (by omega)
  replace X_P := X_P.only hO9 (by omega)
  replace X_b1 := X_b1.only hO9 (by omega)
  replace N_Q := hid (N_Q.out.other N_S.out (by omega) hO9)
  replace BW := hid (Below.src BW.out hO9 (by omega))
  replace T := hid (T0.out.below BW.out (Nat.le_refl _))
  replace N_S := hid hs9
  clear hs9
  clear hO9
  obtain ⟨a_x, c_x, rfl, _, _, _⟩ := owns_form ho9
  have N_x := hid hy9
  clear hy9 ho9
  go_wp2_with fail
  refine (take_no sS gS (List.drop 2 [1, 2, 3]) 2 7 (by decide) (by decide) (by decide) _ N_S.out).mono ?_
  rintro e v7 ⟨rv7, rfl, ho9, hy9, hs9, hO9⟩
  replace X_F := X_F.only hO9 (by omega)
  replace X_P := X_P.only hO9 (by omega)
  replace X_b1 := X_b1.only hO9 (by omega)
  replace N_Q := hid (N_Q.out.other N_S.out (by omega) hO9)
  replace N_x := hid (N_x.out.src N_S.out hO9)
  replace BW := hid (Below.src BW.out hO9 (by omega))
  replace T := hid (T0.out.below BW.out (Nat.le_refl _))
  replace N_S := hid hs9
  clear hs9
  clear hO9
  clear ho9 hy9
  have EC := hid (fun (W : World) (h : Src W 65 sQ gQ L71) => element_ok false sQ gQ L71 (by decide) (by decide) W h)
  have e1 : frm (fP false) (wid (fP false) (L71.take 64)) = fO false := by rw [show wid (fP false) (L71.take 64) = 1 from wid_one (fP_two false), ← fO_eq]
  rw [e1] at EC
  clear e1
  have z_F := X_F.lt
  have c_F0 := X_F.cell (i := 0) rfl
  have c_F1 := X_F.cell (i := 1) rfl
  have c_F2 := X_F.cell (i := 2) rfl
  have c_F3 := X_F.cell (i := 3) rfl
  have c_F4 := X_F.cell (i := 4) rfl
  have c_F5 := X_F.cell (i := 5) rfl
  have c_F6 := X_F.cell (i := 6) rfl
  have c_F7 := X_F.cell (i := 7) rfl
  have c_F8 := X_F.cell (i := 8) rfl
  have c_F9 := X_F.cell (i := 9) rfl
  have c_F10 := X_F.cell (i := 10) rfl
  have c_F11 := X_F.cell (i := 11) rfl
  have c_F12 := X_F.cell (i := 12) rfl
  have c_F13 := X_F.cell (i := 13) rfl
  go_wp2_with fail
  refine (EC.out _ N_Q.out).mono ?_
  rintro e v8 ⟨rfl, hs9, hO9⟩
  clear EC
  clear z_F c_F0 c_F1 c_F2 c_F3 c_F4 c_F5 c_F6 c_F7 c_F8 c_F9 c_F10 c_F11 c_F12 c_F13
  replace X_F := X_F.only hO9 (by omega)
  replace X_P := X_P.only hO9 (by omega)
  replace X_b1 := X_b1.only hO9 (by omega)
  replace N_S := hid (N_S.out.other N_Q.out (by omega) hO9)
  replace N_x := hid (N_x.out.src N_Q.out hO9)
  replace BW := hid (Below.src BW.out hO9 (by omega))
  replace T := hid (T0.out.below BW.out (Nat.le_refl _))
  replace N_Q := hid hs9
  clear hs9
  clear hO9
  go_wp2_with fail
  obtain ⟨v9, hv9⟩ : ∃ v, ((v8.alloc (.cells #[.int .u64 (limb ((fO false)) 0 : Int), .int .u64 (limb ((fO false)) 1 : Int), .int .u64 (limb ((fO false)) 2 : Int), .int .u64 (limb ((fO false)) 3 : Int)] 42)).alloc (.cells #[.int .u8 1, .int .u8 2] 5)) = v := ⟨_, rfl⟩
  have hG9 : Below v8.heap.size v8 v9 := by rw [← hv9]; go_grown
  have X_X : Blk v9 (v8.heap.size) 42 [.int .u64 (limb ((fO false)) 0 : Int), .int .u64 (limb ((fO false)) 1 : Int), .int .u64 (limb ((fO false)) 2 : Int), .int .u64 (limb ((fO false)) 3 : Int)] := by rw [← hv9]; exact Blk.alloc (Blk.new rfl) _
  have X_b4 : Blk v9 (v8.heap.size + 1) 5 [.int .u8 1, .int .u8 2] := by rw [← hv9]; exact Blk.new (by simp)
  obtain ⟨bX, hb9⟩ : ∃ k, v8.heap.size = k := ⟨_, rfl⟩
  rw [hb9] at X_X
  rw [hb9] at X_b4
  have g_bX : w.heap.size ≤ bX := by rw [← hb9]; exact BW.out.size
  have q_F_bX : bF < bX := by rw [← hb9]; exact X_F.lt
  have q_P_bX : bF + 1 < bX := by rw [← hb9]; exact X_P.lt
  have q_b1_bX : bF + 1 + 1 < bX := by rw [← hb9]; exact X_b1.lt
  have q_S_bX := N_S.out.lt
  rw [hb9] at q_S_bX
  have q_Q_bX := N_Q.out.lt
  rw [hb9] at q_Q_bX
  replace X_F := X_F.keep hG9
  replace X_P := X_P.keep hG9
  replace X_b1 := X_b1.keep hG9
  replace N_S := hid (N_S.out.below hG9)
  replace N_Q := hid (N_Q.out.below hG9)
  replace N_x := hid (N_x.out.below hG9)
  replace T := hid (T.out.keep hG9)
  replace BW := hid (BW.out.trans (hG9.mono BW.out.size))
  clear hG9
  rw [hv9]
  try rw [hb9]
  clear hv9 hb9
  have EQ := equalb_any _ _ (List.take 2 [1, 2, 3]) [1, 2] _ N_x.out (bytes_new (c := 2) (l := [1, 2]) X_b4 (by unfold Byt; decide) rfl (by decide))
  rw [show decide (List.take 2 [1, 2, 3] = [1, 2]) = true from by decide] at EQ
  refine EQ.mono ?_
  rintro e w' ⟨rfl, rfl⟩
  clear EQ
  have LC := left_any sQ gQ _ _ N_Q.out
  rw [show (((L71.drop 64).length : Nat) : Int) = 7 from by decide] at LC
  have LC2 := hid LC
  clear LC
  have z_F := X_F.lt
  have c_F0 := X_F.cell (i := 0) rfl
  have c_F1 := X_F.cell (i := 1) rfl
  have c_F2 := X_F.cell (i := 2) rfl
  have c_F3 := X_F.cell (i := 3) rfl
  have c_F4 := X_F.cell (i := 4) rfl
  have c_F5 := X_F.cell (i := 5) rfl
  have c_F6 := X_F.cell (i := 6) rfl
  have c_F7 := X_F.cell (i := 7) rfl
  have c_F8 := X_F.cell (i := 8) rfl
  have c_F9 := X_F.cell (i := 9) rfl
  have c_F10 := X_F.cell (i := 10) rfl
  have c_F11 := X_F.cell (i := 11) rfl
  have c_F12 := X_F.cell (i := 12) rfl
  have c_F13 := X_F.cell (i := 13) rfl
  have z_X := X_X.lt
  have c_X0 := X_X.cell (i := 0) rfl
  have c_X1 := X_X.cell (i := 1) rfl
  have c_X2 := X_X.cell (i := 2) rfl
  have c_X3 := X_X.cell (i := 3) rfl
  have heq := fun W : World => eq_same_el (limb (fO false) 0 : Int) (limb (fO false) 1 : Int) (limb (fO false) 2 : Int) (limb (fO false) 3 : Int) W
  go_wp2_with fail
  refine LC2.out.mono ?_
  rintro e w' ⟨rfl, rfl⟩
  go_wp2
  go_ret
  exact ⟨rfl, BW.out⟩
end Go.Proofs.YtaakdmjmanbggaaDoor
