/-
  The element of 64 random bytes.
-/
import Derived.Test.YtaakdmjmanbggaaDoorSrcT
import Derived.Deep.RegionHeld3
import Derived.Deep.DeepCutAuto
import Derived.Deep.QuietTactic
import Derived.Test.YtaakdmjmanbggaaDoorSet4
namespace Go.Proofs.YtaakdmjmanbggaaDoor
open Go.RowKit

theorem list_range {l : List Nat} {n : Nat} (o : Nat) (h : o + n ≤ l.length) : (l.drop o).take n = (List.range n).map fun j => l.getD (o + j) 0 := by
  refine List.ext_getElem (by simp; omega) fun i h1 h2 => ?_
  simp at h1 h2
  rw [List.getElem_take, List.getElem_drop, List.getElem_map, List.getElem_range, List.getD_eq_getElem?_getD, List.getElem?_eq_getElem (by omega)]; rfl
theorem bys_range (f : Nat → Nat) (n : Nat) : bys ((List.range n).map f) = (List.range n).map fun j => .int .u8 (f j : Int) := by unfold bys; rw [List.map_map]; rfl
theorem range_cell {W w' : World} {g o : Nat} {cs : List Value} (h : W.rangeAt g o cs) (hc : ∀ b o, b < W.heap.size → w'.cell? ⟨b, o, none⟩ = W.cell? ⟨b, o, none⟩) (hg : g < W.heap.size) : w'.rangeAt g o cs := fun j v hj => (hc _ _ hg).trans (h j v hj)
theorem ByteSl.range {w : World} {l : List Nat} {g n c o : Nat} {cs : List Value} (h : ByteSl w (.slice (some ⟨g, 0, none⟩) n c) l) (e : bys ((l.drop o).take 32) = cs) (ho : o + 32 ≤ l.length) : w.rangeAt g o cs := fun j v hj => by
  rw [← e] at hj
  have hj2 := (List.getElem?_eq_some_iff.1 hj).1
  rw [bys_len] at hj2
  have hj3 : j < 32 := by simp at hj2; omega
  have e1 : l.getD (o + j) 0 = ((l.drop o).take 32).getD j 0 := by rw [List.getD_eq_getElem?_getD, List.getD_eq_getElem?_getD, List.getElem?_take_of_lt hj3, List.getElem?_drop]
  rw [bys_get _ hj2, ← e1] at hj
  have := h.at (j := o + j) (by omega)
  rw [Nat.zero_add] at this
  rw [this]; exact hj
theorem info_arr : (Tryd.prog.info? 86).map (·.size) = some 32 := by kernel_rfl
theorem array_at (w : World) (a : Addr) (c : Nat) : (Instr.arrayAt 86 (.slice (some a) 32 c)).run Tryd.prog w = .ok (.pointer (some a)) w := by
  simp [Instr.arrayAt, Sem.run_bind, run_underlying Tryd.underlying86, Result.andThen, Sem.run_pure]
set_option maxRecDepth 100000 in
set_option maxHeartbeats 8000000 in
theorem wide_any (b : Bool) (g cap : Nat) (l : List Nat) (hl : l.length = 64) (w : World) (hS : ByteSl w (.slice (some ⟨g, 0, none⟩) 64 cap) l) :
    Calls Tryd.prog 32 #[FV b, .slice (some ⟨g, 0, none⟩) 64 cap] w (Ret (.tuple #[vec (frm (fP b) (wid (fP b) l)), .int .i64 0]) w) := by
  have BW := hid (Below.refl w.heap.size w)
  have qA := array_at
  have hbt := hS.byt
  have hcap : 64 ≤ cap := by obtain ⟨_, _, e, hc, _⟩ := hS; injection e with e1 e2 e3; omega
  have hcap2 : (32 : Int) ≤ (cap : Int) := by omega
  have hcap3 : ¬ cap = 32 := by omega
  have N1 := hid (fun W : World => number_any (l.take 32) (by simp; omega) (hbt.take 32) W)
  have N2 := hid (fun W : World => number_any (l.drop 32) (by simp; omega) (hbt.drop 32) W)
  have e1 : bys ((l.drop 0).take 32) = bys (l.take 32) := by rw [List.drop_zero]
  have e2 : bys ((l.drop 32).take 32) = bys (l.drop 32) := by rw [List.take_of_length_le (by simp; omega)]
  have g1 : (bys (l.take 32)).length = 32 := by rw [bys_len]; simp; omega
  have g2 : (bys (l.drop 32)).length = 32 := by rw [bys_len]; simp; omega
  obtain ⟨cs1, hcs1⟩ : ∃ q, bys (l.take 32) = q := ⟨_, rfl⟩
  obtain ⟨cs2, hcs2⟩ : ∃ q, bys (l.drop 32) = q := ⟨_, rfl⟩
  rw [hcs1] at N1 e1 g1
  rw [hcs2] at N2 e2 g2
  have EH1 := hid e1
  have EH2 := hid e2
  have iA := info_arr
  have i1 : (Tryd.prog.info? 86).map (·.size) = some cs1.length := by rw [g1]; exact info_arr
  have i2 : (Tryd.prog.info? 86).map (·.size) = some cs2.length := by rw [g2]; exact info_arr
  have uA := Tryd.underlying86
  have T1 := hid (fun W : World => to_any b (num (l.take 32)) (num_lt (hbt.take 32)) W)
  have T2 := hid (fun W : World => to_any b (num (l.drop 32)) (num_lt (hbt.drop 32)) W)
  have q0 : 0 < fP b := by have := fP_two b; omega
  have l1 := frm_lt (num (l.take 32)) q0
  have l2 := frm_lt (num (l.drop 32)) q0
  have W0 := hid (wid_frm b l)
  obtain ⟨x1, hx1⟩ : ∃ q, frm (fP b) (num (l.take 32)) = q := ⟨_, rfl⟩
  obtain ⟨x2, hx2⟩ : ∃ q, frm (fP b) (num (l.drop 32)) = q := ⟨_, rfl⟩
  rw [hx1, hx2] at W0
  rw [hx1] at T1 l1
  rw [hx2] at T2 l2
  obtain ⟨n1, hn1⟩ : ∃ q, num (l.take 32) = q := ⟨_, rfl⟩
  obtain ⟨n2, hn2⟩ : ∃ q, num (l.drop 32) = q := ⟨_, rfl⟩
  rw [hn1] at N1 T1
  rw [hn2] at N2 T2
  have M := hid (fun W : World => mmul_any (fID b) (fP b) (fI b) (fO b) (fS b) x2 (fS b) (fOK b) (Nat.lt_trans l2 (fP_lt b)) (Nat.lt_trans (fS_lt b) (fP_lt b)) (Nat.mul_lt_mul_of_lt_of_lt (Nat.lt_trans l2 (fP_lt b)) (fS_lt b)) W)
  have A := hid (fun W : World => madd_any (fID b) (fP b) (fI b) (fO b) (fS b) x1 (mont (fP b) x2 (fS b)) (fP_lt b) l1 (mont_lt _ _ q0) W)
  rw [W0.out] at A
  obtain ⟨y, hy⟩ : ∃ q, mont (fP b) x2 (fS b) = q := ⟨_, rfl⟩
  rw [hy] at M A
  obtain ⟨z, hz⟩ : ∃ q, frm (fP b) (wid (fP b) l) = q := ⟨_, rfl⟩
  rw [hz] at A ⊢
  have N_A := hid hS
  clear hbt e1 e2 q0 l1 l2 hx1 hx2 hn1 hn2 hy hz W0 hS iA g1 g2 hcs1 hcs2
  go_enter Tryd.func32, Tryd.ntmps32
  have z_A := N_A.out.lt (by omega)
  have c_R := N_A.out.range (o := 0) EH1.out (by omega)
  go_upto_region 3 with (fail)
  obtain ⟨v1, hv9⟩ : ∃ v, ((w.alloc (.cells #[.int .i64 (fID b), .int .u64 (limb (fP b) 0 : Int), .int .u64 (limb (fP b) 1 : Int), .int .u64 (limb (fP b) 2 : Int), .int .u64 (limb (fP b) 3 : Int), .int .u64 (fI b : Int), .int .u64 (limb (fO b) 0 : Int), .int .u64 (limb (fO b) 1 : Int), .int .u64 (limb (fO b) 2 : Int), .int .u64 (limb (fO b) 3 : Int), .int .u64 (limb (fS b) 0 : Int), .int .u64 (limb (fS b) 1 : Int), .int .u64 (limb (fS b) 2 : Int), .int .u64 (limb (fS b) 3 : Int)] 44)).alloc (.cells #[.int .u64 0, .int .u64 0, .int .u64 0, .int .u64 0] 42)) = v := ⟨_, rfl⟩
  have hG9 : Below w.heap.size w v1 := by rw [← hv9]; go_grown
  have X_F : Blk v1 (w.heap.size) 44 [.int .i64 (fID b), .int .u64 (limb (fP b) 0 : Int), .int .u64 (limb (fP b) 1 : Int), .int .u64 (limb (fP b) 2 : Int), .int .u64 (limb (fP b) 3 : Int), .int .u64 (fI b : Int), .int .u64 (limb (fO b) 0 : Int), .int .u64 (limb (fO b) 1 : Int), .int .u64 (limb (fO b) 2 : Int), .int .u64 (limb (fO b) 3 : Int), .int .u64 (limb (fS b) 0 : Int), .int .u64 (limb (fS b) 1 : Int), .int .u64 (limb (fS b) 2 : Int), .int .u64 (limb (fS b) 3 : Int)] := by rw [← hv9]; exact Blk.alloc (Blk.new rfl) _
  have X_R : Blk v1 (w.heap.size + 1) 42 [.int .u64 0, .int .u64 0, .int .u64 0, .int .u64 0] := by rw [← hv9]; exact Blk.new (by simp)
  obtain ⟨bF, hb9⟩ : ∃ k, w.heap.size = k := ⟨_, rfl⟩
  rw [hb9] at X_F
  rw [hb9] at X_R
  have g_bF : w.heap.size ≤ bF := by rw [← hb9]; exact BW.out.size
  clear z_A c_R
  replace N_A := hid (N_A.out.below hG9)
  replace BW := hid (BW.out.trans (hG9.mono BW.out.size))
  clear hG9
  rw [hv9]
  try rw [hb9]
  clear hv9 hb9
  have z_F := X_F.lt
  have c_F0 := X_F.cell (i := 0) rfl
  have c_F1 := X_F.cell (i := 1) rfl
  have c_F2 := X_F.cell (i := 2) rfl
  have c_F3 := X_F.cell (i := 3) rfl
  have c_F4 := X_F.cell (i := 4) rfl
  have c_F5 := X_F.cell (i := 5) rfl
  have c_F6 := X_F.cell (i := 6) rfl
  have c_F7 := X_F.cell (i := 7) rfl
  have c_F8 := X_F.cell (i := 8) rfl
  have c_F9 := X_F.cell (i := 9) rfl
  have c_F10 := X_F.cell (i := 10) rfl
  have c_F11 := X_F.cell (i := 11) rfl
  have c_F12 := X_F.cell (i := 12) rfl
  have c_F13 := X_F.cell (i := 13) rfl
  have z_A := N_A.out.lt (by omega)
  have c_R := N_A.out.range (o := 0) EH1.out (by omega)
  go_cut [6] (fun t wx => ∃ br, t = .pointer (some ⟨br, 0, none⟩) ∧ Blk wx br 42 [.int .u64 (limb x1 0 : Int), .int .u64 (limb x1 1 : Int), .int .u64 (limb x1 2 : Int), .int .u64 (limb x1 3 : Int)] ∧ Below v1.heap.size v1 wx)
  case first =>
    refine wp_region_noPanic ?_
    refine wp_region_held_drew (S := (fun w' => ∀ b o, b < v1.heap.size → w'.cell? ⟨b, o, none⟩ = v1.cell? ⟨b, o, none⟩)) (by kernel_rfl) ?_ (fun hHeld => ?_)
    · ((intro b o h; first | with_reducible exact c2 b o h | with_reducible exact c1 b o h | with_reducible exact cell_drew | with_reducible exact cell_drew.trans (cell_alloc h) | (with_reducible refine (cell_alloc (by (try simp); omega)).trans ?_; first | with_reducible exact c2 b o h | with_reducible exact c1 b o h | with_reducible exact cell_drew) | with_reducible exact (below_set4 H2.out (by omega) _ _ _ _).cell (p := ⟨b, o, none⟩) h | with_reducible exact (below_set4 H1.out (by omega) _ _ _ _).cell (p := ⟨b, o, none⟩) h))
    refine wpAnyH_take (i := 0) (oi := _) (v := .agg #[.int .i64 (fID b), .int .u64 (limb (fP b) 0 : Int), .int .u64 (limb (fP b) 1 : Int), .int .u64 (limb (fP b) 2 : Int), .int .u64 (limb (fP b) 3 : Int), .int .u64 (fI b : Int), .int .u64 (limb (fO b) 0 : Int), .int .u64 (limb (fO b) 1 : Int), .int .u64 (limb (fO b) 2 : Int), .int .u64 (limb (fO b) 3 : Int), .int .u64 (limb (fS b) 0 : Int), .int .u64 (limb (fS b) 1 : Int), .int .u64 (limb (fS b) 2 : Int), .int .u64 (limb (fS b) 3 : Int)]) rfl (by kernel_rfl) (by kernel_rfl) (by kernel_rfl) (fun _ _ _ h => h) (Or.inl ⟨by rfl, ?_⟩) (by assumption) ?_
    · intro w hSw; (try dsimp only at hSw); go_simp
    try simp only [Act.put, List.setIfInBounds_toArray, List.set_cons_zero, List.set_cons_succ]
    refine wpAnyH_take (i := 1) (oi := _) (v := .slice (some ⟨g, 0, none⟩) 64 cap) rfl (by kernel_rfl) (by kernel_rfl) (by kernel_rfl) (fun _ _ _ h => h) (Or.inl ⟨by rfl, ?_⟩) (by assumption) ?_
    · intro w hSw; (try dsimp only at hSw); go_simp
    try simp only [Act.put, List.setIfInBounds_toArray, List.set_cons_zero, List.set_cons_succ]
    refine wpAnyH_take (i := 2) (oi := _) (v := .slice (some ⟨g, 0, none⟩) 32 cap) rfl (by kernel_rfl) (by kernel_rfl) (by kernel_rfl) (fun _ _ _ h => h) (Or.inl ⟨by rfl, ?_⟩) (by assumption) ?_
    · intro w hSw; (try dsimp only at hSw); go_simp
    try simp only [Act.put, List.setIfInBounds_toArray, List.set_cons_zero, List.set_cons_succ]
    refine wpAnyH_take (i := 3) (oi := _) (v := .pointer (some ⟨g, 0, none⟩)) rfl (by kernel_rfl) (by kernel_rfl) (by kernel_rfl) (fun _ _ _ h => h) (Or.inl ⟨by rfl, ?_⟩) (by assumption) ?_
    · intro w hSw; (try dsimp only at hSw); go_simp
    try simp only [Act.put, List.setIfInBounds_toArray, List.set_cons_zero, List.set_cons_succ]
    refine wpAnyH_take (i := 4) (oi := _) (v := .agg cs1.toArray) rfl (by kernel_rfl) (by kernel_rfl) (by kernel_rfl) (fun _ _ _ h => h) (yieldsIf_load_mid (by rfl) _ _ rfl _ _ rfl cs1 _ (fun w hSw => range_cell c_R (fun b o h => hSw b o h) z_A) uA rfl i1) (by assumption) ?_
    try simp only [Act.put, List.setIfInBounds_toArray, List.set_cons_zero, List.set_cons_succ]
    clear hHeld
    refine wpAnyH_ready (rs := [5, 7]) (by kernel_rfl) (by simp) ?_
    refine AllReadyH.cons (o := _) rfl (fun K hK => ?_) ?_
    · skip
      go_simp
      (go_at_call 41; refine (N1.out _).mono ?_; rintro e ra1 ⟨rfl, b9⟩; have H1 : Hid (Below v1.heap.size v1 ra1) := hid (by first | exact (Below.drew (Below.refl _ v1)).trans b9 | exact ((Below.drew (Below.refl _ v1)).alloc (Nat.le_refl _) _).trans (b9.mono (by simp)) | exact (Below.drew ((Below.refl _ v1).alloc (Nat.le_refl _) _)).trans (b9.mono (by simp))); (try (have Z : Blk ra1 v1.heap.size 42 [.int .u64 0, .int .u64 0, .int .u64 0, .int .u64 0] := (by first | exact Blk.keep (Blk.drew (Blk.new rfl)) b9 | exact Blk.keep (Blk.new rfl) b9))); clear b9; have c1 := bcell H1.out; have z1 := H1.out.size)
      try go_wp2_with fail
      refine hK.out _ _ ?_ (fun hHeld => ?_)
      · (try dsimp only); ((intro b o h; first | with_reducible exact c2 b o h | with_reducible exact c1 b o h | with_reducible exact cell_drew | with_reducible exact cell_drew.trans (cell_alloc h) | (with_reducible refine (cell_alloc (by (try simp); omega)).trans ?_; first | with_reducible exact c2 b o h | with_reducible exact c1 b o h | with_reducible exact cell_drew) | with_reducible exact (below_set4 H2.out (by omega) _ _ _ _).cell (p := ⟨b, o, none⟩) h | with_reducible exact (below_set4 H1.out (by omega) _ _ _ _).cell (p := ⟨b, o, none⟩) h))
      clear hK K hHeld
      try simp only [Act.put, List.setIfInBounds_toArray, List.set_cons_zero, List.set_cons_succ]
      refine wpAnyH_ready (rs := [6, 7]) (by kernel_rfl) (by simp) ?_
      refine AllReadyH.cons (o := _) rfl (fun K hK => ?_) ?_
      · skip
        go_simp
        (go_at_call 40; refine (T1.out _).mono ?_; rintro e ra2 ⟨rfl, b9⟩; have H2 : Hid (Below v1.heap.size v1 ra2) := hid (by first | exact H1.out.trans (b9.mono H1.out.size) | exact (H1.out.alloc H1.out.size _).trans (b9.mono (by have := H1.out.size; simp; omega))); (first | (replace Z := Z.keep b9) | (have Z : Blk ra2 ra1.heap.size 42 [.int .u64 0, .int .u64 0, .int .u64 0, .int .u64 0] := Blk.keep (Blk.new rfl) b9) | skip); (try (have zz := Z.lt; have y0 := Z.cell (i := 0) rfl; have yf0 := Z.frozen 0; have y1 := Z.cell (i := 1) rfl; have yf1 := Z.frozen 1; have y2 := Z.cell (i := 2) rfl; have yf2 := Z.frozen 2; have y3 := Z.cell (i := 3) rfl; have yf3 := Z.frozen 3)); clear b9; have c2 := bcell H2.out; have z2 := H2.out.size)
        try go_wp2_with fail
        refine hK.out _ _ ?_ (fun hHeld => ?_)
        · (try dsimp only); ((intro b o h; first | with_reducible exact c2 b o h | with_reducible exact c1 b o h | with_reducible exact cell_drew | with_reducible exact cell_drew.trans (cell_alloc h) | (with_reducible refine (cell_alloc (by (try simp); omega)).trans ?_; first | with_reducible exact c2 b o h | with_reducible exact c1 b o h | with_reducible exact cell_drew) | with_reducible exact (below_set4 H2.out (by omega) _ _ _ _).cell (p := ⟨b, o, none⟩) h | with_reducible exact (below_set4 H1.out (by omega) _ _ _ _).cell (p := ⟨b, o, none⟩) h))
        clear hK K hHeld
        try simp only [Act.put, List.setIfInBounds_toArray, List.set_cons_zero, List.set_cons_succ]
        refine wpAnyH_ready (rs := [7]) (by kernel_rfl) (by simp) ?_
        refine AllReadyH.cons (o := _) rfl (fun K hK => ?_) ?_
        · skip
          go_simp
          refine hK.out _ _ ?_ (fun hHeld => ?_)
          · (try dsimp only); ((intro b o h; first | with_reducible exact c2 b o h | with_reducible exact c1 b o h | with_reducible exact cell_drew | with_reducible exact cell_drew.trans (cell_alloc h) | (with_reducible refine (cell_alloc (by (try simp); omega)).trans ?_; first | with_reducible exact c2 b o h | with_reducible exact c1 b o h | with_reducible exact cell_drew) | with_reducible exact (below_set4 H2.out (by omega) _ _ _ _).cell (p := ⟨b, o, none⟩) h | with_reducible exact (below_set4 H1.out (by omega) _ _ _ _).cell (p := ⟨b, o, none⟩) h))
          clear hK K hHeld
          try simp only [Act.put, List.setIfInBounds_toArray, List.set_cons_zero, List.set_cons_succ]
          refine wpAnyH_ready (rs := [8]) (by kernel_rfl) (by simp) ?_
          refine AllReadyH.cons (o := _) rfl (fun K hK => ?_) ?_
          · skip
            go_simp
            refine hK.out _ _ ?_ (fun hHeld => ?_)
            · (try dsimp only); ((intro b o h; first | with_reducible exact c2 b o h | with_reducible exact c1 b o h | with_reducible exact cell_drew | with_reducible exact cell_drew.trans (cell_alloc h) | (with_reducible refine (cell_alloc (by (try simp); omega)).trans ?_; first | with_reducible exact c2 b o h | with_reducible exact c1 b o h | with_reducible exact cell_drew) | with_reducible exact (below_set4 H2.out (by omega) _ _ _ _).cell (p := ⟨b, o, none⟩) h | with_reducible exact (below_set4 H1.out (by omega) _ _ _ _).cell (p := ⟨b, o, none⟩) h))
            clear hK K hHeld
            try simp only [Act.put, List.setIfInBounds_toArray, List.set_cons_zero, List.set_cons_succ]
            refine wpAnyH_done (by kernel_rfl) ?_ _
            refine NoPanic.normal ?_
            go_wp2_with (fail)
            go_meet
            refine ⟨_, rfl, ?_, ?_⟩
            all_goals (first | with_reducible exact Z.set4 (.int .u64 (limb x1 0 : Int)) (.int .u64 (limb x1 1 : Int)) (.int .u64 (limb x1 2 : Int)) (.int .u64 (limb x1 3 : Int)) | with_reducible exact below_set4 H2.out (by omega) (.int .u64 (limb x1 0 : Int)) (.int .u64 (limb x1 1 : Int)) (.int .u64 (limb x1 2 : Int)) (.int .u64 (limb x1 3 : Int)) | with_reducible exact Blk.new rfl | with_reducible exact H2.out.alloc H2.out.size _)
          exact AllReadyH.nil
        exact AllReadyH.nil
      refine AllReadyH.cons (o := _) rfl (fun K hK => ?_) ?_
      · skip
        go_simp
        refine hK.out _ _ ?_ (fun hHeld => ?_)
        · (try dsimp only); ((intro b o h; first | with_reducible exact c2 b o h | with_reducible exact c1 b o h | with_reducible exact cell_drew | with_reducible exact cell_drew.trans (cell_alloc h) | (with_reducible refine (cell_alloc (by (try simp); omega)).trans ?_; first | with_reducible exact c2 b o h | with_reducible exact c1 b o h | with_reducible exact cell_drew) | with_reducible exact (below_set4 H2.out (by omega) _ _ _ _).cell (p := ⟨b, o, none⟩) h | with_reducible exact (below_set4 H1.out (by omega) _ _ _ _).cell (p := ⟨b, o, none⟩) h))
        clear hK K hHeld
        try simp only [Act.put, List.setIfInBounds_toArray, List.set_cons_zero, List.set_cons_succ]
        refine wpAnyH_ready (rs := [6]) (by kernel_rfl) (by simp) ?_
        refine AllReadyH.cons (o := _) rfl (fun K hK => ?_) ?_
        · skip
          go_simp
          (go_at_call 40; refine (T1.out _).mono ?_; rintro e ra2 ⟨rfl, b9⟩; have H2 : Hid (Below v1.heap.size v1 ra2) := hid (by first | exact H1.out.trans (b9.mono H1.out.size) | exact (H1.out.alloc H1.out.size _).trans (b9.mono (by have := H1.out.size; simp; omega))); (first | (replace Z := Z.keep b9) | (have Z : Blk ra2 ra1.heap.size 42 [.int .u64 0, .int .u64 0, .int .u64 0, .int .u64 0] := Blk.keep (Blk.new rfl) b9) | skip); (try (have zz := Z.lt; have y0 := Z.cell (i := 0) rfl; have yf0 := Z.frozen 0; have y1 := Z.cell (i := 1) rfl; have yf1 := Z.frozen 1; have y2 := Z.cell (i := 2) rfl; have yf2 := Z.frozen 2; have y3 := Z.cell (i := 3) rfl; have yf3 := Z.frozen 3)); clear b9; have c2 := bcell H2.out; have z2 := H2.out.size)
          try go_wp2_with fail
          refine hK.out _ _ ?_ (fun hHeld => ?_)
          · (try dsimp only); ((intro b o h; first | with_reducible exact c2 b o h | with_reducible exact c1 b o h | with_reducible exact cell_drew | with_reducible exact cell_drew.trans (cell_alloc h) | (with_reducible refine (cell_alloc (by (try simp); omega)).trans ?_; first | with_reducible exact c2 b o h | with_reducible exact c1 b o h | with_reducible exact cell_drew) | with_reducible exact (below_set4 H2.out (by omega) _ _ _ _).cell (p := ⟨b, o, none⟩) h | with_reducible exact (below_set4 H1.out (by omega) _ _ _ _).cell (p := ⟨b, o, none⟩) h))
          clear hK K hHeld
          try simp only [Act.put, List.setIfInBounds_toArray, List.set_cons_zero, List.set_cons_succ]
          refine wpAnyH_ready (rs := [8]) (by kernel_rfl) (by simp) ?_
          refine AllReadyH.cons (o := _) rfl (fun K hK => ?_) ?_
          · skip
            go_simp
            refine hK.out _ _ ?_ (fun hHeld => ?_)
            · (try dsimp only); ((intro b o h; first | with_reducible exact c2 b o h | with_reducible exact c1 b o h | with_reducible exact cell_drew | with_reducible exact cell_drew.trans (cell_alloc h) | (with_reducible refine (cell_alloc (by (try simp); omega)).trans ?_; first | with_reducible exact c2 b o h | with_reducible exact c1 b o h | with_reducible exact cell_drew) | with_reducible exact (below_set4 H2.out (by omega) _ _ _ _).cell (p := ⟨b, o, none⟩) h | with_reducible exact (below_set4 H1.out (by omega) _ _ _ _).cell (p := ⟨b, o, none⟩) h))
            clear hK K hHeld
            try simp only [Act.put, List.setIfInBounds_toArray, List.set_cons_zero, List.set_cons_succ]
            refine wpAnyH_done (by kernel_rfl) ?_ _
            refine NoPanic.normal ?_
            go_wp2_with (fail)
            go_meet
            refine ⟨_, rfl, ?_, ?_⟩
            all_goals (first | with_reducible exact Z.set4 (.int .u64 (limb x1 0 : Int)) (.int .u64 (limb x1 1 : Int)) (.int .u64 (limb x1 2 : Int)) (.int .u64 (limb x1 3 : Int)) | with_reducible exact below_set4 H2.out (by omega) (.int .u64 (limb x1 0 : Int)) (.int .u64 (limb x1 1 : Int)) (.int .u64 (limb x1 2 : Int)) (.int .u64 (limb x1 3 : Int)) | with_reducible exact Blk.new rfl | with_reducible exact H2.out.alloc H2.out.size _)
          exact AllReadyH.nil
        exact AllReadyH.nil
      exact AllReadyH.nil
    refine AllReadyH.cons (o := _) rfl (fun K hK => ?_) ?_
    · skip
      go_simp
      refine hK.out _ _ ?_ (fun hHeld => ?_)
      · (try dsimp only); ((intro b o h; first | with_reducible exact c2 b o h | with_reducible exact c1 b o h | with_reducible exact cell_drew | with_reducible exact cell_drew.trans (cell_alloc h) | (with_reducible refine (cell_alloc (by (try simp); omega)).trans ?_; first | with_reducible exact c2 b o h | with_reducible exact c1 b o h | with_reducible exact cell_drew) | with_reducible exact (below_set4 H2.out (by omega) _ _ _ _).cell (p := ⟨b, o, none⟩) h | with_reducible exact (below_set4 H1.out (by omega) _ _ _ _).cell (p := ⟨b, o, none⟩) h))
      clear hK K hHeld
      try simp only [Act.put, List.setIfInBounds_toArray, List.set_cons_zero, List.set_cons_succ]
      refine wpAnyH_ready (rs := [5]) (by kernel_rfl) (by simp) ?_
      refine AllReadyH.cons (o := _) rfl (fun K hK => ?_) ?_
      · skip
        go_simp
        (go_at_call 41; refine (N1.out _).mono ?_; rintro e ra1 ⟨rfl, b9⟩; have H1 : Hid (Below v1.heap.size v1 ra1) := hid (by first | exact (Below.drew (Below.refl _ v1)).trans b9 | exact ((Below.drew (Below.refl _ v1)).alloc (Nat.le_refl _) _).trans (b9.mono (by simp)) | exact (Below.drew ((Below.refl _ v1).alloc (Nat.le_refl _) _)).trans (b9.mono (by simp))); (try (have Z : Blk ra1 v1.heap.size 42 [.int .u64 0, .int .u64 0, .int .u64 0, .int .u64 0] := (by first | exact Blk.keep (Blk.drew (Blk.new rfl)) b9 | exact Blk.keep (Blk.new rfl) b9))); clear b9; have c1 := bcell H1.out; have z1 := H1.out.size)
        try go_wp2_with fail
        refine hK.out _ _ ?_ (fun hHeld => ?_)
        · (try dsimp only); ((intro b o h; first | with_reducible exact c2 b o h | with_reducible exact c1 b o h | with_reducible exact cell_drew | with_reducible exact cell_drew.trans (cell_alloc h) | (with_reducible refine (cell_alloc (by (try simp); omega)).trans ?_; first | with_reducible exact c2 b o h | with_reducible exact c1 b o h | with_reducible exact cell_drew) | with_reducible exact (below_set4 H2.out (by omega) _ _ _ _).cell (p := ⟨b, o, none⟩) h | with_reducible exact (below_set4 H1.out (by omega) _ _ _ _).cell (p := ⟨b, o, none⟩) h))
        clear hK K hHeld
        try simp only [Act.put, List.setIfInBounds_toArray, List.set_cons_zero, List.set_cons_succ]
        refine wpAnyH_ready (rs := [6]) (by kernel_rfl) (by simp) ?_
        refine AllReadyH.cons (o := _) rfl (fun K hK => ?_) ?_
        · skip
          go_simp
          (go_at_call 40; refine (T1.out _).mono ?_; rintro e ra2 ⟨rfl, b9⟩; have H2 : Hid (Below v1.heap.size v1 ra2) := hid (by first | exact H1.out.trans (b9.mono H1.out.size) | exact (H1.out.alloc H1.out.size _).trans (b9.mono (by have := H1.out.size; simp; omega))); (first | (replace Z := Z.keep b9) | (have Z : Blk ra2 ra1.heap.size 42 [.int .u64 0, .int .u64 0, .int .u64 0, .int .u64 0] := Blk.keep (Blk.new rfl) b9) | skip); (try (have zz := Z.lt; have y0 := Z.cell (i := 0) rfl; have yf0 := Z.frozen 0; have y1 := Z.cell (i := 1) rfl; have yf1 := Z.frozen 1; have y2 := Z.cell (i := 2) rfl; have yf2 := Z.frozen 2; have y3 := Z.cell (i := 3) rfl; have yf3 := Z.frozen 3)); clear b9; have c2 := bcell H2.out; have z2 := H2.out.size)
          try go_wp2_with fail
          refine hK.out _ _ ?_ (fun hHeld => ?_)
          · (try dsimp only); ((intro b o h; first | with_reducible exact c2 b o h | with_reducible exact c1 b o h | with_reducible exact cell_drew | with_reducible exact cell_drew.trans (cell_alloc h) | (with_reducible refine (cell_alloc (by (try simp); omega)).trans ?_; first | with_reducible exact c2 b o h | with_reducible exact c1 b o h | with_reducible exact cell_drew) | with_reducible exact (below_set4 H2.out (by omega) _ _ _ _).cell (p := ⟨b, o, none⟩) h | with_reducible exact (below_set4 H1.out (by omega) _ _ _ _).cell (p := ⟨b, o, none⟩) h))
          clear hK K hHeld
          try simp only [Act.put, List.setIfInBounds_toArray, List.set_cons_zero, List.set_cons_succ]
          refine wpAnyH_ready (rs := [8]) (by kernel_rfl) (by simp) ?_
          refine AllReadyH.cons (o := _) rfl (fun K hK => ?_) ?_
          · skip
            go_simp
            refine hK.out _ _ ?_ (fun hHeld => ?_)
            · (try dsimp only); ((intro b o h; first | with_reducible exact c2 b o h | with_reducible exact c1 b o h | with_reducible exact cell_drew | with_reducible exact cell_drew.trans (cell_alloc h) | (with_reducible refine (cell_alloc (by (try simp); omega)).trans ?_; first | with_reducible exact c2 b o h | with_reducible exact c1 b o h | with_reducible exact cell_drew) | with_reducible exact (below_set4 H2.out (by omega) _ _ _ _).cell (p := ⟨b, o, none⟩) h | with_reducible exact (below_set4 H1.out (by omega) _ _ _ _).cell (p := ⟨b, o, none⟩) h))
            clear hK K hHeld
            try simp only [Act.put, List.setIfInBounds_toArray, List.set_cons_zero, List.set_cons_succ]
            refine wpAnyH_done (by kernel_rfl) ?_ _
            refine NoPanic.normal ?_
            go_wp2_with (fail)
            go_meet
            refine ⟨_, rfl, ?_, ?_⟩
            all_goals (first | with_reducible exact Z.set4 (.int .u64 (limb x1 0 : Int)) (.int .u64 (limb x1 1 : Int)) (.int .u64 (limb x1 2 : Int)) (.int .u64 (limb x1 3 : Int)) | with_reducible exact below_set4 H2.out (by omega) (.int .u64 (limb x1 0 : Int)) (.int .u64 (limb x1 1 : Int)) (.int .u64 (limb x1 2 : Int)) (.int .u64 (limb x1 3 : Int)) | with_reducible exact Blk.new rfl | with_reducible exact H2.out.alloc H2.out.size _)
          exact AllReadyH.nil
        exact AllReadyH.nil
      exact AllReadyH.nil
    exact AllReadyH.nil
  case rest =>
    obtain ⟨bL, rfl, hx9, hbel⟩ := hcut
    obtain ⟨wc1, hwc⟩ : ∃ v, wc = v := ⟨_, rfl⟩
    rw [hwc] at hx9 hbel ⊢
    clear hwc
    clear z_F c_F0 c_F1 c_F2 c_F3 c_F4 c_F5 c_F6 c_F7 c_F8 c_F9 c_F10 c_F11 c_F12 c_F13 z_A c_R
    replace X_F := X_F.keep hbel
    replace X_R := X_R.keep hbel
    replace N_A := hid (N_A.out.below hbel)
    replace BW := hid (BW.out.trans (hbel.mono BW.out.size))
    clear hbel
    have X_L := hx9
    clear hx9
    have z_F := X_F.lt
    have c_F0 := X_F.cell (i := 0) rfl
    have c_F1 := X_F.cell (i := 1) rfl
    have c_F2 := X_F.cell (i := 2) rfl
    have c_F3 := X_F.cell (i := 3) rfl
    have c_F4 := X_F.cell (i := 4) rfl
    have c_F5 := X_F.cell (i := 5) rfl
    have c_F6 := X_F.cell (i := 6) rfl
    have c_F7 := X_F.cell (i := 7) rfl
    have c_F8 := X_F.cell (i := 8) rfl
    have c_F9 := X_F.cell (i := 9) rfl
    have c_F10 := X_F.cell (i := 10) rfl
    have c_F11 := X_F.cell (i := 11) rfl
    have c_F12 := X_F.cell (i := 12) rfl
    have c_F13 := X_F.cell (i := 13) rfl
    have z_A := N_A.out.lt (by omega)
    have c_R := N_A.out.range (o := 32) EH2.out (by omega)
    go_upto_region 4 with (fail)
    go_cut [7] (fun t wx => ∃ br, t = .pointer (some ⟨br, 0, none⟩) ∧ Blk wx br 42 [.int .u64 (limb x2 0 : Int), .int .u64 (limb x2 1 : Int), .int .u64 (limb x2 2 : Int), .int .u64 (limb x2 3 : Int)] ∧ Below wc1.heap.size wc1 wx)
    case first =>
      refine wp_region_noPanic ?_
      refine wp_region_held_drew (S := (fun w' => ∀ b o, b < wc1.heap.size → w'.cell? ⟨b, o, none⟩ = wc1.cell? ⟨b, o, none⟩)) (by kernel_rfl) ?_ (fun hHeld => ?_)
      · ((intro b o h; first | with_reducible exact c2 b o h | with_reducible exact c1 b o h | with_reducible exact cell_drew | with_reducible exact cell_drew.trans (cell_alloc h) | (with_reducible refine (cell_alloc (by (try simp); omega)).trans ?_; first | with_reducible exact c2 b o h | with_reducible exact c1 b o h | with_reducible exact cell_drew) | with_reducible exact (below_set4 H2.out (by omega) _ _ _ _).cell (p := ⟨b, o, none⟩) h | with_reducible exact (below_set4 H1.out (by omega) _ _ _ _).cell (p := ⟨b, o, none⟩) h))
      refine wpAnyH_take (i := 0) (oi := _) (v := .agg #[.int .i64 (fID b), .int .u64 (limb (fP b) 0 : Int), .int .u64 (limb (fP b) 1 : Int), .int .u64 (limb (fP b) 2 : Int), .int .u64 (limb (fP b) 3 : Int), .int .u64 (fI b : Int), .int .u64 (limb (fO b) 0 : Int), .int .u64 (limb (fO b) 1 : Int), .int .u64 (limb (fO b) 2 : Int), .int .u64 (limb (fO b) 3 : Int), .int .u64 (limb (fS b) 0 : Int), .int .u64 (limb (fS b) 1 : Int), .int .u64 (limb (fS b) 2 : Int), .int .u64 (limb (fS b) 3 : Int)]) rfl (by kernel_rfl) (by kernel_rfl) (by kernel_rfl) (fun _ _ _ h => h) (Or.inl ⟨by rfl, ?_⟩) (by assumption) ?_
      · intro w hSw; (try dsimp only at hSw); go_simp
      try simp only [Act.put, List.setIfInBounds_toArray, List.set_cons_zero, List.set_cons_succ]
      refine wpAnyH_take (i := 1) (oi := _) (v := .slice (some ⟨g, 0, none⟩) 64 cap) rfl (by kernel_rfl) (by kernel_rfl) (by kernel_rfl) (fun _ _ _ h => h) (Or.inl ⟨by rfl, ?_⟩) (by assumption) ?_
      · intro w hSw; (try dsimp only at hSw); go_simp
      try simp only [Act.put, List.setIfInBounds_toArray, List.set_cons_zero, List.set_cons_succ]
      refine wpAnyH_take (i := 2) (oi := _) (v := .slice (some ⟨g, 32, none⟩) 32 (cap - 32)) rfl (by kernel_rfl) (by kernel_rfl) (by kernel_rfl) (fun _ _ _ h => h) (Or.inl ⟨by rfl, ?_⟩) (by assumption) ?_
      · intro w hSw; (try dsimp only at hSw); go_simp
      try simp only [Act.put, List.setIfInBounds_toArray, List.set_cons_zero, List.set_cons_succ]
      refine wpAnyH_take (i := 3) (oi := _) (v := .pointer (some ⟨g, 32, none⟩)) rfl (by kernel_rfl) (by kernel_rfl) (by kernel_rfl) (fun _ _ _ h => h) (Or.inl ⟨by rfl, ?_⟩) (by assumption) ?_
      · intro w hSw; (try dsimp only at hSw); go_simp
      try simp only [Act.put, List.setIfInBounds_toArray, List.set_cons_zero, List.set_cons_succ]
      refine wpAnyH_take (i := 4) (oi := _) (v := .agg cs2.toArray) rfl (by kernel_rfl) (by kernel_rfl) (by kernel_rfl) (fun _ _ _ h => h) (yieldsIf_load_mid (by rfl) _ _ rfl _ _ rfl cs2 _ (fun w hSw => range_cell c_R (fun b o h => hSw b o h) z_A) uA rfl i2) (by assumption) ?_
      try simp only [Act.put, List.setIfInBounds_toArray, List.set_cons_zero, List.set_cons_succ]
      clear hHeld
      refine wpAnyH_ready (rs := [5, 7]) (by kernel_rfl) (by simp) ?_
      refine AllReadyH.cons (o := _) rfl (fun K hK => ?_) ?_
      · skip
        go_simp
        (go_at_call 41; refine (N2.out _).mono ?_; rintro e rb1 ⟨rfl, b9⟩; have H1 : Hid (Below wc1.heap.size wc1 rb1) := hid (by first | exact (Below.drew (Below.refl _ wc1)).trans b9 | exact ((Below.drew (Below.refl _ wc1)).alloc (Nat.le_refl _) _).trans (b9.mono (by simp)) | exact (Below.drew ((Below.refl _ wc1).alloc (Nat.le_refl _) _)).trans (b9.mono (by simp))); (try (have Z : Blk rb1 wc1.heap.size 42 [.int .u64 0, .int .u64 0, .int .u64 0, .int .u64 0] := (by first | exact Blk.keep (Blk.drew (Blk.new rfl)) b9 | exact Blk.keep (Blk.new rfl) b9))); clear b9; have c1 := bcell H1.out; have z1 := H1.out.size)
        try go_wp2_with fail
        refine hK.out _ _ ?_ (fun hHeld => ?_)
        · (try dsimp only); ((intro b o h; first | with_reducible exact c2 b o h | with_reducible exact c1 b o h | with_reducible exact cell_drew | with_reducible exact cell_drew.trans (cell_alloc h) | (with_reducible refine (cell_alloc (by (try simp); omega)).trans ?_; first | with_reducible exact c2 b o h | with_reducible exact c1 b o h | with_reducible exact cell_drew) | with_reducible exact (below_set4 H2.out (by omega) _ _ _ _).cell (p := ⟨b, o, none⟩) h | with_reducible exact (below_set4 H1.out (by omega) _ _ _ _).cell (p := ⟨b, o, none⟩) h))
        clear hK K hHeld
        try simp only [Act.put, List.setIfInBounds_toArray, List.set_cons_zero, List.set_cons_succ]
        refine wpAnyH_ready (rs := [6, 7]) (by kernel_rfl) (by simp) ?_
        refine AllReadyH.cons (o := _) rfl (fun K hK => ?_) ?_
        · skip
          go_simp
          (go_at_call 40; refine (T2.out _).mono ?_; rintro e rb2 ⟨rfl, b9⟩; have H2 : Hid (Below wc1.heap.size wc1 rb2) := hid (by first | exact H1.out.trans (b9.mono H1.out.size) | exact (H1.out.alloc H1.out.size _).trans (b9.mono (by have := H1.out.size; simp; omega))); (first | (replace Z := Z.keep b9) | (have Z : Blk rb2 rb1.heap.size 42 [.int .u64 0, .int .u64 0, .int .u64 0, .int .u64 0] := Blk.keep (Blk.new rfl) b9) | skip); (try (have zz := Z.lt; have y0 := Z.cell (i := 0) rfl; have yf0 := Z.frozen 0; have y1 := Z.cell (i := 1) rfl; have yf1 := Z.frozen 1; have y2 := Z.cell (i := 2) rfl; have yf2 := Z.frozen 2; have y3 := Z.cell (i := 3) rfl; have yf3 := Z.frozen 3)); clear b9; have c2 := bcell H2.out; have z2 := H2.out.size)
          try go_wp2_with fail
          refine hK.out _ _ ?_ (fun hHeld => ?_)
          · (try dsimp only); ((intro b o h; first | with_reducible exact c2 b o h | with_reducible exact c1 b o h | with_reducible exact cell_drew | with_reducible exact cell_drew.trans (cell_alloc h) | (with_reducible refine (cell_alloc (by (try simp); omega)).trans ?_; first | with_reducible exact c2 b o h | with_reducible exact c1 b o h | with_reducible exact cell_drew) | with_reducible exact (below_set4 H2.out (by omega) _ _ _ _).cell (p := ⟨b, o, none⟩) h | with_reducible exact (below_set4 H1.out (by omega) _ _ _ _).cell (p := ⟨b, o, none⟩) h))
          clear hK K hHeld
          try simp only [Act.put, List.setIfInBounds_toArray, List.set_cons_zero, List.set_cons_succ]
          refine wpAnyH_ready (rs := [7]) (by kernel_rfl) (by simp) ?_
          refine AllReadyH.cons (o := _) rfl (fun K hK => ?_) ?_
          · skip
            go_simp
            refine hK.out _ _ ?_ (fun hHeld => ?_)
            · (try dsimp only); ((intro b o h; first | with_reducible exact c2 b o h | with_reducible exact c1 b o h | with_reducible exact cell_drew | with_reducible exact cell_drew.trans (cell_alloc h) | (with_reducible refine (cell_alloc (by (try simp); omega)).trans ?_; first | with_reducible exact c2 b o h | with_reducible exact c1 b o h | with_reducible exact cell_drew) | with_reducible exact (below_set4 H2.out (by omega) _ _ _ _).cell (p := ⟨b, o, none⟩) h | with_reducible exact (below_set4 H1.out (by omega) _ _ _ _).cell (p := ⟨b, o, none⟩) h))
            clear hK K hHeld
            try simp only [Act.put, List.setIfInBounds_toArray, List.set_cons_zero, List.set_cons_succ]
            refine wpAnyH_ready (rs := [8]) (by kernel_rfl) (by simp) ?_
            refine AllReadyH.cons (o := _) rfl (fun K hK => ?_) ?_
            · skip
              go_simp
              refine hK.out _ _ ?_ (fun hHeld => ?_)
              · (try dsimp only); ((intro b o h; first | with_reducible exact c2 b o h | with_reducible exact c1 b o h | with_reducible exact cell_drew | with_reducible exact cell_drew.trans (cell_alloc h) | (with_reducible refine (cell_alloc (by (try simp); omega)).trans ?_; first | with_reducible exact c2 b o h | with_reducible exact c1 b o h | with_reducible exact cell_drew) | with_reducible exact (below_set4 H2.out (by omega) _ _ _ _).cell (p := ⟨b, o, none⟩) h | with_reducible exact (below_set4 H1.out (by omega) _ _ _ _).cell (p := ⟨b, o, none⟩) h))
              clear hK K hHeld
              try simp only [Act.put, List.setIfInBounds_toArray, List.set_cons_zero, List.set_cons_succ]
              refine wpAnyH_done (by kernel_rfl) ?_ _
              refine NoPanic.normal ?_
              go_wp2_with (fail)
              go_meet
              refine ⟨_, rfl, ?_, ?_⟩
              all_goals (first | with_reducible exact Z.set4 (.int .u64 (limb x2 0 : Int)) (.int .u64 (limb x2 1 : Int)) (.int .u64 (limb x2 2 : Int)) (.int .u64 (limb x2 3 : Int)) | with_reducible exact below_set4 H2.out (by omega) (.int .u64 (limb x2 0 : Int)) (.int .u64 (limb x2 1 : Int)) (.int .u64 (limb x2 2 : Int)) (.int .u64 (limb x2 3 : Int)) | with_reducible exact Blk.new rfl | with_reducible exact H2.out.alloc H2.out.size _)
            exact AllReadyH.nil
          exact AllReadyH.nil
        refine AllReadyH.cons (o := _) rfl (fun K hK => ?_) ?_
        · skip
          go_simp
          refine hK.out _ _ ?_ (fun hHeld => ?_)
          · (try dsimp only); ((intro b o h; first | with_reducible exact c2 b o h | with_reducible exact c1 b o h | with_reducible exact cell_drew | with_reducible exact cell_drew.trans (cell_alloc h) | (with_reducible refine (cell_alloc (by (try simp); omega)).trans ?_; first | with_reducible exact c2 b o h | with_reducible exact c1 b o h | with_reducible exact cell_drew) | with_reducible exact (below_set4 H2.out (by omega) _ _ _ _).cell (p := ⟨b, o, none⟩) h | with_reducible exact (below_set4 H1.out (by omega) _ _ _ _).cell (p := ⟨b, o, none⟩) h))
          clear hK K hHeld
          try simp only [Act.put, List.setIfInBounds_toArray, List.set_cons_zero, List.set_cons_succ]
          refine wpAnyH_ready (rs := [6]) (by kernel_rfl) (by simp) ?_
          refine AllReadyH.cons (o := _) rfl (fun K hK => ?_) ?_
          · skip
            go_simp
            (go_at_call 40; refine (T2.out _).mono ?_; rintro e rb2 ⟨rfl, b9⟩; have H2 : Hid (Below wc1.heap.size wc1 rb2) := hid (by first | exact H1.out.trans (b9.mono H1.out.size) | exact (H1.out.alloc H1.out.size _).trans (b9.mono (by have := H1.out.size; simp; omega))); (first | (replace Z := Z.keep b9) | (have Z : Blk rb2 rb1.heap.size 42 [.int .u64 0, .int .u64 0, .int .u64 0, .int .u64 0] := Blk.keep (Blk.new rfl) b9) | skip); (try (have zz := Z.lt; have y0 := Z.cell (i := 0) rfl; have yf0 := Z.frozen 0; have y1 := Z.cell (i := 1) rfl; have yf1 := Z.frozen 1; have y2 := Z.cell (i := 2) rfl; have yf2 := Z.frozen 2; have y3 := Z.cell (i := 3) rfl; have yf3 := Z.frozen 3)); clear b9; have c2 := bcell H2.out; have z2 := H2.out.size)
            try go_wp2_with fail
            refine hK.out _ _ ?_ (fun hHeld => ?_)
            · (try dsimp only); ((intro b o h; first | with_reducible exact c2 b o h | with_reducible exact c1 b o h | with_reducible exact cell_drew | with_reducible exact cell_drew.trans (cell_alloc h) | (with_reducible refine (cell_alloc (by (try simp); omega)).trans ?_; first | with_reducible exact c2 b o h | with_reducible exact c1 b o h | with_reducible exact cell_drew) | with_reducible exact (below_set4 H2.out (by omega) _ _ _ _).cell (p := ⟨b, o, none⟩) h | with_reducible exact (below_set4 H1.out (by omega) _ _ _ _).cell (p := ⟨b, o, none⟩) h))
            clear hK K hHeld
            try simp only [Act.put, List.setIfInBounds_toArray, List.set_cons_zero, List.set_cons_succ]
            refine wpAnyH_ready (rs := [8]) (by kernel_rfl) (by simp) ?_
            refine AllReadyH.cons (o := _) rfl (fun K hK => ?_) ?_
            · skip
              go_simp
              refine hK.out _ _ ?_ (fun hHeld => ?_)
              · (try dsimp only); ((intro b o h; first | with_reducible exact c2 b o h | with_reducible exact c1 b o h | with_reducible exact cell_drew | with_reducible exact cell_drew.trans (cell_alloc h) | (with_reducible refine (cell_alloc (by (try simp); omega)).trans ?_; first | with_reducible exact c2 b o h | with_reducible exact c1 b o h | with_reducible exact cell_drew) | with_reducible exact (below_set4 H2.out (by omega) _ _ _ _).cell (p := ⟨b, o, none⟩) h | with_reducible exact (below_set4 H1.out (by omega) _ _ _ _).cell (p := ⟨b, o, none⟩) h))
              clear hK K hHeld
              try simp only [Act.put, List.setIfInBounds_toArray, List.set_cons_zero, List.set_cons_succ]
              refine wpAnyH_done (by kernel_rfl) ?_ _
              refine NoPanic.normal ?_
              go_wp2_with (fail)
              go_meet
              refine ⟨_, rfl, ?_, ?_⟩
              all_goals (first | with_reducible exact Z.set4 (.int .u64 (limb x2 0 : Int)) (.int .u64 (limb x2 1 : Int)) (.int .u64 (limb x2 2 : Int)) (.int .u64 (limb x2 3 : Int)) | with_reducible exact below_set4 H2.out (by omega) (.int .u64 (limb x2 0 : Int)) (.int .u64 (limb x2 1 : Int)) (.int .u64 (limb x2 2 : Int)) (.int .u64 (limb x2 3 : Int)) | with_reducible exact Blk.new rfl | with_reducible exact H2.out.alloc H2.out.size _)
            exact AllReadyH.nil
          exact AllReadyH.nil
        exact AllReadyH.nil
      refine AllReadyH.cons (o := _) rfl (fun K hK => ?_) ?_
      · skip
        go_simp
        refine hK.out _ _ ?_ (fun hHeld => ?_)
        · (try dsimp only); ((intro b o h; first | with_reducible exact c2 b o h | with_reducible exact c1 b o h | with_reducible exact cell_drew | with_reducible exact cell_drew.trans (cell_alloc h) | (with_reducible refine (cell_alloc (by (try simp); omega)).trans ?_; first | with_reducible exact c2 b o h | with_reducible exact c1 b o h | with_reducible exact cell_drew) | with_reducible exact (below_set4 H2.out (by omega) _ _ _ _).cell (p := ⟨b, o, none⟩) h | with_reducible exact (below_set4 H1.out (by omega) _ _ _ _).cell (p := ⟨b, o, none⟩) h))
        clear hK K hHeld
        try simp only [Act.put, List.setIfInBounds_toArray, List.set_cons_zero, List.set_cons_succ]
        refine wpAnyH_ready (rs := [5]) (by kernel_rfl) (by simp) ?_
        refine AllReadyH.cons (o := _) rfl (fun K hK => ?_) ?_
        · skip
          go_simp
          (go_at_call 41; refine (N2.out _).mono ?_; rintro e rb1 ⟨rfl, b9⟩; have H1 : Hid (Below wc1.heap.size wc1 rb1) := hid (by first | exact (Below.drew (Below.refl _ wc1)).trans b9 | exact ((Below.drew (Below.refl _ wc1)).alloc (Nat.le_refl _) _).trans (b9.mono (by simp)) | exact (Below.drew ((Below.refl _ wc1).alloc (Nat.le_refl _) _)).trans (b9.mono (by simp))); (try (have Z : Blk rb1 wc1.heap.size 42 [.int .u64 0, .int .u64 0, .int .u64 0, .int .u64 0] := (by first | exact Blk.keep (Blk.drew (Blk.new rfl)) b9 | exact Blk.keep (Blk.new rfl) b9))); clear b9; have c1 := bcell H1.out; have z1 := H1.out.size)
          try go_wp2_with fail
          refine hK.out _ _ ?_ (fun hHeld => ?_)
          · (try dsimp only); ((intro b o h; first | with_reducible exact c2 b o h | with_reducible exact c1 b o h | with_reducible exact cell_drew | with_reducible exact cell_drew.trans (cell_alloc h) | (with_reducible refine (cell_alloc (by (try simp); omega)).trans ?_; first | with_reducible exact c2 b o h | with_reducible exact c1 b o h | with_reducible exact cell_drew) | with_reducible exact (below_set4 H2.out (by omega) _ _ _ _).cell (p := ⟨b, o, none⟩) h | with_reducible exact (below_set4 H1.out (by omega) _ _ _ _).cell (p := ⟨b, o, none⟩) h))
          clear hK K hHeld
          try simp only [Act.put, List.setIfInBounds_toArray, List.set_cons_zero, List.set_cons_succ]
          refine wpAnyH_ready (rs := [6]) (by kernel_rfl) (by simp) ?_
          refine AllReadyH.cons (o := _) rfl (fun K hK => ?_) ?_
          · skip
            go_simp
            (go_at_call 40; refine (T2.out _).mono ?_; rintro e rb2 ⟨rfl, b9⟩; have H2 : Hid (Below wc1.heap.size wc1 rb2) := hid (by first | exact H1.out.trans (b9.mono H1.out.size) | exact (H1.out.alloc H1.out.size _).trans (b9.mono (by have := H1.out.size; simp; omega))); (first | (replace Z := Z.keep b9) | (have Z : Blk rb2 rb1.heap.size 42 [.int .u64 0, .int .u64 0, .int .u64 0, .int .u64 0] := Blk.keep (Blk.new rfl) b9) | skip); (try (have zz := Z.lt; have y0 := Z.cell (i := 0) rfl; have yf0 := Z.frozen 0; have y1 := Z.cell (i := 1) rfl; have yf1 := Z.frozen 1; have y2 := Z.cell (i := 2) rfl; have yf2 := Z.frozen 2; have y3 := Z.cell (i := 3) rfl; have yf3 := Z.frozen 3)); clear b9; have c2 := bcell H2.out; have z2 := H2.out.size)
            try go_wp2_with fail
            refine hK.out _ _ ?_ (fun hHeld => ?_)
            · (try dsimp only); ((intro b o h; first | with_reducible exact c2 b o h | with_reducible exact c1 b o h | with_reducible exact cell_drew | with_reducible exact cell_drew.trans (cell_alloc h) | (with_reducible refine (cell_alloc (by (try simp); omega)).trans ?_; first | with_reducible exact c2 b o h | with_reducible exact c1 b o h | with_reducible exact cell_drew) | with_reducible exact (below_set4 H2.out (by omega) _ _ _ _).cell (p := ⟨b, o, none⟩) h | with_reducible exact (below_set4 H1.out (by omega) _ _ _ _).cell (p := ⟨b, o, none⟩) h))
            clear hK K hHeld
            try simp only [Act.put, List.setIfInBounds_toArray, List.set_cons_zero, List.set_cons_succ]
            refine wpAnyH_ready (rs := [8]) (by kernel_rfl) (by simp) ?_
            refine AllReadyH.cons (o := _) rfl (fun K hK => ?_) ?_
            · skip
              go_simp
              refine hK.out _ _ ?_ (fun hHeld => ?_)
              · (try dsimp only); ((intro b o h; first | with_reducible exact c2 b o h | with_reducible exact c1 b o h | with_reducible exact cell_drew | with_reducible exact cell_drew.trans (cell_alloc h) | (with_reducible refine (cell_alloc (by (try simp); omega)).trans ?_; first | with_reducible exact c2 b o h | with_reducible exact c1 b o h | with_reducible exact cell_drew) | with_reducible exact (below_set4 H2.out (by omega) _ _ _ _).cell (p := ⟨b, o, none⟩) h | with_reducible exact (below_set4 H1.out (by omega) _ _ _ _).cell (p := ⟨b, o, none⟩) h))
              clear hK K hHeld
              try simp only [Act.put, List.setIfInBounds_toArray, List.set_cons_zero, List.set_cons_succ]
              refine wpAnyH_done (by kernel_rfl) ?_ _
              refine NoPanic.normal ?_
              go_wp2_with (fail)
              go_meet
              refine ⟨_, rfl, ?_, ?_⟩
              all_goals (first | with_reducible exact Z.set4 (.int .u64 (limb x2 0 : Int)) (.int .u64 (limb x2 1 : Int)) (.int .u64 (limb x2 2 : Int)) (.int .u64 (limb x2 3 : Int)) | with_reducible exact below_set4 H2.out (by omega) (.int .u64 (limb x2 0 : Int)) (.int .u64 (limb x2 1 : Int)) (.int .u64 (limb x2 2 : Int)) (.int .u64 (limb x2 3 : Int)) | with_reducible exact Blk.new rfl | with_reducible exact H2.out.alloc H2.out.size _)
            exact AllReadyH.nil
          exact AllReadyH.nil
        exact AllReadyH.nil
      exact AllReadyH.nil
    case rest =>
      obtain ⟨bU, rfl, hx9, hbel⟩ := hcut
      obtain ⟨wc2, hwc⟩ : ∃ v, wc = v := ⟨_, rfl⟩
      rw [hwc] at hx9 hbel ⊢
      clear hwc
      clear z_F c_F0 c_F1 c_F2 c_F3 c_F4 c_F5 c_F6 c_F7 c_F8 c_F9 c_F10 c_F11 c_F12 c_F13 z_A c_R
      replace X_F := X_F.keep hbel
      replace X_R := X_R.keep hbel
      replace X_L := X_L.keep hbel
      replace N_A := hid (N_A.out.below hbel)
      replace BW := hid (BW.out.trans (hbel.mono BW.out.size))
      clear hbel
      have X_U := hx9
      clear hx9
      have z_F := X_F.lt
      have c_F0 := X_F.cell (i := 0) rfl
      have c_F1 := X_F.cell (i := 1) rfl
      have c_F2 := X_F.cell (i := 2) rfl
      have c_F3 := X_F.cell (i := 3) rfl
      have c_F4 := X_F.cell (i := 4) rfl
      have c_F5 := X_F.cell (i := 5) rfl
      have c_F6 := X_F.cell (i := 6) rfl
      have c_F7 := X_F.cell (i := 7) rfl
      have c_F8 := X_F.cell (i := 8) rfl
      have c_F9 := X_F.cell (i := 9) rfl
      have c_F10 := X_F.cell (i := 10) rfl
      have c_F11 := X_F.cell (i := 11) rfl
      have c_F12 := X_F.cell (i := 12) rfl
      have c_F13 := X_F.cell (i := 13) rfl
      have z_L := X_L.lt
      have c_L0 := X_L.cell (i := 0) rfl
      have c_L1 := X_L.cell (i := 1) rfl
      have c_L2 := X_L.cell (i := 2) rfl
      have c_L3 := X_L.cell (i := 3) rfl
      have z_U := X_U.lt
      have c_U0 := X_U.cell (i := 0) rfl
      have c_U1 := X_U.cell (i := 1) rfl
      have c_U2 := X_U.cell (i := 2) rfl
      have c_U3 := X_U.cell (i := 3) rfl
      go_upto_region 5 with (fail)
      refine wp_region_soft (C := fun W' => Below wc2.heap.size wc2 W') 8 (by kernel_rfl) (by kernel_rfl) ((Below.refl _ _).drew) ?_
      simp only [List.take_succ_cons, List.take_zero, List.drop_succ_cons, List.drop_zero]
      refine wpQuiet_step (fun K hK => ?_)
      rw [if_pos (by rfl)]
      refine ⟨.agg #[.int .i64 (fID b), .int .u64 (limb (fP b) 0 : Int), .int .u64 (limb (fP b) 1 : Int), .int .u64 (limb (fP b) 2 : Int), .int .u64 (limb (fP b) 3 : Int), .int .u64 (fI b : Int), .int .u64 (limb (fO b) 0 : Int), .int .u64 (limb (fO b) 1 : Int), .int .u64 (limb (fO b) 2 : Int), .int .u64 (limb (fO b) 3 : Int), .int .u64 (limb (fS b) 0 : Int), .int .u64 (limb (fS b) 1 : Int), .int .u64 (limb (fS b) 2 : Int), .int .u64 (limb (fS b) 3 : Int)], fun W' hW => ?_, hK _ ?_⟩
      · have e_0 := (hW.cell (p := ⟨bF, 0, none⟩) z_F).trans c_F0
        have e_1 := (hW.cell (p := ⟨bF, 1, none⟩) z_F).trans c_F1
        have e_2 := (hW.cell (p := ⟨bF, 2, none⟩) z_F).trans c_F2
        have e_3 := (hW.cell (p := ⟨bF, 3, none⟩) z_F).trans c_F3
        have e_4 := (hW.cell (p := ⟨bF, 4, none⟩) z_F).trans c_F4
        have e_5 := (hW.cell (p := ⟨bF, 5, none⟩) z_F).trans c_F5
        have e_6 := (hW.cell (p := ⟨bF, 6, none⟩) z_F).trans c_F6
        have e_7 := (hW.cell (p := ⟨bF, 7, none⟩) z_F).trans c_F7
        have e_8 := (hW.cell (p := ⟨bF, 8, none⟩) z_F).trans c_F8
        have e_9 := (hW.cell (p := ⟨bF, 9, none⟩) z_F).trans c_F9
        have e_10 := (hW.cell (p := ⟨bF, 10, none⟩) z_F).trans c_F10
        have e_11 := (hW.cell (p := ⟨bF, 11, none⟩) z_F).trans c_F11
        have e_12 := (hW.cell (p := ⟨bF, 12, none⟩) z_F).trans c_F12
        have e_13 := (hW.cell (p := ⟨bF, 13, none⟩) z_F).trans c_F13
        go_simp
      clear hK K
      simp only [Act.put, List.setIfInBounds_toArray, List.set_cons_zero, List.set_cons_succ]
      refine wpQuiet_step (fun K hK => ?_)
      rw [if_pos (by rfl)]
      refine ⟨vec x1, fun W' hW => ?_, hK _ ?_⟩
      · have e_0 := (hW.cell (p := ⟨bL, 0, none⟩) z_L).trans c_L0
        have e_1 := (hW.cell (p := ⟨bL, 1, none⟩) z_L).trans c_L1
        have e_2 := (hW.cell (p := ⟨bL, 2, none⟩) z_L).trans c_L2
        have e_3 := (hW.cell (p := ⟨bL, 3, none⟩) z_L).trans c_L3
        go_simp
      clear hK K
      simp only [Act.put, List.setIfInBounds_toArray, List.set_cons_zero, List.set_cons_succ]
      refine wpQuiet_step (fun K hK => ?_)
      rw [if_pos (by rfl)]
      refine ⟨.agg #[.int .i64 (fID b), .int .u64 (limb (fP b) 0 : Int), .int .u64 (limb (fP b) 1 : Int), .int .u64 (limb (fP b) 2 : Int), .int .u64 (limb (fP b) 3 : Int), .int .u64 (fI b : Int), .int .u64 (limb (fO b) 0 : Int), .int .u64 (limb (fO b) 1 : Int), .int .u64 (limb (fO b) 2 : Int), .int .u64 (limb (fO b) 3 : Int), .int .u64 (limb (fS b) 0 : Int), .int .u64 (limb (fS b) 1 : Int), .int .u64 (limb (fS b) 2 : Int), .int .u64 (limb (fS b) 3 : Int)], fun W' hW => ?_, hK _ ?_⟩
      · have e_0 := (hW.cell (p := ⟨bF, 0, none⟩) z_F).trans c_F0
        have e_1 := (hW.cell (p := ⟨bF, 1, none⟩) z_F).trans c_F1
        have e_2 := (hW.cell (p := ⟨bF, 2, none⟩) z_F).trans c_F2
        have e_3 := (hW.cell (p := ⟨bF, 3, none⟩) z_F).trans c_F3
        have e_4 := (hW.cell (p := ⟨bF, 4, none⟩) z_F).trans c_F4
        have e_5 := (hW.cell (p := ⟨bF, 5, none⟩) z_F).trans c_F5
        have e_6 := (hW.cell (p := ⟨bF, 6, none⟩) z_F).trans c_F6
        have e_7 := (hW.cell (p := ⟨bF, 7, none⟩) z_F).trans c_F7
        have e_8 := (hW.cell (p := ⟨bF, 8, none⟩) z_F).trans c_F8
        have e_9 := (hW.cell (p := ⟨bF, 9, none⟩) z_F).trans c_F9
        have e_10 := (hW.cell (p := ⟨bF, 10, none⟩) z_F).trans c_F10
        have e_11 := (hW.cell (p := ⟨bF, 11, none⟩) z_F).trans c_F11
        have e_12 := (hW.cell (p := ⟨bF, 12, none⟩) z_F).trans c_F12
        have e_13 := (hW.cell (p := ⟨bF, 13, none⟩) z_F).trans c_F13
        go_simp
      clear hK K
      simp only [Act.put, List.setIfInBounds_toArray, List.set_cons_zero, List.set_cons_succ]
      refine wpQuiet_step (fun K hK => ?_)
      rw [if_pos (by rfl)]
      refine ⟨vec x2, fun W' hW => ?_, hK _ ?_⟩
      · have e_0 := (hW.cell (p := ⟨bU, 0, none⟩) z_U).trans c_U0
        have e_1 := (hW.cell (p := ⟨bU, 1, none⟩) z_U).trans c_U1
        have e_2 := (hW.cell (p := ⟨bU, 2, none⟩) z_U).trans c_U2
        have e_3 := (hW.cell (p := ⟨bU, 3, none⟩) z_U).trans c_U3
        go_simp
      clear hK K
      simp only [Act.put, List.setIfInBounds_toArray, List.set_cons_zero, List.set_cons_succ]
      refine wpQuiet_step (fun K hK => ?_)
      rw [if_pos (by rfl)]
      refine ⟨.pointer (some ⟨bF, 10, none⟩), fun W' hW => ?_, hK _ ?_⟩
      · go_simp
      clear hK K
      simp only [Act.put, List.setIfInBounds_toArray, List.set_cons_zero, List.set_cons_succ]
      refine wpQuiet_step (fun K hK => ?_)
      rw [if_pos (by rfl)]
      refine ⟨vec (fS b), fun W' hW => ?_, hK _ ?_⟩
      · have e_10 := (hW.cell (p := ⟨bF, 10, none⟩) z_F).trans c_F10
        have e_11 := (hW.cell (p := ⟨bF, 11, none⟩) z_F).trans c_F11
        have e_12 := (hW.cell (p := ⟨bF, 12, none⟩) z_F).trans c_F12
        have e_13 := (hW.cell (p := ⟨bF, 13, none⟩) z_F).trans c_F13
        go_simp
      clear hK K
      simp only [Act.put, List.setIfInBounds_toArray, List.set_cons_zero, List.set_cons_succ]
      refine wpQuiet_step (fun K hK => ?_)
      rw [if_pos (by rfl)]
      refine ⟨vec y, fun W' hW => ?_, hK _ ?_⟩
      · go_simp
        refine (M.out _).mono ?_
        rintro e w' ⟨rfl, b⟩
        exact ⟨rfl, hW.trans (b.mono hW.size)⟩
      clear hK K
      simp only [Act.put, List.setIfInBounds_toArray, List.set_cons_zero, List.set_cons_succ]
      refine wpQuiet_step (fun K hK => ?_)
      rw [if_pos (by rfl)]
      refine ⟨vec z, fun W' hW => ?_, hK _ ?_⟩
      · go_simp
        refine (A.out _).mono ?_
        rintro e w' ⟨rfl, b⟩
        exact ⟨rfl, hW.trans (b.mono hW.size)⟩
      clear hK K
      simp only [Act.put, List.setIfInBounds_toArray, List.set_cons_zero, List.set_cons_succ]
      refine wpQuiet_nil ?_
      intro ws2 hW9
      clear z_F c_F0 c_F1 c_F2 c_F3 c_F4 c_F5 c_F6 c_F7 c_F8 c_F9 c_F10 c_F11 c_F12 c_F13 z_L c_L0 c_L1 c_L2 c_L3 z_U c_U0 c_U1 c_U2 c_U3
      replace X_F := X_F.keep hW9
      replace X_R := X_R.keep hW9
      replace X_L := X_L.keep hW9
      replace X_U := X_U.keep hW9
      replace N_A := hid (N_A.out.below hW9)
      replace BW := hid (BW.out.trans (hW9.mono BW.out.size))
      clear hW9
      have z_R := X_R.lt
      have c_R0 := X_R.cell (i := 0) rfl
      have f_R0 := X_R.frozen 0
      have c_R1 := X_R.cell (i := 1) rfl
      have f_R1 := X_R.frozen 1
      have c_R2 := X_R.cell (i := 2) rfl
      have f_R2 := X_R.frozen 2
      have c_R3 := X_R.cell (i := 3) rfl
      have f_R3 := X_R.frozen 3
      have hBW := BW.out
      have zBW := hBW.size
      go_wp2
      refine bodyPost_ret (by simp only [results, Tryd.results32]; go_simp; try rfl) rfl ?_
      exact ⟨rfl, by go_grown⟩
end Go.Proofs.YtaakdmjmanbggaaDoor
