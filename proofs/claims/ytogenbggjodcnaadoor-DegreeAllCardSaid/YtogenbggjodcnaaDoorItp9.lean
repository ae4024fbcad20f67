/-
  Interpolate: the polynomial with some values at the points.
-/
import Derived.Test.YtogenbggjodcnaaDoorLagB
import Derived.Test.YtogenbggjodcnaaDoorDrawn
namespace Go.Proofs.YtogenbggjodcnaaDoor
open Go.RowKit

attribute [local go_sem] Oper.semAt_some
theorem over_all {f g : Nat → Nat} {n : Nat} : ∀ t, t < n → f t = (fun u => if u < n then f u else g u) t := fun t h => by simp [h]
theorem over_none {f g : Nat → Nat} {n : Nat} : ∀ t, t < n → (fun u => if u < 0 then f u else g u) t = g t := fun t _ => by simp
theorem itp_at {p : Nat} (hp : 1 < p) {xs ys : List Nat} (hx : ∀ x ∈ xs, x < p) {i : Nat} (hi : i < xs.length) {t : Nat} (ht : t < xs.length) :
    (itp p xs ys (i + 1)).getD t 0 = addm p ((itp p xs ys i).getD t 0) (mulm p (fac p xs ys i) ((flV p [1] (oth xs i)).getD t 0)) := by
  rw [itp_row hp hx hi, List.getD_eq_getElem?_getD, List.getElem?_map, List.getElem?_range ht]; rfl
theorem rep_zero (n t : Nat) : (List.replicate n 0).getD t 0 = 0 := by
  rw [List.getD_eq_getElem?_getD, List.getElem?_replicate]; split <;> rfl
theorem sl_old {w : World} {a : Option Addr} {n c : Nat} {xs : List Nat} {i y : Nat} (h : NumSl w (.slice a n c) xs) (hy : xs[i]? = some y) : ∀ ad, a = some ad → ad.block < w.heap.size := fun ad e => by
  obtain ⟨g, off, e9, hg, _⟩ := h.at4 hy
  rw [e9] at e; cases e; exact hg
theorem sl_open {w : World} {a : Option Addr} {n c : Nat} {xs : List Nat} {i y : Nat} (h : NumSl w (.slice a n c) xs) (hy : xs[i]? = some y) : ∃ g off, a = some ⟨g, off, none⟩ ∧ g < w.heap.size := by
  obtain ⟨g, off, e9, hg, _⟩ := h.at4 hy
  exact ⟨g, off, e9, hg⟩
set_option maxRecDepth 100000 in
set_option maxHeartbeats 4000000 in
theorem add9 (b : Bool) (i n cw cy nq cq gw gy oy gq oq gO pf pw py po pt base wv yv : Nat) (ov : Nat → Nat) (ws ys qs : List Nat) (w : World)
    (X_F : Blk w pf 31 [.int .i64 (fID b), .int .u64 (limb (fP b) 0 : Int), .int .u64 (limb (fP b) 1 : Int), .int .u64 (limb (fP b) 2 : Int), .int .u64 (limb (fP b) 3 : Int), .int .u64 (fI b : Int), .int .u64 (limb (fO b) 0 : Int), .int .u64 (limb (fO b) 1 : Int), .int .u64 (limb (fO b) 2 : Int), .int .u64 (limb (fO b) 3 : Int), .int .u64 (limb (fS b) 0 : Int), .int .u64 (limb (fS b) 1 : Int), .int .u64 (limb (fS b) 2 : Int), .int .u64 (limb (fS b) 3 : Int)]) (X_W : Blk w pw 34 [.slice (some ⟨gw, 0, none⟩) n cw]) (X_Y : Blk w py 34 [.slice (some ⟨gy, oy, none⟩) n cy]) (X_O : Blk w po 34 [.slice (some ⟨gO, 0, none⟩) n n]) (X_T : Blk w pt 53 [.pointer none])
    (hW : NumSl w (.slice (some ⟨gw, 0, none⟩) n cw) (ws.map (frm (fP b)))) (hY : NumSl w (.slice (some ⟨gy, oy, none⟩) n cy) (ys.map (frm (fP b)))) (hQ : NumSl w (.slice (some ⟨gq, oq, none⟩) nq cq) (qs.map (frm (fP b))))
    (A_q : ∀ ad : Addr, (some ⟨gq, oq, none⟩ : Option Addr) = some ad → ¬ ad.block = gO) (hO : RowF w base 29 gO n n (fun t => frm (fP b) (ov t))) (n_F : pf ≠ gO) (n_O : po ≠ gO) (n_T : pt ≠ gO)
    (hw : ws[i]? = some wv) (hy : ys[i]? = some yv) (hi : i < n) (hl : qs.length = n) (hn : n < 1000000) :
    Calls Tryd.prog 94 #[.int .i64 (i : Int), .slice (some ⟨gq, oq, none⟩) nq cq, .pointer (some ⟨pf, 0, none⟩), .pointer (some ⟨pw, 0, none⟩), .pointer (some ⟨py, 0, none⟩), .pointer (some ⟨po, 0, none⟩), .pointer (some ⟨pt, 0, none⟩)] w (fun e w' => e = .returned (.tuple #[]) ∧ Only (fun k => k = gO) w w' ∧ RowF w' base 29 gO n n (fun t => frm (fP b) (addm (fP b) (ov t) (mulm (fP b) (mulm (fP b) wv yv) (qs.getD t 0))))) := by
  have BW := hid (Only.refl (fun k => k = gO) w)
  have zO := hO.lt
  have R_o := hid hO
  have N_q := hid hQ
  have HL := hid hl
  have HQL := hid (rfl : nq = nq)
  have hp2 := fP_two b
  have hnq : nq = n := by obtain ⟨a9, c9, e9, _, _⟩ := hQ; cases e9; rw [List.length_map, hl]
  obtain ⟨g9, o9, e9, zw, d0, d1, d2, d3⟩ := hW.at4 (k := i) (y := frm (fP b) wv) (by rw [List.getElem?_map, hw]; rfl)
  cases e9
  obtain ⟨g9, o9, e9, zy, q0, q1, q2, q3⟩ := hY.at4 (k := i) (y := frm (fP b) yv) (by rw [List.getElem?_map, hy]; rfl)
  cases e9
  rw [Nat.zero_add] at d0 d1 d2 d3
  have M1 := hid (fun W : World => mmul_any (fID b) (fP b) (fI b) (fO b) (fS b) (frm (fP b) wv) (frm (fP b) yv) (fOK b) (Nat.lt_trans (frm_lt _ (by omega)) (fP_lt b)) (Nat.lt_trans (frm_lt _ (by omega)) (fP_lt b)) (Nat.mul_lt_mul_of_lt_of_lt (Nat.lt_trans (frm_lt _ (by omega)) (fP_lt b)) (frm_lt _ (by omega))) W)
  rw [frm_mulm (fP_inv b)] at M1
  obtain ⟨fv, hfv⟩ : ∃ z, mulm (fP b) wv yv = z := ⟨_, rfl⟩
  rw [hfv] at M1 ⊢
  clear hfv
  obtain ⟨wf, hwf⟩ : ∃ z, frm (fP b) wv = z := ⟨_, rfl⟩
  obtain ⟨yf, hyf⟩ : ∃ z, frm (fP b) yv = z := ⟨_, rfl⟩
  rw [hwf] at M1 d0 d1 d2 d3
  rw [hyf] at M1 q0 q1 q2 q3
  obtain ⟨ff, hff⟩ : ∃ z, frm (fP b) fv = z := ⟨_, rfl⟩
  rw [hff] at M1
  have HFF := hid hff
  clear hwf hyf hff hw hy hO hQ hW hY hl
  have hi0 : (0 : Int) ≤ (i : Int) := by omega
  have hin : (i : Int) < (n : Int) := by omega
  subst hnq
  go_enter Tryd.func94, Tryd.ntmps94
  have z_F := X_F.lt
  have c_F0 := X_F.cell (i := 0) rfl
  have c_F1 := X_F.cell (i := 1) rfl
  have c_F2 := X_F.cell (i := 2) rfl
  have c_F3 := X_F.cell (i := 3) rfl
  have c_F4 := X_F.cell (i := 4) rfl
  have c_F5 := X_F.cell (i := 5) rfl
  have c_F6 := X_F.cell (i := 6) rfl
  have c_F7 := X_F.cell (i := 7) rfl
  have c_F8 := X_F.cell (i := 8) rfl
  have c_F9 := X_F.cell (i := 9) rfl
  have c_F10 := X_F.cell (i := 10) rfl
  have c_F11 := X_F.cell (i := 11) rfl
  have c_F12 := X_F.cell (i := 12) rfl
  have c_F13 := X_F.cell (i := 13) rfl
  have z_W := X_W.lt
  have c_W0 := X_W.cell (i := 0) rfl
  have z_Y := X_Y.lt
  have c_Y0 := X_Y.cell (i := 0) rfl
  go_upto_region 0 with (fail)
  go_cut [9] (fun t0 wx => ∃ br0, t0 = .pointer (some ⟨br0, 0, none⟩) ∧ Blk wx br0 29 [.int .u64 (limb ff 0 : Int), .int .u64 (limb ff 1 : Int), .int .u64 (limb ff 2 : Int), .int .u64 (limb ff 3 : Int)] ∧ w.heap.size ≤ br0 ∧ Below w.heap.size w wx)
  case first =>
    try refine wp_region_noPanic ?_
    refine wp_region_held_drew (S := (fun w' => ∀ b o, b < w.heap.size → w'.cell? ⟨b, o, none⟩ = w.cell? ⟨b, o, none⟩)) (by kernel_rfl) (fun b o h => cell_drew) (fun hHeld => ?_)
    refine wpAnyH_take (i := 0) (oi := _) (v := FV b) rfl (by kernel_rfl) (by kernel_rfl) (by kernel_rfl) (fun _ _ _ h => h) (Or.inl ⟨by rfl, ?_⟩) (by assumption) ?_
    · intro w hSw; (try dsimp only at hSw); go_simp
    try simp only [Act.put, List.setIfInBounds_toArray, List.set_cons_zero, List.set_cons_succ]
    refine wpAnyH_take (i := 1) (oi := _) (v := .slice (some ⟨gw, 0, none⟩) nq cw) rfl (by kernel_rfl) (by kernel_rfl) (by kernel_rfl) (fun _ _ _ h => h) (Or.inl ⟨by rfl, ?_⟩) (by assumption) ?_
    · intro w hSw; (try dsimp only at hSw); go_simp
    try simp only [Act.put, List.setIfInBounds_toArray, List.set_cons_zero, List.set_cons_succ]
    refine wpAnyH_take (i := 2) (oi := _) (v := .int .i64 (i : Int)) rfl (by kernel_rfl) (by kernel_rfl) (by kernel_rfl) (fun _ _ _ h => h) (Or.inl ⟨by rfl, ?_⟩) (by assumption) ?_
    · intro w hSw; (try dsimp only at hSw); go_simp
    try simp only [Act.put, List.setIfInBounds_toArray, List.set_cons_zero, List.set_cons_succ]
    refine wpAnyH_take (i := 3) (oi := _) (v := .pointer (some ⟨gw, i * 4, none⟩)) rfl (by kernel_rfl) (by kernel_rfl) (by kernel_rfl) (fun _ _ _ h => h) (Or.inl ⟨by rfl, ?_⟩) (by assumption) ?_
    · intro w hSw; (try dsimp only at hSw); go_simp
    try simp only [Act.put, List.setIfInBounds_toArray, List.set_cons_zero, List.set_cons_succ]
    refine wpAnyH_take (i := 4) (oi := _) (v := vec wf) rfl (by kernel_rfl) (by kernel_rfl) (by kernel_rfl) (fun _ _ _ h => h) (Or.inl ⟨by rfl, ?_⟩) (by assumption) ?_
    · intro w hSw; (try dsimp only at hSw); go_simp
    try simp only [Act.put, List.setIfInBounds_toArray, List.set_cons_zero, List.set_cons_succ]
    refine wpAnyH_take (i := 5) (oi := _) (v := .slice (some ⟨gy, oy, none⟩) nq cy) rfl (by kernel_rfl) (by kernel_rfl) (by kernel_rfl) (fun _ _ _ h => h) (Or.inl ⟨by rfl, ?_⟩) (by assumption) ?_
    · intro w hSw; (try dsimp only at hSw); go_simp
    try simp only [Act.put, List.setIfInBounds_toArray, List.set_cons_zero, List.set_cons_succ]
    refine wpAnyH_take (i := 6) (oi := _) (v := .int .i64 (i : Int)) rfl (by kernel_rfl) (by kernel_rfl) (by kernel_rfl) (fun _ _ _ h => h) (Or.inl ⟨by rfl, ?_⟩) (by assumption) ?_
    · intro w hSw; (try dsimp only at hSw); go_simp
    try simp only [Act.put, List.setIfInBounds_toArray, List.set_cons_zero, List.set_cons_succ]
    refine wpAnyH_take (i := 7) (oi := _) (v := .pointer (some ⟨gy, oy + i * 4, none⟩)) rfl (by kernel_rfl) (by kernel_rfl) (by kernel_rfl) (fun _ _ _ h => h) (Or.inl ⟨by rfl, ?_⟩) (by assumption) ?_
    · intro w hSw; (try dsimp only at hSw); go_simp
    try simp only [Act.put, List.setIfInBounds_toArray, List.set_cons_zero, List.set_cons_succ]
    refine wpAnyH_take (i := 8) (oi := _) (v := vec yf) rfl (by kernel_rfl) (by kernel_rfl) (by kernel_rfl) (fun _ _ _ h => h) (Or.inl ⟨by rfl, ?_⟩) (by assumption) ?_
    · intro w hSw; (try dsimp only at hSw); go_simp
    try simp only [Act.put, List.setIfInBounds_toArray, List.set_cons_zero, List.set_cons_succ]
    have H9 := (Below.refl w.heap.size w).drew
    clear hHeld
    refine wpAnyH_ready (rs := [9, 10]) (by kernel_rfl) (by simp) ?_
    refine AllReadyH.cons (o := _) rfl (fun K hK => ?_) ?_
    · skip
      go_simp
      go_at_call 95
      refine (M1.out _).mono ?_
      rintro e rr1 ⟨rfl, b9⟩
      replace H9 := H9.trans (b9.mono H9.size)
      clear b9
      try go_wp2_with fail
      refine hK.out _ _ (fun b o h => H9.cell (p := ⟨b, o, none⟩) h) (fun hHeld => ?_)
      clear hK K hHeld
      try simp only [Act.put, List.setIfInBounds_toArray, List.set_cons_zero, List.set_cons_succ]
      refine wpAnyH_ready (rs := [10]) (by kernel_rfl) (by simp) ?_
      refine AllReadyH.cons (o := _) rfl (fun K hK => ?_) ?_
      · skip
        go_simp
        obtain ⟨rr2, e9⟩ : ∃ q, (rr1.alloc (.cells #[.int .u64 0, .int .u64 0, .int .u64 0, .int .u64 0] 29)) = q := ⟨_, rfl⟩
        rw [e9]
        have g_C : w.heap.size ≤ rr1.heap.size := H9.size
        have Z_C : Blk rr2 (rr1.heap.size) 29 [.int .u64 0, .int .u64 0, .int .u64 0, .int .u64 0] := blk_to e9 (Blk.new (w := rr1) (xs := [.int .u64 0, .int .u64 0, .int .u64 0, .int .u64 0]) (t := 29) rfl)
        replace H9 := below_to e9 (H9.alloc H9.size (.cells #[.int .u64 0, .int .u64 0, .int .u64 0, .int .u64 0] 29))
        clear e9
        refine hK.out _ _ (fun b o h => H9.cell (p := ⟨b, o, none⟩) h) (fun hHeld => ?_)
        clear hK K hHeld
        try simp only [Act.put, List.setIfInBounds_toArray, List.set_cons_zero, List.set_cons_succ]
        refine wpAnyH_ready (rs := [11]) (by kernel_rfl) (by simp) ?_
        refine AllReadyH.cons (o := _) rfl (fun K hK => ?_) ?_
        · skip
          have s_l := Z_C.lt
          have s_c0 := Z_C.cell (i := 0) rfl
          have s_c1 := Z_C.cell (i := 1) rfl
          have s_c2 := Z_C.cell (i := 2) rfl
          have s_c3 := Z_C.cell (i := 3) rfl
          have s_f0 := Z_C.frozen 0
          have s_f1 := Z_C.frozen 1
          have s_f2 := Z_C.frozen 2
          have s_f3 := Z_C.frozen 3
          go_simp
          clear s_l s_c0 s_f0 s_c1 s_f1 s_c2 s_f2 s_c3 s_f3
          obtain ⟨rr3, e9⟩ : ∃ q, ((((rr2.setCell ⟨rr1.heap.size, 0, none⟩ (.int .u64 (limb ff 0 : Int))).setCell ⟨rr1.heap.size, 1, none⟩ (.int .u64 (limb ff 1 : Int))).setCell ⟨rr1.heap.size, 2, none⟩ (.int .u64 (limb ff 2 : Int))).setCell ⟨rr1.heap.size, 3, none⟩ (.int .u64 (limb ff 3 : Int))) = q := ⟨_, rfl⟩
          rw [e9]
          replace Z_C := blk_to e9 (Z_C.set4 (.int .u64 (limb ff 0 : Int)) (.int .u64 (limb ff 1 : Int)) (.int .u64 (limb ff 2 : Int)) (.int .u64 (limb ff 3 : Int)))
          replace H9 := below_to e9 (below_set4 H9 g_C (.int .u64 (limb ff 0 : Int)) (.int .u64 (limb ff 1 : Int)) (.int .u64 (limb ff 2 : Int)) (.int .u64 (limb ff 3 : Int)))
          clear e9
          refine hK.out _ _ (fun b o h => H9.cell (p := ⟨b, o, none⟩) h) (fun hHeld => ?_)
          clear hK K hHeld
          try simp only [Act.put, List.setIfInBounds_toArray, List.set_cons_zero, List.set_cons_succ]
          refine wpAnyH_done (by kernel_rfl) ?_ _
          try refine NoPanic.normal ?_
          go_wp2_with (fail)
          go_meet
          exact ⟨_, rfl, Z_C, g_C, H9⟩
        exact AllReadyH.nil
      exact AllReadyH.nil
    refine AllReadyH.cons (o := _) rfl (fun K hK => ?_) ?_
    · skip
      go_simp
      obtain ⟨rr4, e9⟩ : ∃ q, (w.alloc (.cells #[.int .u64 0, .int .u64 0, .int .u64 0, .int .u64 0] 29)).drew = q := ⟨_, rfl⟩
      rw [e9]
      have g_C : w.heap.size ≤ w.heap.size := H9.size
      have Z_C : Blk rr4 (w.heap.size) 29 [.int .u64 0, .int .u64 0, .int .u64 0, .int .u64 0] := blk_to e9 (Blk.drew (Blk.new (w := w) (xs := [.int .u64 0, .int .u64 0, .int .u64 0, .int .u64 0]) (t := 29) rfl))
      replace H9 := below_to e9 (((Below.refl w.heap.size w).alloc (Nat.le_refl _) (.cells #[.int .u64 0, .int .u64 0, .int .u64 0, .int .u64 0] 29)).drew)
      clear e9
      refine hK.out _ _ (fun b o h => H9.cell (p := ⟨b, o, none⟩) h) (fun hHeld => ?_)
      clear hK K hHeld
      try simp only [Act.put, List.setIfInBounds_toArray, List.set_cons_zero, List.set_cons_succ]
      refine wpAnyH_ready (rs := [9]) (by kernel_rfl) (by simp) ?_
      refine AllReadyH.cons (o := _) rfl (fun K hK => ?_) ?_
      · skip
        go_simp
        go_at_call 95
        refine (M1.out _).mono ?_
        rintro e rr5 ⟨rfl, b9⟩
        replace H9 := H9.trans (b9.mono H9.size)
        replace Z_C := Z_C.keep b9
        clear b9
        try go_wp2_with fail
        refine hK.out _ _ (fun b o h => H9.cell (p := ⟨b, o, none⟩) h) (fun hHeld => ?_)
        clear hK K hHeld
        try simp only [Act.put, List.setIfInBounds_toArray, List.set_cons_zero, List.set_cons_succ]
        refine wpAnyH_ready (rs := [11]) (by kernel_rfl) (by simp) ?_
        refine AllReadyH.cons (o := _) rfl (fun K hK => ?_) ?_
        · skip
          have s_l := Z_C.lt
          have s_c0 := Z_C.cell (i := 0) rfl
          have s_c1 := Z_C.cell (i := 1) rfl
          have s_c2 := Z_C.cell (i := 2) rfl
          have s_c3 := Z_C.cell (i := 3) rfl
          have s_f0 := Z_C.frozen 0
          have s_f1 := Z_C.frozen 1
          have s_f2 := Z_C.frozen 2
          have s_f3 := Z_C.frozen 3
          go_simp
          clear s_l s_c0 s_f0 s_c1 s_f1 s_c2 s_f2 s_c3 s_f3
          obtain ⟨rr6, e9⟩ : ∃ q, ((((rr5.setCell ⟨w.heap.size, 0, none⟩ (.int .u64 (limb ff 0 : Int))).setCell ⟨w.heap.size, 1, none⟩ (.int .u64 (limb ff 1 : Int))).setCell ⟨w.heap.size, 2, none⟩ (.int .u64 (limb ff 2 : Int))).setCell ⟨w.heap.size, 3, none⟩ (.int .u64 (limb ff 3 : Int))) = q := ⟨_, rfl⟩
          rw [e9]
          replace Z_C := blk_to e9 (Z_C.set4 (.int .u64 (limb ff 0 : Int)) (.int .u64 (limb ff 1 : Int)) (.int .u64 (limb ff 2 : Int)) (.int .u64 (limb ff 3 : Int)))
          replace H9 := below_to e9 (below_set4 H9 g_C (.int .u64 (limb ff 0 : Int)) (.int .u64 (limb ff 1 : Int)) (.int .u64 (limb ff 2 : Int)) (.int .u64 (limb ff 3 : Int)))
          clear e9
          refine hK.out _ _ (fun b o h => H9.cell (p := ⟨b, o, none⟩) h) (fun hHeld => ?_)
          clear hK K hHeld
          try simp only [Act.put, List.setIfInBounds_toArray, List.set_cons_zero, List.set_cons_succ]
          refine wpAnyH_done (by kernel_rfl) ?_ _
          try refine NoPanic.normal ?_
          go_wp2_with (fail)
          go_meet
          exact ⟨_, rfl, Z_C, g_C, H9⟩
        exact AllReadyH.nil
      exact AllReadyH.nil
    exact AllReadyH.nil
  case rest =>
    obtain ⟨bC, rfl, hx9_C, g_bC, hbel⟩ := hcut
    obtain ⟨wc1, hwc⟩ : ∃ v, wc = v := ⟨_, rfl⟩
    rw [hwc] at hx9_C hbel ⊢
    clear hwc
    clear z_F c_F0 c_F1 c_F2 c_F3 c_F4 c_F5 c_F6 c_F7 c_F8 c_F9 c_F10 c_F11 c_F12 c_F13 z_W c_W0 z_Y c_Y0
    replace R_o := hid (R_o.out.keep hbel)
    replace X_F := X_F.keep hbel
    replace X_W := X_W.keep hbel
    replace X_Y := X_Y.keep hbel
    replace X_O := X_O.keep hbel
    replace X_T := X_T.keep hbel
    replace N_q := hid (N_q.out.below hbel)
    replace BW := hid (BW.out.call hbel)
    clear hbel
    have X_C := hx9_C
    clear hx9_C
    skip
    clear d0 d1 d2 d3 q0 q1 q2 q3 zw zy X_W X_Y M1
    have z_O := X_O.lt
    have c_O0 := X_O.cell (i := 0) rfl
    go_wp2
    clear z_O c_O0
    go_loopw [23] (fun ix wr => ∃ k : Nat, k ≤ nq ∧ ix = .int .i64 (k : Int) ∧ Blk wr (pf) 31 [.int .i64 (fID b), .int .u64 (limb (fP b) 0 : Int), .int .u64 (limb (fP b) 1 : Int), .int .u64 (limb (fP b) 2 : Int), .int .u64 (limb (fP b) 3 : Int), .int .u64 (fI b : Int), .int .u64 (limb (fO b) 0 : Int), .int .u64 (limb (fO b) 1 : Int), .int .u64 (limb (fO b) 2 : Int), .int .u64 (limb (fO b) 3 : Int), .int .u64 (limb (fS b) 0 : Int), .int .u64 (limb (fS b) 1 : Int), .int .u64 (limb (fS b) 2 : Int), .int .u64 (limb (fS b) 3 : Int)] ∧ Blk wr (po) 34 [.slice (some ⟨gO, 0, none⟩) nq nq] ∧ Blk wr (pt) 53 [.pointer none] ∧ Blk wr (bC) 29 [.int .u64 (limb ff 0 : Int), .int .u64 (limb ff 1 : Int), .int .u64 (limb ff 2 : Int), .int .u64 (limb ff 3 : Int)] ∧ RowF wr base 29 gO nq nq (fun t => if t < k then frm (fP b) (addm (fP b) (ov t) (mulm (fP b) fv (qs.getD t 0))) else frm (fP b) (ov t)) ∧ NumSl wr (.slice (some ⟨gq, oq, none⟩) nq cq) (qs.map (frm (fP b))) ∧ Only (fun k => k = gO) w wr) (fun ix _ => nq - (intOf ix).toNat)
    case atStart => exact ⟨0, Nat.zero_le _, rfl, X_F, X_O, X_T, X_C, (R_o.out.congr over_none), N_q.out, BW.out⟩
    case round =>
      clear X_F X_O X_T X_C R_o N_q BW
      obtain ⟨k, hk_k, rfl, X_F, X_O, X_T, X_C, r9_o, n9_q, b9⟩ := hrel
      obtain ⟨v1, hv9⟩ : ∃ v, v = wr := ⟨_, rfl⟩
      subst hv9
      have R_o := hid r9_o
      clear r9_o
      have N_q := hid n9_q
      clear n9_q
      have BW := hid b9
      clear b9
      by_cases hlt : k < nq
      · skip
        have hk0 : (0 : Int) ≤ (k : Int) := by omega
        have hkn : (k : Int) < (nq : Int) := by omega
        obtain ⟨qv, hq⟩ : ∃ x, qs[k]? = some x := ⟨qs[k]'(by rw [HL.out]; exact hlt), List.getElem?_eq_getElem _⟩
        obtain ⟨g9, o9, e9, zq, q0, q1, q2, q3⟩ := N_q.out.at4 (k := k) (y := frm (fP b) qv) (by rw [List.getElem?_map, hq]; rfl)
        cases e9
        have M1 := hid (fun W : World => mmul_any (fID b) (fP b) (fI b) (fO b) (fS b) (frm (fP b) fv) (frm (fP b) qv) (fOK b) (Nat.lt_trans (frm_lt _ (by omega)) (fP_lt b)) (Nat.lt_trans (frm_lt _ (by omega)) (fP_lt b)) (Nat.mul_lt_mul_of_lt_of_lt (Nat.lt_trans (frm_lt _ (by omega)) (fP_lt b)) (frm_lt _ (by omega))) W)
        rw [frm_mulm (fP_inv b)] at M1
        have M2 := hid (fun W : World => madd_any (fID b) (fP b) (fI b) (fO b) (fS b) (frm (fP b) (ov k)) (frm (fP b) (mulm (fP b) fv qv)) (fP_lt b) (frm_lt _ (by omega)) (frm_lt _ (by omega)) W)
        rw [frm_addm] at M2
        rw [HFF.out] at M1
        have HG : Hid (frm (fP b) (addm (fP b) (ov k) (mulm (fP b) fv (qs.getD k 0))) = frm (fP b) (addm (fP b) (ov k) (mulm (fP b) fv qv))) := hid (by rw [getD_some hq])
        clear hq
        obtain ⟨qf, hqf⟩ : ∃ z, frm (fP b) qv = z := ⟨_, rfl⟩
        obtain ⟨mf, hmf⟩ : ∃ z, frm (fP b) (mulm (fP b) fv qv) = z := ⟨_, rfl⟩
        rw [hqf, hmf] at M1
        rw [hqf] at q0 q1 q2 q3
        rw [hmf] at M2
        obtain ⟨ok, hok⟩ : ∃ z, frm (fP b) (ov k) = z := ⟨_, rfl⟩
        rw [hok] at M2
        have HOK := hid hok
        obtain ⟨dn, hdn⟩ : ∃ z, frm (fP b) (addm (fP b) (ov k) (mulm (fP b) fv qv)) = z := ⟨_, rfl⟩
        rw [hdn] at M2 HG
        clear hqf hmf hok hdn
        have z_F := X_F.lt
        have c_F0 := X_F.cell (i := 0) rfl
        have c_F1 := X_F.cell (i := 1) rfl
        have c_F2 := X_F.cell (i := 2) rfl
        have c_F3 := X_F.cell (i := 3) rfl
        have c_F4 := X_F.cell (i := 4) rfl
        have c_F5 := X_F.cell (i := 5) rfl
        have c_F6 := X_F.cell (i := 6) rfl
        have c_F7 := X_F.cell (i := 7) rfl
        have c_F8 := X_F.cell (i := 8) rfl
        have c_F9 := X_F.cell (i := 9) rfl
        have c_F10 := X_F.cell (i := 10) rfl
        have c_F11 := X_F.cell (i := 11) rfl
        have c_F12 := X_F.cell (i := 12) rfl
        have c_F13 := X_F.cell (i := 13) rfl
        have z_O := X_O.lt
        have c_O0 := X_O.cell (i := 0) rfl
        have z_T := X_T.lt
        have c_T0 := X_T.cell (i := 0) rfl
        have z_C := X_C.lt
        have c_C0 := X_C.cell (i := 0) rfl
        have c_C1 := X_C.cell (i := 1) rfl
        have c_C2 := X_C.cell (i := 2) rfl
        have c_C3 := X_C.cell (i := 3) rfl
        obtain ⟨d0, d1, d2, d3⟩ := R_o.out.cells (i := k) (v := ok) hlt (by show (if k < k then _ else _) = _; rw [if_neg (Nat.lt_irrefl _)]; exact HOK.out)
        have zd := R_o.out.lt
        have fd0 := R_o.out.frozen (k * 4)
        have fd1 := R_o.out.frozen (k * 4 + 1)
        have fd2 := R_o.out.frozen (k * 4 + 2)
        have fd3 := R_o.out.frozen (k * 4 + 3)
        go_wp2_with (go_at_call 64; refine (note_nil _ _ _ _).mono ?_; rintro e w' ⟨rfl, rfl⟩)
        refine wp_region_soft (C := fun W' => Below v1.heap.size v1 W') 16 (by kernel_rfl) (by kernel_rfl) ((Below.refl _ _).drew) ?_
        simp only [List.take_succ_cons, List.take_zero, List.drop_succ_cons, List.drop_zero]
        refine wpQuiet_step (fun K hK => ?_)
        rw [if_pos (by rfl)]
        refine ⟨.slice (some ⟨gO, 0, none⟩) nq nq, fun W' hW => ?_, hK _ ?_⟩
        · have e_0 := (hW.cell (p := ⟨po, 0, none⟩) z_O).trans c_O0
          go_simp
        clear hK K
        simp only [Act.put, List.setIfInBounds_toArray, List.set_cons_zero, List.set_cons_succ]
        refine wpQuiet_step (fun K hK => ?_)
        rw [if_pos (by rfl)]
        refine ⟨.int .i64 (k : Int), fun W' hW => ?_, hK _ ?_⟩
        · go_simp
        clear hK K
        simp only [Act.put, List.setIfInBounds_toArray, List.set_cons_zero, List.set_cons_succ]
        refine wpQuiet_step (fun K hK => ?_)
        rw [if_pos (by rfl)]
        refine ⟨FV b, fun W' hW => ?_, hK _ ?_⟩
        · have e_0 := (hW.cell (p := ⟨pf, 0, none⟩) z_F).trans c_F0
          have e_1 := (hW.cell (p := ⟨pf, 1, none⟩) z_F).trans c_F1
          have e_2 := (hW.cell (p := ⟨pf, 2, none⟩) z_F).trans c_F2
          have e_3 := (hW.cell (p := ⟨pf, 3, none⟩) z_F).trans c_F3
          have e_4 := (hW.cell (p := ⟨pf, 4, none⟩) z_F).trans c_F4
          have e_5 := (hW.cell (p := ⟨pf, 5, none⟩) z_F).trans c_F5
          have e_6 := (hW.cell (p := ⟨pf, 6, none⟩) z_F).trans c_F6
          have e_7 := (hW.cell (p := ⟨pf, 7, none⟩) z_F).trans c_F7
          have e_8 := (hW.cell (p := ⟨pf, 8, none⟩) z_F).trans c_F8
          have e_9 := (hW.cell (p := ⟨pf, 9, none⟩) z_F).trans c_F9
          have e_10 := (hW.cell (p := ⟨pf, 10, none⟩) z_F).trans c_F10
          have e_11 := (hW.cell (p := ⟨pf, 11, none⟩) z_F).trans c_F11
          have e_12 := (hW.cell (p := ⟨pf, 12, none⟩) z_F).trans c_F12
          have e_13 := (hW.cell (p := ⟨pf, 13, none⟩) z_F).trans c_F13
          go_simp
        clear hK K
        simp only [Act.put, List.setIfInBounds_toArray, List.set_cons_zero, List.set_cons_succ]
        refine wpQuiet_step (fun K hK => ?_)
        rw [if_pos (by rfl)]
        refine ⟨.slice (some ⟨gO, 0, none⟩) nq nq, fun W' hW => ?_, hK _ ?_⟩
        · have e_0 := (hW.cell (p := ⟨po, 0, none⟩) z_O).trans c_O0
          go_simp
        clear hK K
        simp only [Act.put, List.setIfInBounds_toArray, List.set_cons_zero, List.set_cons_succ]
        refine wpQuiet_step (fun K hK => ?_)
        rw [if_pos (by rfl)]
        refine ⟨.int .i64 (k : Int), fun W' hW => ?_, hK _ ?_⟩
        · go_simp
        clear hK K
        simp only [Act.put, List.setIfInBounds_toArray, List.set_cons_zero, List.set_cons_succ]
        refine wpQuiet_step (fun K hK => ?_)
        rw [if_pos (by rfl)]
        refine ⟨.pointer (some ⟨gO, k * 4, none⟩), fun W' hW => ?_, hK _ ?_⟩
        · go_simp
        clear hK K
        simp only [Act.put, List.setIfInBounds_toArray, List.set_cons_zero, List.set_cons_succ]
        refine wpQuiet_step (fun K hK => ?_)
        rw [if_pos (by rfl)]
        refine ⟨vec ok, fun W' hW => ?_, hK _ ?_⟩
        · have e_0 := (hW.cell (p := ⟨gO, k * 4, none⟩) zd).trans d0
          have e_1 := (hW.cell (p := ⟨gO, k * 4 + 1, none⟩) zd).trans d1
          have e_2 := (hW.cell (p := ⟨gO, k * 4 + 2, none⟩) zd).trans d2
          have e_3 := (hW.cell (p := ⟨gO, k * 4 + 3, none⟩) zd).trans d3
          go_simp
        clear hK K
        simp only [Act.put, List.setIfInBounds_toArray, List.set_cons_zero, List.set_cons_succ]
        refine wpQuiet_step (fun K hK => ?_)
        rw [if_pos (by rfl)]
        refine ⟨FV b, fun W' hW => ?_, hK _ ?_⟩
        · have e_0 := (hW.cell (p := ⟨pf, 0, none⟩) z_F).trans c_F0
          have e_1 := (hW.cell (p := ⟨pf, 1, none⟩) z_F).trans c_F1
          have e_2 := (hW.cell (p := ⟨pf, 2, none⟩) z_F).trans c_F2
          have e_3 := (hW.cell (p := ⟨pf, 3, none⟩) z_F).trans c_F3
          have e_4 := (hW.cell (p := ⟨pf, 4, none⟩) z_F).trans c_F4
          have e_5 := (hW.cell (p := ⟨pf, 5, none⟩) z_F).trans c_F5
          have e_6 := (hW.cell (p := ⟨pf, 6, none⟩) z_F).trans c_F6
          have e_7 := (hW.cell (p := ⟨pf, 7, none⟩) z_F).trans c_F7
          have e_8 := (hW.cell (p := ⟨pf, 8, none⟩) z_F).trans c_F8
          have e_9 := (hW.cell (p := ⟨pf, 9, none⟩) z_F).trans c_F9
          have e_10 := (hW.cell (p := ⟨pf, 10, none⟩) z_F).trans c_F10
          have e_11 := (hW.cell (p := ⟨pf, 11, none⟩) z_F).trans c_F11
          have e_12 := (hW.cell (p := ⟨pf, 12, none⟩) z_F).trans c_F12
          have e_13 := (hW.cell (p := ⟨pf, 13, none⟩) z_F).trans c_F13
          go_simp
        clear hK K
        simp only [Act.put, List.setIfInBounds_toArray, List.set_cons_zero, List.set_cons_succ]
        refine wpQuiet_step (fun K hK => ?_)
        rw [if_pos (by rfl)]
        refine ⟨vec ff, fun W' hW => ?_, hK _ ?_⟩
        · have e_0 := (hW.cell (p := ⟨bC, 0, none⟩) z_C).trans c_C0
          have e_1 := (hW.cell (p := ⟨bC, 1, none⟩) z_C).trans c_C1
          have e_2 := (hW.cell (p := ⟨bC, 2, none⟩) z_C).trans c_C2
          have e_3 := (hW.cell (p := ⟨bC, 3, none⟩) z_C).trans c_C3
          go_simp
        clear hK K
        simp only [Act.put, List.setIfInBounds_toArray, List.set_cons_zero, List.set_cons_succ]
        refine wpQuiet_step (fun K hK => ?_)
        rw [if_pos (by rfl)]
        refine ⟨.slice (some ⟨gq, oq, none⟩) nq cq, fun W' hW => ?_, hK _ ?_⟩
        · go_simp
        clear hK K
        simp only [Act.put, List.setIfInBounds_toArray, List.set_cons_zero, List.set_cons_succ]
        refine wpQuiet_step (fun K hK => ?_)
        rw [if_pos (by rfl)]
        refine ⟨.int .i64 (k : Int), fun W' hW => ?_, hK _ ?_⟩
        · go_simp
        clear hK K
        simp only [Act.put, List.setIfInBounds_toArray, List.set_cons_zero, List.set_cons_succ]
        refine wpQuiet_step (fun K hK => ?_)
        rw [if_pos (by rfl)]
        refine ⟨.pointer (some ⟨gq, oq + k * 4, none⟩), fun W' hW => ?_, hK _ ?_⟩
        · go_simp
        clear hK K
        simp only [Act.put, List.setIfInBounds_toArray, List.set_cons_zero, List.set_cons_succ]
        refine wpQuiet_step (fun K hK => ?_)
        rw [if_pos (by rfl)]
        refine ⟨vec qf, fun W' hW => ?_, hK _ ?_⟩
        · have e_0 := (hW.cell (p := ⟨gq, oq + k * 4, none⟩) zq).trans q0
          have e_1 := (hW.cell (p := ⟨gq, oq + k * 4 + 1, none⟩) zq).trans q1
          have e_2 := (hW.cell (p := ⟨gq, oq + k * 4 + 2, none⟩) zq).trans q2
          have e_3 := (hW.cell (p := ⟨gq, oq + k * 4 + 3, none⟩) zq).trans q3
          go_simp
        clear hK K
        simp only [Act.put, List.setIfInBounds_toArray, List.set_cons_zero, List.set_cons_succ]
        refine wpQuiet_step (fun K hK => ?_)
        rw [if_pos (by rfl)]
        refine ⟨vec mf, fun W' hW => ?_, hK _ ?_⟩
        · go_simp
          refine (M1.out _).mono ?_
          rintro e w' ⟨rfl, b⟩
          exact ⟨rfl, hW.trans (b.mono hW.size)⟩
        clear hK K
        simp only [Act.put, List.setIfInBounds_toArray, List.set_cons_zero, List.set_cons_succ]
        refine wpQuiet_step (fun K hK => ?_)
        rw [if_pos (by rfl)]
        refine ⟨vec dn, fun W' hW => ?_, hK _ ?_⟩
        · go_simp
          refine (M2.out _).mono ?_
          rintro e w' ⟨rfl, b⟩
          exact ⟨rfl, hW.trans (b.mono hW.size)⟩
        clear hK K
        simp only [Act.put, List.setIfInBounds_toArray, List.set_cons_zero, List.set_cons_succ]
        refine wpQuiet_step (fun K hK => ?_)
        rw [if_pos (by rfl)]
        refine ⟨.pointer (some ⟨gO, k * 4, none⟩), fun W' hW => ?_, hK _ ?_⟩
        · go_simp
        clear hK K
        simp only [Act.put, List.setIfInBounds_toArray, List.set_cons_zero, List.set_cons_succ]
        refine wpQuiet_nil ?_
        intro ws1 hW9
        clear z_F c_F0 c_F1 c_F2 c_F3 c_F4 c_F5 c_F6 c_F7 c_F8 c_F9 c_F10 c_F11 c_F12 c_F13 z_O c_O0 z_T c_T0 z_C c_C0 c_C1 c_C2 c_C3 d0 d1 d2 d3 zd fd0 fd1 fd2 fd3
        replace R_o := hid (R_o.out.keep hW9)
        replace X_F := X_F.keep hW9
        replace X_O := X_O.keep hW9
        replace X_T := X_T.keep hW9
        replace X_C := X_C.keep hW9
        replace N_q := hid (N_q.out.below hW9)
        replace BW := hid (BW.out.call hW9)
        clear hW9
        clear q0 q1 q2 q3 zq
        obtain ⟨d0, d1, d2, d3⟩ := R_o.out.cells (i := k) (v := ok) hlt (by show (if k < k then _ else _) = _; rw [if_neg (Nat.lt_irrefl _)]; exact HOK.out)
        have zd := R_o.out.lt
        have fd0 := R_o.out.frozen (k * 4)
        have fd1 := R_o.out.frozen (k * 4 + 1)
        have fd2 := R_o.out.frozen (k * 4 + 2)
        have fd3 := R_o.out.frozen (k * 4 + 3)
        go_wp2
        obtain ⟨v2, hs9⟩ : ∃ q, ((((ws1.setCell ⟨gO, k * 4, none⟩ (.int .u64 (limb dn 0 : Int))).setCell ⟨gO, k * 4 + 1, none⟩ (.int .u64 (limb dn 1 : Int))).setCell ⟨gO, k * 4 + 2, none⟩ (.int .u64 (limb dn 2 : Int))).setCell ⟨gO, k * 4 + 3, none⟩ (.int .u64 (limb dn 3 : Int))) = q := ⟨_, rfl⟩
        have O9 : Only (fun k => k = gO) ws1 v2 := by rw [← hs9]; exact only_row _ _ _ _ _ _ _
        have S9 : RowF v2 base 29 gO nq nq (fun t => if t < (k + 1) then frm (fP b) (addm (fP b) (ov t) (mulm (fP b) fv (qs.getD t 0))) else frm (fP b) (ov t)) := by rw [← hs9]; exact (R_o.out.store hlt dn).congr (put_over (f := fun t => frm (fP b) (addm (fP b) (ov t) (mulm (fP b) fv (qs.getD t 0)))) (g := fun t => frm (fP b) (ov t)) HG.out)
        rw [hs9]
        clear hs9
        clear d0 d1 d2 d3 zd fd0 fd1 fd2 fd3
        replace X_F := X_F.only O9 (show ¬ (pf = gO) by omega)
        replace X_O := X_O.only O9 (show ¬ (po = gO) by omega)
        replace X_T := X_T.only O9 (show ¬ (pt = gO) by omega)
        replace X_C := X_C.only O9 (show ¬ (bC = gO) by omega)
        replace N_q := hid (N_q.out.only O9 A_q)
        replace BW := hid (BW.out.trans O9)
        replace R_o := hid S9
        clear O9 S9
        go_roundw
        case rel => exact ⟨k + 1, by omega, by go_num, X_F, X_O, X_T, X_C, R_o.out, N_q.out, BW.out⟩
        case measure => simp [intOf]; omega
      · skip
        obtain rfl : nq = k := by omega
        clear hlt
        go_wp2
        go_end0
        exact ⟨rfl, BW.out, R_o.out.congr over_all⟩
set_option maxRecDepth 100000 in
set_option maxHeartbeats 2000000 in
theorem itp_bad (b : Bool) (v u : Value) (xs : List Int) (ys : List Nat) (w : World) (hS : IntSl w v xs) (hU : NumSl w u (ys.map (frm (fP b)))) (hl : xs.length < 1000000) (hc : chkx xs ≠ 0) :
    Calls Tryd.prog 59 #[.pointer none, FV b, v, u] w (Ret (.tuple #[.slice none 0 0, .int .i64 (chkx xs)]) w) := by
  have BW := hid (Below.refl w.heap.size w)
  have HU := hid hU
  obtain ⟨au, cu, rfl, _, _⟩ := hU
  rw [List.length_map] at HU ⊢
  have HS := hid hS
  clear HU
  obtain ⟨m, hm⟩ : ∃ n, ys.length = n := ⟨_, rfl⟩
  rw [hm]
  clear hm
  have CK := hid (fun (W : World) (h : IntSl W v xs) => lcheck_any v xs W h hl)
  obtain ⟨c, hc9⟩ : ∃ c, chkx xs = c := ⟨_, rfl⟩
  rw [hc9] at hc CK ⊢
  clear hc9
  have hd : (c != 0) = true := by simp [hc]
  go_enter Tryd.func59, Tryd.ntmps59
  go_wp2_with fail
  obtain ⟨v1, hv9⟩ : ∃ v, (((w.alloc (.cells #[.pointer none] 53)).alloc (.cells #[.int .i64 (fID b), .int .u64 (limb (fP b) 0 : Int), .int .u64 (limb (fP b) 1 : Int), .int .u64 (limb (fP b) 2 : Int), .int .u64 (limb (fP b) 3 : Int), .int .u64 (fI b : Int), .int .u64 (limb (fO b) 0 : Int), .int .u64 (limb (fO b) 1 : Int), .int .u64 (limb (fO b) 2 : Int), .int .u64 (limb (fO b) 3 : Int), .int .u64 (limb (fS b) 0 : Int), .int .u64 (limb (fS b) 1 : Int), .int .u64 (limb (fS b) 2 : Int), .int .u64 (limb (fS b) 3 : Int)] 31)).alloc (.cells #[.slice au m cu] 34)) = v := ⟨_, rfl⟩
  have hG9 : Below w.heap.size w v1 := by rw [← hv9]; go_grown
  have X_T : Blk v1 (w.heap.size) 53 [.pointer none] := by rw [← hv9]; exact Blk.alloc (Blk.alloc (Blk.new rfl) _) _
  have X_F : Blk v1 (w.heap.size + 1) 31 [.int .i64 (fID b), .int .u64 (limb (fP b) 0 : Int), .int .u64 (limb (fP b) 1 : Int), .int .u64 (limb (fP b) 2 : Int), .int .u64 (limb (fP b) 3 : Int), .int .u64 (fI b : Int), .int .u64 (limb (fO b) 0 : Int), .int .u64 (limb (fO b) 1 : Int), .int .u64 (limb (fO b) 2 : Int), .int .u64 (limb (fO b) 3 : Int), .int .u64 (limb (fS b) 0 : Int), .int .u64 (limb (fS b) 1 : Int), .int .u64 (limb (fS b) 2 : Int), .int .u64 (limb (fS b) 3 : Int)] := by rw [← hv9]; exact Blk.alloc (Blk.new (by simp)) _
  have X_Y : Blk v1 (w.heap.size + 1 + 1) 34 [.slice au m cu] := by rw [← hv9]; exact Blk.new (by simp)
  obtain ⟨bT, hb9⟩ : ∃ k, w.heap.size = k := ⟨_, rfl⟩
  rw [hb9] at X_T
  rw [hb9] at X_F
  rw [hb9] at X_Y
  have g_bT : w.heap.size ≤ bT := by rw [← hb9]; exact BW.out.size
  replace BW := hid (BW.out.trans (hG9.mono BW.out.size))
  clear hG9
  rw [hv9]
  try rw [hb9]
  clear hv9 hb9
  refine (CK.out _ (HS.out.below BW.out)).mono ?_
  rintro e v2 ⟨rfl, b9⟩
  replace X_T := X_T.keep b9
  replace X_F := X_F.keep b9
  replace X_Y := X_Y.keep b9
  replace BW := hid (BW.out.trans (b9.mono BW.out.size))
  clear b9
  go_wp2
  refine bodyPost_ret (by simp only [results, Tryd.results59]; go_simp; try rfl) rfl ?_
  exact ⟨rfl, BW.out⟩
set_option maxRecDepth 100000 in
set_option maxHeartbeats 2000000 in
theorem itp_len9 (b : Bool) (v u : Value) (xs : List Int) (ys : List Nat) (w : World) (hS : IntSl w v xs) (hU : NumSl w u (ys.map (frm (fP b)))) (hl : xs.length < 1000000) (hc : chkx xs = 0) (hne : xs.length ≠ ys.length) (hl2 : ys.length < 1000000) :
    Calls Tryd.prog 59 #[.pointer none, FV b, v, u] w (Ret (.tuple #[.slice none 0 0, .int .i64 8]) w) := by
  have BW := hid (Below.refl w.heap.size w)
  have HU := hid hU
  obtain ⟨au, cu, rfl, _, _⟩ := hU
  rw [List.length_map] at HU ⊢
  have HS := hid hS
  obtain ⟨sa, sc, rfl, _⟩ := hS
  have CK := hid (fun (W : World) (h : IntSl W (.slice sa xs.length sc) xs) => lcheck_any (.slice sa xs.length sc) xs W h hl)
  rw [hc] at CK
  obtain ⟨n, hn⟩ : ∃ n, xs.length = n := ⟨_, rfl⟩
  obtain ⟨m, hm⟩ : ∃ n, ys.length = n := ⟨_, rfl⟩
  rw [hn] at hl hne CK HS ⊢
  rw [hm] at hl2 hne HU ⊢
  clear hn hm hc
  have hd : ((n : Int) != (m : Int)) = true := by simp; omega
  go_enter Tryd.func59, Tryd.ntmps59
  go_wp2_with fail
  obtain ⟨v1, hv9⟩ : ∃ v, (((w.alloc (.cells #[.pointer none] 53)).alloc (.cells #[.int .i64 (fID b), .int .u64 (limb (fP b) 0 : Int), .int .u64 (limb (fP b) 1 : Int), .int .u64 (limb (fP b) 2 : Int), .int .u64 (limb (fP b) 3 : Int), .int .u64 (fI b : Int), .int .u64 (limb (fO b) 0 : Int), .int .u64 (limb (fO b) 1 : Int), .int .u64 (limb (fO b) 2 : Int), .int .u64 (limb (fO b) 3 : Int), .int .u64 (limb (fS b) 0 : Int), .int .u64 (limb (fS b) 1 : Int), .int .u64 (limb (fS b) 2 : Int), .int .u64 (limb (fS b) 3 : Int)] 31)).alloc (.cells #[.slice au m cu] 34)) = v := ⟨_, rfl⟩
  have hG9 : Below w.heap.size w v1 := by rw [← hv9]; go_grown
  have X_T : Blk v1 (w.heap.size) 53 [.pointer none] := by rw [← hv9]; exact Blk.alloc (Blk.alloc (Blk.new rfl) _) _
  have X_F : Blk v1 (w.heap.size + 1) 31 [.int .i64 (fID b), .int .u64 (limb (fP b) 0 : Int), .int .u64 (limb (fP b) 1 : Int), .int .u64 (limb (fP b) 2 : Int), .int .u64 (limb (fP b) 3 : Int), .int .u64 (fI b : Int), .int .u64 (limb (fO b) 0 : Int), .int .u64 (limb (fO b) 1 : Int), .int .u64 (limb (fO b) 2 : Int), .int .u64 (limb (fO b) 3 : Int), .int .u64 (limb (fS b) 0 : Int), .int .u64 (limb (fS b) 1 : Int), .int .u64 (limb (fS b) 2 : Int), .int .u64 (limb (fS b) 3 : Int)] := by rw [← hv9]; exact Blk.alloc (Blk.new (by simp)) _
  have X_Y : Blk v1 (w.heap.size + 1 + 1) 34 [.slice au m cu] := by rw [← hv9]; exact Blk.new (by simp)
  obtain ⟨bT, hb9⟩ : ∃ k, w.heap.size = k := ⟨_, rfl⟩
  rw [hb9] at X_T
  rw [hb9] at X_F
  rw [hb9] at X_Y
  have g_bT : w.heap.size ≤ bT := by rw [← hb9]; exact BW.out.size
  replace BW := hid (BW.out.trans (hG9.mono BW.out.size))
  clear hG9
  rw [hv9]
  try rw [hb9]
  clear hv9 hb9
  refine (CK.out _ (HS.out.below BW.out)).mono ?_
  rintro e v2 ⟨rfl, b9⟩
  replace X_T := X_T.keep b9
  replace X_F := X_F.keep b9
  replace X_Y := X_Y.keep b9
  replace BW := hid (BW.out.trans (b9.mono BW.out.size))
  clear b9
  have z_Y := X_Y.lt
  have c_Y0 := X_Y.cell (i := 0) rfl
  go_wp2
  refine bodyPost_ret (by simp only [results, Tryd.results59]; go_simp; try rfl) rfl ?_
  exact ⟨rfl, BW.out⟩
set_option maxRecDepth 100000 in
set_option maxHeartbeats 8000000 in
theorem itp_ok (b : Bool) (v u : Value) (xs : List Int) (ys : List Nat) (w : World) (hS : IntSl w v xs) (hU : NumSl w u (ys.map (frm (fP b)))) (hl : xs.length < 10000) (hc : chkx xs = 0) (he : xs.length = ys.length) :
    Calls Tryd.prog 59 #[.pointer none, FV b, v, u] w (RetE 29 ((itp (fP b) (pts xs) ys xs.length).map (frm (fP b))) 0 w) := by
  have BW := hid (Below.refl w.heap.size w)
  have HU := hid hU
  obtain ⟨au, cu, rfl, _, _⟩ := hU
  rw [List.length_map] at HU ⊢
  have CK := hid (fun (W : World) (h : IntSl W v xs) => lcheck_any v xs W h (by omega))
  rw [hc] at CK
  rw [← he] at HU ⊢
  have HE := hid he
  clear he
  have HS := hid hS
  have WTC := hid (fun (W : World) (h : IntSl W v xs) => weights_ok b v xs W h (by omega) hc)
  obtain ⟨hall, hnd⟩ := chkx_zero hc
  have PT := hid (fun (W : World) (h : IntSl W v xs) => points_any b v xs W h (hid hall) (by omega))
  have hlen := pts_len xs
  obtain ⟨ns, hns⟩ : ∃ ns, pts xs = ns := ⟨_, rfl⟩
  have hlt := pts_lt hall (show 255 < fP b by cases b <;> decide)
  rw [hns] at hlen PT hlt WTC ⊢
  obtain ⟨n, hn⟩ : ∃ n, xs.length = n := ⟨_, rfl⟩
  rw [hn] at hlen hl PT
  have HL := hid hlen
  have HLT := hid hlt
  have HIN := hid hn
  clear hns hnd hall hc
  have MAC := hid (fun (W : World) (v : Value) (h : NumSl W v (ns.map (frm (fP b)))) => master_any b v ns W h HLT.out (by rw [HL.out]; omega))
  rw [HL.out] at MAC
  have HML : Hid (((flV (fP b) [1] ns).map (frm (fP b))).length = n + 1) := hid (by have := fP_two b; rw [List.length_map, flV_len (by omega) _ (by simp), HL.out]; simp; omega)
  have HMB := hid (small9 (forms9 b (flV (fP b) [1] ns)))
  clear hn hlen hlt
  unfold RetE
  rw [HIN.out] at HU HE ⊢
  obtain ⟨sa, sc, rfl, _⟩ := hS
  rw [HIN.out] at HS PT WTC CK ⊢
  have hd : ((n : Int) != (n : Int)) = false := by simp
  have EIL := hid (fun k (h : k ≤ n) => itp_len (p := fP b) (by have := fP_two b; omega) ns ys k (by rw [HL.out]; exact h))
  rw [List.length_map, EIL.out n (Nat.le_refl _), HL.out]
  by_cases h0 : 0 < n
  · skip
    go_enter Tryd.func59, Tryd.ntmps59
    go_wp2_with fail
    obtain ⟨v1, hv9⟩ : ∃ v, (((w.alloc (.cells #[.pointer none] 53)).alloc (.cells #[.int .i64 (fID b), .int .u64 (limb (fP b) 0 : Int), .int .u64 (limb (fP b) 1 : Int), .int .u64 (limb (fP b) 2 : Int), .int .u64 (limb (fP b) 3 : Int), .int .u64 (fI b : Int), .int .u64 (limb (fO b) 0 : Int), .int .u64 (limb (fO b) 1 : Int), .int .u64 (limb (fO b) 2 : Int), .int .u64 (limb (fO b) 3 : Int), .int .u64 (limb (fS b) 0 : Int), .int .u64 (limb (fS b) 1 : Int), .int .u64 (limb (fS b) 2 : Int), .int .u64 (limb (fS b) 3 : Int)] 31)).alloc (.cells #[.slice au n cu] 34)) = v := ⟨_, rfl⟩
    have hG9 : Below w.heap.size w v1 := by rw [← hv9]; go_grown
    have X_T : Blk v1 (w.heap.size) 53 [.pointer none] := by rw [← hv9]; exact Blk.alloc (Blk.alloc (Blk.new rfl) _) _
    have X_F : Blk v1 (w.heap.size + 1) 31 [.int .i64 (fID b), .int .u64 (limb (fP b) 0 : Int), .int .u64 (limb (fP b) 1 : Int), .int .u64 (limb (fP b) 2 : Int), .int .u64 (limb (fP b) 3 : Int), .int .u64 (fI b : Int), .int .u64 (limb (fO b) 0 : Int), .int .u64 (limb (fO b) 1 : Int), .int .u64 (limb (fO b) 2 : Int), .int .u64 (limb (fO b) 3 : Int), .int .u64 (limb (fS b) 0 : Int), .int .u64 (limb (fS b) 1 : Int), .int .u64 (limb (fS b) 2 : Int), .int .u64 (limb (fS b) 3 : Int)] := by rw [← hv9]; exact Blk.alloc (Blk.new (by simp)) _
    have X_Y : Blk v1 (w.heap.size + 1 + 1) 34 [.slice au n cu] := by rw [← hv9]; exact Blk.new (by simp)
    obtain ⟨bT, hb9⟩ : ∃ k, w.heap.size = k := ⟨_, rfl⟩
    rw [hb9] at X_T
    rw [hb9] at X_F
    rw [hb9] at X_Y
    have g_bT : w.heap.size ≤ bT := by rw [← hb9]; exact BW.out.size
    replace BW := hid (BW.out.trans (hG9.mono BW.out.size))
    clear hG9
    rw [hv9]
    try rw [hb9]
    clear hv9 hb9
    refine (CK.out _ (HS.out.below BW.out)).mono ?_
    rintro e v2 ⟨rfl, b9⟩
    replace X_T := X_T.keep b9
    replace X_F := X_F.keep b9
    replace X_Y := X_Y.keep b9
    replace BW := hid (BW.out.trans (b9.mono BW.out.size))
    clear b9
    have z_T := X_T.lt
    have c_T0 := X_T.cell (i := 0) rfl
    have z_F := X_F.lt
    have c_F0 := X_F.cell (i := 0) rfl
    have c_F1 := X_F.cell (i := 1) rfl
    have c_F2 := X_F.cell (i := 2) rfl
    have c_F3 := X_F.cell (i := 3) rfl
    have c_F4 := X_F.cell (i := 4) rfl
    have c_F5 := X_F.cell (i := 5) rfl
    have c_F6 := X_F.cell (i := 6) rfl
    have c_F7 := X_F.cell (i := 7) rfl
    have c_F8 := X_F.cell (i := 8) rfl
    have c_F9 := X_F.cell (i := 9) rfl
    have c_F10 := X_F.cell (i := 10) rfl
    have c_F11 := X_F.cell (i := 11) rfl
    have c_F12 := X_F.cell (i := 12) rfl
    have c_F13 := X_F.cell (i := 13) rfl
    have z_Y := X_Y.lt
    have c_Y0 := X_Y.cell (i := 0) rfl
    go_wp2_with fail
    refine (WTC.out _ (HS.out.below BW.out)).mono ?_
    rintro e v3 ⟨vw, rfl, ho, b9⟩
    rw [List.length_map, wgs_len, HL.out] at ho
    obtain ⟨gw, cw, rfl, hR9⟩ := RowF.of ho (by rw [List.length_map, wgs_len, HL.out]) h0
    clear ho
    have lt9 := hR9.ge
    have q_T_gw : bT < gw := Nat.lt_of_lt_of_le X_T.lt lt9
    have q_F_gw : bT + 1 < gw := Nat.lt_of_lt_of_le X_F.lt lt9
    have q_Y_gw : bT + 1 + 1 < gw := Nat.lt_of_lt_of_le X_Y.lt lt9
    have z0_gw : w.heap.size ≤ gw := Nat.le_trans BW.out.size lt9
    have R_w := hid (hR9.mono BW.out.size)
    clear hR9 lt9
    clear z_T c_T0 z_F c_F0 c_F1 c_F2 c_F3 c_F4 c_F5 c_F6 c_F7 c_F8 c_F9 c_F10 c_F11 c_F12 c_F13 z_Y c_Y0
    replace X_T := X_T.keep b9
    replace X_F := X_F.keep b9
    replace X_Y := X_Y.keep b9
    replace BW := hid (BW.out.trans (b9.mono BW.out.size))
    clear b9
    have z_F := X_F.lt
    have c_F0 := X_F.cell (i := 0) rfl
    have c_F1 := X_F.cell (i := 1) rfl
    have c_F2 := X_F.cell (i := 2) rfl
    have c_F3 := X_F.cell (i := 3) rfl
    have c_F4 := X_F.cell (i := 4) rfl
    have c_F5 := X_F.cell (i := 5) rfl
    have c_F6 := X_F.cell (i := 6) rfl
    have c_F7 := X_F.cell (i := 7) rfl
    have c_F8 := X_F.cell (i := 8) rfl
    have c_F9 := X_F.cell (i := 9) rfl
    have c_F10 := X_F.cell (i := 10) rfl
    have c_F11 := X_F.cell (i := 11) rfl
    have c_F12 := X_F.cell (i := 12) rfl
    have c_F13 := X_F.cell (i := 13) rfl
    go_wp2_with fail
    obtain ⟨v4, hv9⟩ : ∃ v, (v3.alloc (.cells #[.slice (some ⟨gw, 0, none⟩) n cw] 34)) = v := ⟨_, rfl⟩
    have hG9 : Below v3.heap.size v3 v4 := by rw [← hv9]; go_grown
    have X_W : Blk v4 (v3.heap.size) 34 [.slice (some ⟨gw, 0, none⟩) n cw] := by rw [← hv9]; exact Blk.new rfl
    obtain ⟨bW, hb9⟩ : ∃ k, v3.heap.size = k := ⟨_, rfl⟩
    rw [hb9] at X_W
    have g_bW : w.heap.size ≤ bW := by rw [← hb9]; exact BW.out.size
    have q_T_bW : bT < bW := by rw [← hb9]; exact X_T.lt
    have q_F_bW : bT + 1 < bW := by rw [← hb9]; exact X_F.lt
    have q_Y_bW : bT + 1 + 1 < bW := by rw [← hb9]; exact X_Y.lt
    have q_w_bW := R_w.out.lt
    rw [hb9] at q_w_bW
    clear z_F c_F0 c_F1 c_F2 c_F3 c_F4 c_F5 c_F6 c_F7 c_F8 c_F9 c_F10 c_F11 c_F12 c_F13
    replace R_w := hid (R_w.out.keep hG9)
    replace X_T := X_T.keep hG9
    replace X_F := X_F.keep hG9
    replace X_Y := X_Y.keep hG9
    replace BW := hid (BW.out.trans (hG9.mono BW.out.size))
    clear hG9
    rw [hv9]
    try rw [hb9]
    clear hv9 hb9
    refine (PT.out _ (HS.out.below BW.out)).mono ?_
    rintro e v5 ⟨gx, rfl, hR9, b9⟩
    have lt9 := hR9.ge
    have q_T_gx : bT < gx := Nat.lt_of_lt_of_le X_T.lt lt9
    have q_F_gx : bT + 1 < gx := Nat.lt_of_lt_of_le X_F.lt lt9
    have q_Y_gx : bT + 1 + 1 < gx := Nat.lt_of_lt_of_le X_Y.lt lt9
    have q_W_gx : bW < gx := Nat.lt_of_lt_of_le X_W.lt lt9
    have q_w_gx : gw < gx := Nat.lt_of_lt_of_le R_w.out.lt lt9
    have z0_gx : w.heap.size ≤ gx := Nat.le_trans BW.out.size lt9
    have R_x := hid (hR9.mono BW.out.size)
    clear hR9 lt9
    replace R_w := hid (R_w.out.keep b9)
    replace X_T := X_T.keep b9
    replace X_F := X_F.keep b9
    replace X_Y := X_Y.keep b9
    replace X_W := X_W.keep b9
    replace BW := hid (BW.out.trans (b9.mono BW.out.size))
    clear b9
    have z_F := X_F.lt
    have c_F0 := X_F.cell (i := 0) rfl
    have c_F1 := X_F.cell (i := 1) rfl
    have c_F2 := X_F.cell (i := 2) rfl
    have c_F3 := X_F.cell (i := 3) rfl
    have c_F4 := X_F.cell (i := 4) rfl
    have c_F5 := X_F.cell (i := 5) rfl
    have c_F6 := X_F.cell (i := 6) rfl
    have c_F7 := X_F.cell (i := 7) rfl
    have c_F8 := X_F.cell (i := 8) rfl
    have c_F9 := X_F.cell (i := 9) rfl
    have c_F10 := X_F.cell (i := 10) rfl
    have c_F11 := X_F.cell (i := 11) rfl
    have c_F12 := X_F.cell (i := 12) rfl
    have c_F13 := X_F.cell (i := 13) rfl
    go_wp2_with fail
    refine (MAC.out _ _ (R_x.out.sl (xs := ns.map (frm (fP b))) (by rw [List.length_map, HL.out]) (fun i _ => (getD_frm _ _ _).symm) (small9 (forms9 b ns)))).mono ?_
    rintro e v6 ⟨gm, cm, rfl, hR9, b9⟩
    have lt9 := hR9.ge
    have q_T_gm : bT < gm := Nat.lt_of_lt_of_le X_T.lt lt9
    have q_F_gm : bT + 1 < gm := Nat.lt_of_lt_of_le X_F.lt lt9
    have q_Y_gm : bT + 1 + 1 < gm := Nat.lt_of_lt_of_le X_Y.lt lt9
    have q_W_gm : bW < gm := Nat.lt_of_lt_of_le X_W.lt lt9
    have q_w_gm : gw < gm := Nat.lt_of_lt_of_le R_w.out.lt lt9
    have q_x_gm : gx < gm := Nat.lt_of_lt_of_le R_x.out.lt lt9
    have z0_gm : w.heap.size ≤ gm := Nat.le_trans BW.out.size lt9
    have R_m := hid (hR9.mono BW.out.size)
    clear hR9 lt9
    clear z_F c_F0 c_F1 c_F2 c_F3 c_F4 c_F5 c_F6 c_F7 c_F8 c_F9 c_F10 c_F11 c_F12 c_F13
    replace R_w := hid (R_w.out.keep b9)
    replace R_x := hid (R_x.out.keep b9)
    replace X_T := X_T.keep b9
    replace X_F := X_F.keep b9
    replace X_Y := X_Y.keep b9
    replace X_W := X_W.keep b9
    replace BW := hid (BW.out.trans (b9.mono BW.out.size))
    clear b9
    obtain ⟨wq_o, hmk_o, hR_o, hgq_o⟩ := run_made v6 n (by omega)
    go_wp2
    have b9 : Below v6.heap.size v6 wq_o := Below.grown (Below.refl _ _) hgq_o (Nat.le_refl _) (fun j hj => by cases hj)
    obtain ⟨go, hg9⟩ : ∃ q, v6.heap.size = q := ⟨_, rfl⟩
    have lt9 : v6.heap.size ≤ go := by omega
    have q_T_go : bT < go := Nat.lt_of_lt_of_le X_T.lt lt9
    have q_F_go : bT + 1 < go := Nat.lt_of_lt_of_le X_F.lt lt9
    have q_Y_go : bT + 1 + 1 < go := Nat.lt_of_lt_of_le X_Y.lt lt9
    have q_W_go : bW < go := Nat.lt_of_lt_of_le X_W.lt lt9
    have q_w_go : gw < go := Nat.lt_of_lt_of_le R_w.out.lt lt9
    have q_x_go : gx < go := Nat.lt_of_lt_of_le R_x.out.lt lt9
    have q_m_go : gm < go := Nat.lt_of_lt_of_le R_m.out.lt lt9
    have z0_go : w.heap.size ≤ go := Nat.le_trans BW.out.size lt9
    have R_o := hid (hR_o.mono BW.out.size)
    rw [hg9] at R_o
    try rw [hg9]
    clear hR_o hgq_o hmk_o hg9 lt9
    replace R_w := hid (R_w.out.keep b9)
    replace R_x := hid (R_x.out.keep b9)
    replace R_m := hid (R_m.out.keep b9)
    replace X_T := X_T.keep b9
    replace X_F := X_F.keep b9
    replace X_Y := X_Y.keep b9
    replace X_W := X_W.keep b9
    replace BW := hid (BW.out.trans (b9.mono BW.out.size))
    clear b9
    obtain ⟨v8, hv9⟩ : ∃ v, (wq_o.alloc (.cells #[.slice (some ⟨go, 0, none⟩) n n] 34)) = v := ⟨_, rfl⟩
    have hG9 : Below wq_o.heap.size wq_o v8 := by rw [← hv9]; go_grown
    have X_O : Blk v8 (wq_o.heap.size) 34 [.slice (some ⟨go, 0, none⟩) n n] := by rw [← hv9]; exact Blk.new rfl
    obtain ⟨bO, hb9⟩ : ∃ k, wq_o.heap.size = k := ⟨_, rfl⟩
    rw [hb9] at X_O
    have g_bO : w.heap.size ≤ bO := by rw [← hb9]; exact BW.out.size
    have q_T_bO : bT < bO := by rw [← hb9]; exact X_T.lt
    have q_F_bO : bT + 1 < bO := by rw [← hb9]; exact X_F.lt
    have q_Y_bO : bT + 1 + 1 < bO := by rw [← hb9]; exact X_Y.lt
    have q_W_bO : bW < bO := by rw [← hb9]; exact X_W.lt
    have q_w_bO := R_w.out.lt
    rw [hb9] at q_w_bO
    have q_x_bO := R_x.out.lt
    rw [hb9] at q_x_bO
    have q_m_bO := R_m.out.lt
    rw [hb9] at q_m_bO
    have q_o_bO := R_o.out.lt
    rw [hb9] at q_o_bO
    replace R_w := hid (R_w.out.keep hG9)
    replace R_x := hid (R_x.out.keep hG9)
    replace R_m := hid (R_m.out.keep hG9)
    replace R_o := hid (R_o.out.keep hG9)
    replace X_T := X_T.keep hG9
    replace X_F := X_F.keep hG9
    replace X_Y := X_Y.keep hG9
    replace X_W := X_W.keep hG9
    replace BW := hid (BW.out.trans (hG9.mono BW.out.size))
    clear hG9
    rw [hv9]
    try rw [hb9]
    clear hv9 hb9
    go_wp2
    go_loopw [49] (fun ix wr => ∃ i : Nat, i ≤ n ∧ ix = .int .i64 (i : Int) ∧ Blk wr (bT) 53 [.pointer none] ∧ Blk wr (bT + 1) 31 [.int .i64 (fID b), .int .u64 (limb (fP b) 0 : Int), .int .u64 (limb (fP b) 1 : Int), .int .u64 (limb (fP b) 2 : Int), .int .u64 (limb (fP b) 3 : Int), .int .u64 (fI b : Int), .int .u64 (limb (fO b) 0 : Int), .int .u64 (limb (fO b) 1 : Int), .int .u64 (limb (fO b) 2 : Int), .int .u64 (limb (fO b) 3 : Int), .int .u64 (limb (fS b) 0 : Int), .int .u64 (limb (fS b) 1 : Int), .int .u64 (limb (fS b) 2 : Int), .int .u64 (limb (fS b) 3 : Int)] ∧ Blk wr (bT + 1 + 1) 34 [.slice au n cu] ∧ Blk wr (bW) 34 [.slice (some ⟨gw, 0, none⟩) n cw] ∧ Blk wr (bO) 34 [.slice (some ⟨go, 0, none⟩) n n] ∧ RowF wr w.heap.size 29 gw n cw (fun i => ((wgs (fP b) ns).map (frm (fP b))).getD i 0) ∧ RowF wr w.heap.size 29 gx n n (fun t => frm (fP b) (ns.getD t 0)) ∧ RowF wr w.heap.size 29 gm (n + 1) cm (fun i => ((flV (fP b) [1] ns).map (frm (fP b))).getD i 0) ∧ RowF wr w.heap.size 29 go n n (fun t => frm (fP b) ((itp (fP b) ns ys i).getD t 0)) ∧ Below w.heap.size w wr) (fun ix _ => n - (intOf ix).toNat)
    case atStart => exact ⟨0, Nat.zero_le _, rfl, X_T, X_F, X_Y, X_W, X_O, R_w.out, R_x.out, R_m.out, (R_o.out.congr (fun t _ => by show frm (fP b) ((List.replicate ns.length 0).getD t 0) = 0; rw [rep_zero, frm_zero])), BW.out⟩
    case round =>
      clear X_T X_F X_Y X_W X_O R_w R_x R_m R_o BW
      obtain ⟨i, hk_i, rfl, X_T, X_F, X_Y, X_W, X_O, r9_w, r9_x, r9_m, r9_o, b9⟩ := hrel
      obtain ⟨v9, hv9⟩ : ∃ v, v = wr := ⟨_, rfl⟩
      subst hv9
      have R_w := hid r9_w
      clear r9_w
      have R_x := hid r9_x
      clear r9_x
      have R_m := hid r9_m
      clear r9_m
      have R_o := hid r9_o
      clear r9_o
      have BW := hid b9
      clear b9
      by_cases hi : i < n
      · skip
        have hi0 : (0 : Int) ≤ (i : Int) := by omega
        have hin : (i : Int) < (n : Int) := by omega
        have hp2 := fP_two b
        have QC := hid (fun (W : World) (v : Value) (h : NumSl W v ((flV (fP b) [1] ns).map (frm (fP b)))) => quo9 b ns i HLT.out (by rw [HL.out]; exact hi) (by rw [HL.out]; omega) v W h)
        obtain ⟨rz, hrz⟩ : ∃ z, frm (fP b) (evm (fP b) (ns.getD i 0) (flV (fP b) [1] ns)) = z := ⟨_, rfl⟩
        rw [hrz] at QC
        clear hrz
        obtain ⟨xi, hxi⟩ : ∃ z, frm (fP b) (ns.getD i 0) = z := ⟨_, rfl⟩
        rw [hxi] at QC
        have HXi := hid hxi
        clear hxi
        obtain ⟨yv, hyv⟩ : ∃ x, ys[i]? = some x := ⟨ys[i]'(by rw [← HE.out]; exact hi), List.getElem?_eq_getElem _⟩
        have HYV := hid hyv
        clear hyv
        obtain ⟨gy, oy, rfl, zgy⟩ := sl_open (i := i) HU.out (by rw [List.getElem?_map, HYV.out]; rfl)
        have hwv : (wgs (fP b) ns)[i]? = some (wgt (fP b) ns i) := wgs_at (by rw [HL.out]; exact hi)
        have HWV := hid hwv
        clear hwv
        have z_oV := R_o.out.lt
        have z_F := X_F.lt
        have c_F0 := X_F.cell (i := 0) rfl
        have c_F1 := X_F.cell (i := 1) rfl
        have c_F2 := X_F.cell (i := 2) rfl
        have c_F3 := X_F.cell (i := 3) rfl
        have c_F4 := X_F.cell (i := 4) rfl
        have c_F5 := X_F.cell (i := 5) rfl
        have c_F6 := X_F.cell (i := 6) rfl
        have c_F7 := X_F.cell (i := 7) rfl
        have c_F8 := X_F.cell (i := 8) rfl
        have c_F9 := X_F.cell (i := 9) rfl
        have c_F10 := X_F.cell (i := 10) rfl
        have c_F11 := X_F.cell (i := 11) rfl
        have c_F12 := X_F.cell (i := 12) rfl
        have c_F13 := X_F.cell (i := 13) rfl
        obtain ⟨p0, p1, p2, p3⟩ := R_x.out.cells (i := i) (v := xi) hi HXi.out
        have zp := R_x.out.lt
        go_upto_region 14 with (fail)
        have N_m := hid (R_m.out.sl (xs := ((flV (fP b) [1] ns).map (frm (fP b)))) HML.out (fun _ _ => rfl) HMB.out)
        go_cut [18] (fun q wx => NewB v9.heap.size wx q ((flV (fP b) [1] (oth ns i)).map (frm (fP b))) ∧ Below v9.heap.size v9 wx)
        case first =>
          go_region_held3 (fun w' => ∀ b o, b < v9.heap.size → w'.cell? ⟨b, o, none⟩ = v9.cell? ⟨b, o, none⟩) ((intro b o h; first | with_reducible exact c1 b o h | with_reducible exact cell_drew | with_reducible exact cell_drew.trans (cell_alloc h) | (with_reducible refine (cell_alloc (by (try simp); omega)).trans ?_; first | with_reducible exact c1 b o h | with_reducible exact cell_drew) | with_reducible exact (below_set4 H1.out (by omega) _ _ _ _).cell (p := ⟨b, o, none⟩) h)) (first | (go_at_call 97; refine (QC.out _ _ (NumSl.below N_m.out (by first | with_reducible exact Below.drew (Below.refl _ _) | with_reducible exact Below.drew ((Below.refl _ _).alloc (Nat.le_refl _) _)))).mono ?_; rintro e ra1 ⟨vq, rfl, hq, b9⟩; have H1 : Hid (Below v9.heap.size v9 ra1) := hid (by first | exact (Below.drew (Below.refl _ v9)).trans b9 | exact ((Below.drew (Below.refl _ v9)).alloc (Nat.le_refl _) _).trans (b9.mono (by simp)) | exact (Below.drew ((Below.refl _ v9).alloc (Nat.le_refl _) _)).trans (b9.mono (by simp))); have hq := hid hq; (try (have Z : Blk ra1 v9.heap.size 29 [.int .u64 0, .int .u64 0, .int .u64 0, .int .u64 0] := (by first | exact Blk.keep (Blk.drew (Blk.new rfl)) b9 | exact Blk.keep (Blk.new rfl) b9); have zz := Z.lt; have HZ := hid (hq.out.set4b (N := v9.heap.size) (by simp) (c := v9.heap.size) (by simp)); have y0 := Z.cell (i := 0) rfl; have yf0 := Z.frozen 0; have y1 := Z.cell (i := 1) rfl; have yf1 := Z.frozen 1; have y2 := Z.cell (i := 2) rfl; have yf2 := Z.frozen 2; have y3 := Z.cell (i := 3) rfl; have yf3 := Z.frozen 3)); clear b9; have c1 := bcell H1.out; have z1 := H1.out.size))
          all_goals (go_wp2_with (fail); go_meet)
          all_goals (refine ⟨?_, ?_⟩)
          all_goals (first | with_reducible exact HZ.out (.int .u64 (limb rz 0 : Int)) (.int .u64 (limb rz 1 : Int)) (.int .u64 (limb rz 2 : Int)) (.int .u64 (limb rz 3 : Int)) | with_reducible exact below_set4 H1.out (by omega) (.int .u64 (limb rz 0 : Int)) (.int .u64 (limb rz 1 : Int)) (.int .u64 (limb rz 2 : Int)) (.int .u64 (limb rz 3 : Int)) | with_reducible exact hq.out.allocb (by simp) _ | with_reducible exact H1.out.alloc H1.out.size _)
        case rest =>
          clear N_m
          obtain ⟨⟨hq, hqb⟩, hbel⟩ := hcut
          obtain ⟨wc1, hwc⟩ : ∃ v, wc = v := ⟨_, rfl⟩
          rw [hwc] at hq hbel ⊢
          have HQB := hid hqb
          clear hqb
          clear hwc
          clear z_F c_F0 c_F1 c_F2 c_F3 c_F4 c_F5 c_F6 c_F7 c_F8 c_F9 c_F10 c_F11 c_F12 c_F13 p0 p1 p2 p3 zp
          replace R_w := hid (R_w.out.keep hbel)
          replace R_x := hid (R_x.out.keep hbel)
          replace R_m := hid (R_m.out.keep hbel)
          replace R_o := hid (R_o.out.keep hbel)
          replace X_T := X_T.keep hbel
          replace X_F := X_F.keep hbel
          replace X_Y := X_Y.keep hbel
          replace X_W := X_W.keep hbel
          replace X_O := X_O.keep hbel
          replace BW := hid (BW.out.trans (hbel.mono BW.out.size))
          clear hbel
          obtain ⟨aq, cq, rfl, hqc, hqr⟩ := id hq
          obtain ⟨nq, hnq⟩ : ∃ z, ((flV (fP b) [1] (oth ns i)).map (frm (fP b))).length = z := ⟨_, rfl⟩
          have hql : (flV (fP b) [1] (oth ns i)).length = n := by rw [flV_len (by omega) _ (by simp), oth_len (by rw [HL.out]; exact hi), HL.out]; simp; omega
          rw [hnq] at hq HQB ⊢
          clear hqc hqr hnq
          obtain ⟨q0, hq0⟩ : ∃ x, ((flV (fP b) [1] (oth ns i)).map (frm (fP b)))[0]? = some x := ⟨((flV (fP b) [1] (oth ns i)).map (frm (fP b)))[0]'(by rw [List.length_map, hql]; omega), List.getElem?_eq_getElem _⟩
          obtain ⟨gq, oq, rfl, zq⟩ := sl_open hq hq0
          have hqo : go < gq := by have h8 := HQB.out _ _ _ rfl _ rfl; exact Nat.lt_of_lt_of_le z_oV h8
          clear hq0
          have HQ9 := hid hq
          have HQL := hid hql
          clear hq hql
          have AC := hid (fun (W : World) => add9 (w := W) (b := b) (i := i) (n := n) (cw := cw) (cy := cu) (nq := nq) (cq := cq) (gw := gw) (gy := gy) (oy := oy) (gq := gq) (oq := oq) (gO := go) (base := w.heap.size) (wv := wgt (fP b) ns i) (yv := yv) (ov := fun t => (itp (fP b) ns ys i).getD t 0) (ws := wgs (fP b) ns) (ys := ys) (qs := flV (fP b) [1] (oth ns i)))
          go_wp2_with fail
          refine (AC.out _ _ _ _ _ _ X_F X_W X_Y X_O X_T (R_w.out.sl (by rw [List.length_map, wgs_len, HL.out]) (fun _ _ => rfl) (small9 (forms9 b _))) (HU.out.below BW.out) HQ9.out (fun ad e => by cases e; show ¬ (gq = go); omega) R_o.out (by omega) (by omega) (by omega) HWV.out HYV.out hi HQL.out (by omega)).mono ?_
          rintro e v10 ⟨rfl, O9, S9⟩
          replace S9 := S9.congr (f' := fun t => frm (fP b) ((itp (fP b) ns ys (i + 1)).getD t 0)) (fun t ht => by rw [itp_at (by omega) HLT.out (show i < ns.length by rw [HL.out]; exact hi) (show t < ns.length by rw [HL.out]; exact ht)]; show frm _ (addm _ _ (mulm _ (mulm _ _ (ys.getD i 0)) _)) = _; rw [getD_some HYV.out])
          clear HQ9 HQB AC
          replace X_T := X_T.only O9 (show ¬ (bT = go) by omega)
          replace X_F := X_F.only O9 (show ¬ (bT + 1 = go) by omega)
          replace X_Y := X_Y.only O9 (show ¬ (bT + 1 + 1 = go) by omega)
          replace X_W := X_W.only O9 (show ¬ (bW = go) by omega)
          replace X_O := X_O.only O9 (show ¬ (bO = go) by omega)
          replace R_w := hid (R_w.out.other O9 (show ¬ (gw = go) by omega))
          replace R_x := hid (R_x.out.other O9 (show ¬ (gx = go) by omega))
          replace R_m := hid (R_m.out.other O9 (show ¬ (gm = go) by omega))
          replace BW := hid (BW.out.trans (O9.below (fun k h => by cases h; exact z0_go) BW.out.size))
          replace R_o := hid S9
          clear O9 S9
          go_wp2
          go_roundw
          case rel => exact ⟨i + 1, by omega, by go_num, X_T, X_F, X_Y, X_W, X_O, R_w.out, R_x.out, R_m.out, R_o.out, BW.out⟩
          case measure => simp [intOf]; omega
      · skip
        obtain rfl : n = i := by omega
        clear hi
        have z_O := X_O.lt
        have c_O0 := X_O.cell (i := 0) rfl
        go_wp2
        refine bodyPost_ret (by simp only [results, Tryd.results59]; go_simp; try rfl) rfl ?_
        exact ⟨_, rfl, R_o.out.ownl (by rw [List.length_map, EIL.out n (Nat.le_refl _), HL.out]) (fun i h => (getD_frm _ _ _).symm), BW.out⟩
  · skip
    have H00 : Hid (n = 0) := hid (by omega)
    clear h0
    go_enter Tryd.func59, Tryd.ntmps59
    go_wp2_with fail
    obtain ⟨v1, hv9⟩ : ∃ v, (((w.alloc (.cells #[.pointer none] 53)).alloc (.cells #[.int .i64 (fID b), .int .u64 (limb (fP b) 0 : Int), .int .u64 (limb (fP b) 1 : Int), .int .u64 (limb (fP b) 2 : Int), .int .u64 (limb (fP b) 3 : Int), .int .u64 (fI b : Int), .int .u64 (limb (fO b) 0 : Int), .int .u64 (limb (fO b) 1 : Int), .int .u64 (limb (fO b) 2 : Int), .int .u64 (limb (fO b) 3 : Int), .int .u64 (limb (fS b) 0 : Int), .int .u64 (limb (fS b) 1 : Int), .int .u64 (limb (fS b) 2 : Int), .int .u64 (limb (fS b) 3 : Int)] 31)).alloc (.cells #[.slice au n cu] 34)) = v := ⟨_, rfl⟩
    have hG9 : Below w.heap.size w v1 := by rw [← hv9]; go_grown
    have X_T : Blk v1 (w.heap.size) 53 [.pointer none] := by rw [← hv9]; exact Blk.alloc (Blk.alloc (Blk.new rfl) _) _
    have X_F : Blk v1 (w.heap.size + 1) 31 [.int .i64 (fID b), .int .u64 (limb (fP b) 0 : Int), .int .u64 (limb (fP b) 1 : Int), .int .u64 (limb (fP b) 2 : Int), .int .u64 (limb (fP b) 3 : Int), .int .u64 (fI b : Int), .int .u64 (limb (fO b) 0 : Int), .int .u64 (limb (fO b) 1 : Int), .int .u64 (limb (fO b) 2 : Int), .int .u64 (limb (fO b) 3 : Int), .int .u64 (limb (fS b) 0 : Int), .int .u64 (limb (fS b) 1 : Int), .int .u64 (limb (fS b) 2 : Int), .int .u64 (limb (fS b) 3 : Int)] := by rw [← hv9]; exact Blk.alloc (Blk.new (by simp)) _
    have X_Y : Blk v1 (w.heap.size + 1 + 1) 34 [.slice au n cu] := by rw [← hv9]; exact Blk.new (by simp)
    obtain ⟨bT, hb9⟩ : ∃ k, w.heap.size = k := ⟨_, rfl⟩
    rw [hb9] at X_T
    rw [hb9] at X_F
    rw [hb9] at X_Y
    have g_bT : w.heap.size ≤ bT := by rw [← hb9]; exact BW.out.size
    replace BW := hid (BW.out.trans (hG9.mono BW.out.size))
    clear hG9
    rw [hv9]
    try rw [hb9]
    clear hv9 hb9
    refine (CK.out _ (HS.out.below BW.out)).mono ?_
    rintro e v2 ⟨rfl, b9⟩
    replace X_T := X_T.keep b9
    replace X_F := X_F.keep b9
    replace X_Y := X_Y.keep b9
    replace BW := hid (BW.out.trans (b9.mono BW.out.size))
    clear b9
    have z_T := X_T.lt
    have c_T0 := X_T.cell (i := 0) rfl
    have z_F := X_F.lt
    have c_F0 := X_F.cell (i := 0) rfl
    have c_F1 := X_F.cell (i := 1) rfl
    have c_F2 := X_F.cell (i := 2) rfl
    have c_F3 := X_F.cell (i := 3) rfl
    have c_F4 := X_F.cell (i := 4) rfl
    have c_F5 := X_F.cell (i := 5) rfl
    have c_F6 := X_F.cell (i := 6) rfl
    have c_F7 := X_F.cell (i := 7) rfl
    have c_F8 := X_F.cell (i := 8) rfl
    have c_F9 := X_F.cell (i := 9) rfl
    have c_F10 := X_F.cell (i := 10) rfl
    have c_F11 := X_F.cell (i := 11) rfl
    have c_F12 := X_F.cell (i := 12) rfl
    have c_F13 := X_F.cell (i := 13) rfl
    have z_Y := X_Y.lt
    have c_Y0 := X_Y.cell (i := 0) rfl
    go_wp2_with fail
    refine (WTC.out _ (HS.out.below BW.out)).mono ?_
    rintro e v3 ⟨vw, rfl, ho, b9⟩
    rw [List.length_map, wgs_len, HL.out] at ho
    obtain ⟨aw, cw, rfl, _, _, _⟩ := owns_form ho
    have HO := hid (owns_mono ho BW.out.size)
    clear ho
    clear z_T c_T0 z_F c_F0 c_F1 c_F2 c_F3 c_F4 c_F5 c_F6 c_F7 c_F8 c_F9 c_F10 c_F11 c_F12 c_F13 z_Y c_Y0
    replace X_T := X_T.keep b9
    replace X_F := X_F.keep b9
    replace X_Y := X_Y.keep b9
    replace BW := hid (BW.out.trans (b9.mono BW.out.size))
    clear b9
    have HO2 := hid HO.out
    clear HO
    have N_w := HO2
    clear HO2
    clear N_w
    have z_F := X_F.lt
    have c_F0 := X_F.cell (i := 0) rfl
    have c_F1 := X_F.cell (i := 1) rfl
    have c_F2 := X_F.cell (i := 2) rfl
    have c_F3 := X_F.cell (i := 3) rfl
    have c_F4 := X_F.cell (i := 4) rfl
    have c_F5 := X_F.cell (i := 5) rfl
    have c_F6 := X_F.cell (i := 6) rfl
    have c_F7 := X_F.cell (i := 7) rfl
    have c_F8 := X_F.cell (i := 8) rfl
    have c_F9 := X_F.cell (i := 9) rfl
    have c_F10 := X_F.cell (i := 10) rfl
    have c_F11 := X_F.cell (i := 11) rfl
    have c_F12 := X_F.cell (i := 12) rfl
    have c_F13 := X_F.cell (i := 13) rfl
    go_wp2_with fail
    obtain ⟨v4, hv9⟩ : ∃ v, (v3.alloc (.cells #[.slice aw n cw] 34)) = v := ⟨_, rfl⟩
    have hG9 : Below v3.heap.size v3 v4 := by rw [← hv9]; go_grown
    have X_W : Blk v4 (v3.heap.size) 34 [.slice aw n cw] := by rw [← hv9]; exact Blk.new rfl
    obtain ⟨bW, hb9⟩ : ∃ k, v3.heap.size = k := ⟨_, rfl⟩
    rw [hb9] at X_W
    have g_bW : w.heap.size ≤ bW := by rw [← hb9]; exact BW.out.size
    have q_T_bW : bT < bW := by rw [← hb9]; exact X_T.lt
    have q_F_bW : bT + 1 < bW := by rw [← hb9]; exact X_F.lt
    have q_Y_bW : bT + 1 + 1 < bW := by rw [← hb9]; exact X_Y.lt
    clear z_F c_F0 c_F1 c_F2 c_F3 c_F4 c_F5 c_F6 c_F7 c_F8 c_F9 c_F10 c_F11 c_F12 c_F13
    replace X_T := X_T.keep hG9
    replace X_F := X_F.keep hG9
    replace X_Y := X_Y.keep hG9
    replace BW := hid (BW.out.trans (hG9.mono BW.out.size))
    clear hG9
    rw [hv9]
    try rw [hb9]
    clear hv9 hb9
    refine (PT.out _ (HS.out.below BW.out)).mono ?_
    rintro e v5 ⟨gx, rfl, hR9, b9⟩
    have lt9 := hR9.ge
    have q_T_gx : bT < gx := Nat.lt_of_lt_of_le X_T.lt lt9
    have q_F_gx : bT + 1 < gx := Nat.lt_of_lt_of_le X_F.lt lt9
    have q_Y_gx : bT + 1 + 1 < gx := Nat.lt_of_lt_of_le X_Y.lt lt9
    have q_W_gx : bW < gx := Nat.lt_of_lt_of_le X_W.lt lt9
    have z0_gx : w.heap.size ≤ gx := Nat.le_trans BW.out.size lt9
    have R_x := hid (hR9.mono BW.out.size)
    clear hR9 lt9
    replace X_T := X_T.keep b9
    replace X_F := X_F.keep b9
    replace X_Y := X_Y.keep b9
    replace X_W := X_W.keep b9
    replace BW := hid (BW.out.trans (b9.mono BW.out.size))
    clear b9
    have z_F := X_F.lt
    have c_F0 := X_F.cell (i := 0) rfl
    have c_F1 := X_F.cell (i := 1) rfl
    have c_F2 := X_F.cell (i := 2) rfl
    have c_F3 := X_F.cell (i := 3) rfl
    have c_F4 := X_F.cell (i := 4) rfl
    have c_F5 := X_F.cell (i := 5) rfl
    have c_F6 := X_F.cell (i := 6) rfl
    have c_F7 := X_F.cell (i := 7) rfl
    have c_F8 := X_F.cell (i := 8) rfl
    have c_F9 := X_F.cell (i := 9) rfl
    have c_F10 := X_F.cell (i := 10) rfl
    have c_F11 := X_F.cell (i := 11) rfl
    have c_F12 := X_F.cell (i := 12) rfl
    have c_F13 := X_F.cell (i := 13) rfl
    go_wp2_with fail
    refine (MAC.out _ _ (R_x.out.sl (xs := ns.map (frm (fP b))) (by rw [List.length_map, HL.out]) (fun i _ => (getD_frm _ _ _).symm) (small9 (forms9 b ns)))).mono ?_
    rintro e v6 ⟨gm, cm, rfl, hR9, b9⟩
    have lt9 := hR9.ge
    have q_T_gm : bT < gm := Nat.lt_of_lt_of_le X_T.lt lt9
    have q_F_gm : bT + 1 < gm := Nat.lt_of_lt_of_le X_F.lt lt9
    have q_Y_gm : bT + 1 + 1 < gm := Nat.lt_of_lt_of_le X_Y.lt lt9
    have q_W_gm : bW < gm := Nat.lt_of_lt_of_le X_W.lt lt9
    have q_x_gm : gx < gm := Nat.lt_of_lt_of_le R_x.out.lt lt9
    have z0_gm : w.heap.size ≤ gm := Nat.le_trans BW.out.size lt9
    have R_m := hid (hR9.mono BW.out.size)
    clear hR9 lt9
    clear z_F c_F0 c_F1 c_F2 c_F3 c_F4 c_F5 c_F6 c_F7 c_F8 c_F9 c_F10 c_F11 c_F12 c_F13
    replace R_x := hid (R_x.out.keep b9)
    replace X_T := X_T.keep b9
    replace X_F := X_F.keep b9
    replace X_Y := X_Y.keep b9
    replace X_W := X_W.keep b9
    replace BW := hid (BW.out.trans (b9.mono BW.out.size))
    clear b9
    obtain ⟨wq_o, hmk_o, hR_o, hgq_o⟩ := run_made v6 n (by omega)
    go_wp2
    have b9 : Below v6.heap.size v6 wq_o := Below.grown (Below.refl _ _) hgq_o (Nat.le_refl _) (fun j hj => by cases hj)
    obtain ⟨go, hg9⟩ : ∃ q, v6.heap.size = q := ⟨_, rfl⟩
    have lt9 : v6.heap.size ≤ go := by omega
    have q_T_go : bT < go := Nat.lt_of_lt_of_le X_T.lt lt9
    have q_F_go : bT + 1 < go := Nat.lt_of_lt_of_le X_F.lt lt9
    have q_Y_go : bT + 1 + 1 < go := Nat.lt_of_lt_of_le X_Y.lt lt9
    have q_W_go : bW < go := Nat.lt_of_lt_of_le X_W.lt lt9
    have q_x_go : gx < go := Nat.lt_of_lt_of_le R_x.out.lt lt9
    have q_m_go : gm < go := Nat.lt_of_lt_of_le R_m.out.lt lt9
    have z0_go : w.heap.size ≤ go := Nat.le_trans BW.out.size lt9
    have R_o := hid (hR_o.mono BW.out.size)
    rw [hg9] at R_o
    try rw [hg9]
    clear hR_o hgq_o hmk_o hg9 lt9
    replace R_x := hid (R_x.out.keep b9)
    replace R_m := hid (R_m.out.keep b9)
    replace X_T := X_T.keep b9
    replace X_F := X_F.keep b9
    replace X_Y := X_Y.keep b9
    replace X_W := X_W.keep b9
    replace BW := hid (BW.out.trans (b9.mono BW.out.size))
    clear b9
    obtain ⟨v8, hv9⟩ : ∃ v, (wq_o.alloc (.cells #[.slice (some ⟨go, 0, none⟩) n n] 34)) = v := ⟨_, rfl⟩
    have hG9 : Below wq_o.heap.size wq_o v8 := by rw [← hv9]; go_grown
    have X_O : Blk v8 (wq_o.heap.size) 34 [.slice (some ⟨go, 0, none⟩) n n] := by rw [← hv9]; exact Blk.new rfl
    obtain ⟨bO, hb9⟩ : ∃ k, wq_o.heap.size = k := ⟨_, rfl⟩
    rw [hb9] at X_O
    have g_bO : w.heap.size ≤ bO := by rw [← hb9]; exact BW.out.size
    have q_T_bO : bT < bO := by rw [← hb9]; exact X_T.lt
    have q_F_bO : bT + 1 < bO := by rw [← hb9]; exact X_F.lt
    have q_Y_bO : bT + 1 + 1 < bO := by rw [← hb9]; exact X_Y.lt
    have q_W_bO : bW < bO := by rw [← hb9]; exact X_W.lt
    have q_x_bO := R_x.out.lt
    rw [hb9] at q_x_bO
    have q_m_bO := R_m.out.lt
    rw [hb9] at q_m_bO
    have q_o_bO := R_o.out.lt
    rw [hb9] at q_o_bO
    replace R_x := hid (R_x.out.keep hG9)
    replace R_m := hid (R_m.out.keep hG9)
    replace R_o := hid (R_o.out.keep hG9)
    replace X_T := X_T.keep hG9
    replace X_F := X_F.keep hG9
    replace X_Y := X_Y.keep hG9
    replace X_W := X_W.keep hG9
    replace BW := hid (BW.out.trans (hG9.mono BW.out.size))
    clear hG9
    rw [hv9]
    try rw [hb9]
    clear hv9 hb9
    go_wp2
    go_loopw [49] (fun ix wr => ∃ i : Nat, i ≤ n ∧ ix = .int .i64 (i : Int) ∧ Blk wr (bT) 53 [.pointer none] ∧ Blk wr (bT + 1) 31 [.int .i64 (fID b), .int .u64 (limb (fP b) 0 : Int), .int .u64 (limb (fP b) 1 : Int), .int .u64 (limb (fP b) 2 : Int), .int .u64 (limb (fP b) 3 : Int), .int .u64 (fI b : Int), .int .u64 (limb (fO b) 0 : Int), .int .u64 (limb (fO b) 1 : Int), .int .u64 (limb (fO b) 2 : Int), .int .u64 (limb (fO b) 3 : Int), .int .u64 (limb (fS b) 0 : Int), .int .u64 (limb (fS b) 1 : Int), .int .u64 (limb (fS b) 2 : Int), .int .u64 (limb (fS b) 3 : Int)] ∧ Blk wr (bT + 1 + 1) 34 [.slice au n cu] ∧ Blk wr (bW) 34 [.slice aw n cw] ∧ Blk wr (bO) 34 [.slice (some ⟨go, 0, none⟩) n n] ∧ RowF wr w.heap.size 29 gx n n (fun t => frm (fP b) (ns.getD t 0)) ∧ RowF wr w.heap.size 29 gm (n + 1) cm (fun i => ((flV (fP b) [1] ns).map (frm (fP b))).getD i 0) ∧ RowF wr w.heap.size 29 go n n (fun t => frm (fP b) ((itp (fP b) ns ys i).getD t 0)) ∧ Below w.heap.size w wr) (fun ix _ => n - (intOf ix).toNat)
    case atStart => exact ⟨0, Nat.zero_le _, rfl, X_T, X_F, X_Y, X_W, X_O, R_x.out, R_m.out, (R_o.out.congr (fun t _ => by show frm (fP b) ((List.replicate ns.length 0).getD t 0) = 0; rw [rep_zero, frm_zero])), BW.out⟩
    case round =>
      clear X_T X_F X_Y X_W X_O R_x R_m R_o BW
      obtain ⟨i, hk_i, rfl, X_T, X_F, X_Y, X_W, X_O, r9_x, r9_m, r9_o, b9⟩ := hrel
      obtain ⟨v9, hv9⟩ : ∃ v, v = wr := ⟨_, rfl⟩
      subst hv9
      have R_x := hid r9_x
      clear r9_x
      have R_m := hid r9_m
      clear r9_m
      have R_o := hid r9_o
      clear r9_o
      have BW := hid b9
      clear b9
      by_cases hi : i < n
      · skip
        exact absurd hi (by have := H00.out; omega)
      · skip
        obtain rfl : n = i := by omega
        clear hi
        have z_O := X_O.lt
        have c_O0 := X_O.cell (i := 0) rfl
        go_wp2
        refine bodyPost_ret (by simp only [results, Tryd.results59]; go_simp; try rfl) rfl ?_
        exact ⟨_, rfl, R_o.out.ownl (by rw [List.length_map, EIL.out n (Nat.le_refl _), HL.out]) (fun i h => (getD_frm _ _ _).symm), BW.out⟩
end Go.Proofs.YtogenbggjodcnaaDoor
