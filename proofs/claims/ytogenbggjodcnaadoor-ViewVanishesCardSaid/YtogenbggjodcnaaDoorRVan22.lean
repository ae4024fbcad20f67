/-
  The reference: the polynomial that vanishes at points; shifting.
-/
import Derived.Test.YtogenbggjodcnaaDoorShift22
import Derived.Test.YtogenbggjodcnaaDoorGetB
import Derived.Test.YtogenbggjodcnaaDoorSetB
namespace Go.Proofs.YtogenbggjodcnaaDoor
open Go.RowKit

attribute [local go_sem] Oper.semAt_some
theorem vanV_next {p : Nat} {ns : List Nat} {k x : Nat} (h : ns[k]? = some x) : vanV p (ns.take (k + 1)) = pmulV p (vanV p (ns.take k)) [1, subm p 0 (invm p x)] := by
  unfold vanV; rw [take_next h, List.foldl_append]; rfl
theorem vanV_lt9 {p : Nat} (hp : 1 < p) (ns : List Nat) : ∀ z ∈ vanV p ns, z < p := by rw [← vanQ_inv]; exact vanQ_lt hp _
theorem two_lt {p : Nat} (hp : 1 < p) (y : Nat) : ∀ z ∈ [1, subm p 0 y], z < p := fun z hz => by
  rcases List.mem_cons.1 hz with h | h
  · omega
  · rw [List.mem_singleton.1 h]; exact subm_lt _ _ (by omega)
set_option maxRecDepth 100000 in
set_option maxHeartbeats 8000000 in
theorem rvanish_any (b : Bool) (v : Value) (xs : List Int) (w : World) (hS : IntSl w v xs) (hl : xs.length < 10000) (hx : Hid (∀ x ∈ xs, 1 ≤ x ∧ x ≤ 255)) :
    Calls Tryd.prog 39 #[vec (fP b), v] w (RetSl (vanV (fP b) (pts xs)) w) := by
  have BW := hid (Below.refl w.heap.size w)
  have HS := hid hS
  obtain ⟨sa, sc, rfl, _⟩ := hS
  obtain ⟨n, hn⟩ : ∃ n, xs.length = n := ⟨_, rfl⟩
  rw [hn] at HS hl ⊢
  have HN := hid hn
  have hp2 := fP_two b
  have hpb := fP_lt b
  have hPL : (pts xs).length = n := by rw [pts_len]; exact hn
  have HPL := hid hPL
  have HLT := hid (pts_lt hx.out (show 255 < fP b by cases b <;> decide))
  have HPA := hid (fun (k : Nat) (x : Int) (h : xs[k]? = some x) => show (pts xs)[k]? = some x.toNat by unfold pts; rw [List.getElem?_map, h]; rfl)
  have ONC := hid (fun W : World => (rone_any W).mono (R' := Ret (vec 1) W) (by rintro e w' ⟨rfl, rfl⟩; exact ⟨rfl, (Below.refl _ _).alloc (Nat.le_refl _) _⟩))
  clear hn hPL
  go_enter Tryd.func39, Tryd.ntmps39
  go_wp2_with fail
  obtain ⟨v1, hv9⟩ : ∃ v, (w.alloc (.cells #[.int .u64 (limb (fP b) 0 : Int), .int .u64 (limb (fP b) 1 : Int), .int .u64 (limb (fP b) 2 : Int), .int .u64 (limb (fP b) 3 : Int)] 28)) = v := ⟨_, rfl⟩
  have hG9 : Below w.heap.size w v1 := by rw [← hv9]; go_grown
  have X_P : Blk v1 (w.heap.size) 28 [.int .u64 (limb (fP b) 0 : Int), .int .u64 (limb (fP b) 1 : Int), .int .u64 (limb (fP b) 2 : Int), .int .u64 (limb (fP b) 3 : Int)] := by rw [← hv9]; exact Blk.new rfl
  obtain ⟨bP, hb9⟩ : ∃ k, w.heap.size = k := ⟨_, rfl⟩
  rw [hb9] at X_P
  have g_bP : w.heap.size ≤ bP := by rw [← hb9]; exact BW.out.size
  replace BW := hid (BW.out.trans (hG9.mono BW.out.size))
  clear hG9
  rw [hv9]
  try rw [hb9]
  clear hv9 hb9
  refine (ONC.out _).mono ?_
  rintro e v2 ⟨rfl, b9⟩
  replace X_P := X_P.keep b9
  replace BW := hid (BW.out.trans (b9.mono BW.out.size))
  clear b9
  go_wp2
  obtain ⟨v3, hv9⟩ : ∃ v, (v2.alloc (.cells #[.int .u64 (limb (1) 0 : Int), .int .u64 (limb (1) 1 : Int), .int .u64 (limb (1) 2 : Int), .int .u64 (limb (1) 3 : Int)] 28)) = v := ⟨_, rfl⟩
  have hG9 : Below v2.heap.size v2 v3 := by rw [← hv9]; go_grown
  have X_A : Blk v3 (v2.heap.size) 28 [.int .u64 (limb (1) 0 : Int), .int .u64 (limb (1) 1 : Int), .int .u64 (limb (1) 2 : Int), .int .u64 (limb (1) 3 : Int)] := by rw [← hv9]; exact Blk.new rfl
  obtain ⟨bA, hb9⟩ : ∃ k, v2.heap.size = k := ⟨_, rfl⟩
  rw [hb9] at X_A
  have g_bA : w.heap.size ≤ bA := by rw [← hb9]; exact BW.out.size
  have q_P_bA : bP < bA := by rw [← hb9]; exact X_P.lt
  replace X_P := X_P.keep hG9
  replace BW := hid (BW.out.trans (hG9.mono BW.out.size))
  clear hG9
  rw [hv9]
  try rw [hb9]
  clear hv9 hb9
  have HA : NumSl v3 (.slice (some ⟨bA, 0, none⟩) 1 1) (vanV (fP b) ((pts xs).take 0)) := blk_nums (t := 28) (xs := [1]) X_A (by intro y hy; rw [List.mem_singleton.1 hy]; decide)
  clear X_A
  go_loopw [5, 6] (fun y ix wr => ∃ k : Nat, k ≤ n ∧ ix = .int .i64 (k : Int) ∧ Blk wr (bP) 28 [.int .u64 (limb (fP b) 0 : Int), .int .u64 (limb (fP b) 1 : Int), .int .u64 (limb (fP b) 2 : Int), .int .u64 (limb (fP b) 3 : Int)] ∧ Below w.heap.size w wr ∧ ∃ z9, z9 = y ∧ NumSl wr z9 (vanV (fP b) ((pts xs).take k))) (fun _ ix _ => n - (intOf ix).toNat)
  case atStart => exact ⟨0, Nat.zero_le _, rfl, X_P, BW.out, _, rfl, HA⟩
  case round =>
    clear X_P BW
    obtain ⟨k, hk_k, rfl, X_P, b9, hm_k⟩ := hrel
    obtain ⟨v4, hv9⟩ : ∃ v, v = wr := ⟨_, rfl⟩
    subst hv9
    have BW := hid b9
    clear b9
    have HM_k := hid hm_k
    clear hm_k
    by_cases hk : k < n
    · skip
      obtain ⟨yv, rfl, hN9⟩ := HM_k.out
      have N_o := hid hN9
      clear HM_k hN9
      obtain ⟨x, hx9⟩ : ∃ x, xs[k]? = some x := ⟨xs[k]'(by rw [HN.out]; exact hk), List.getElem?_eq_getElem _⟩
      obtain ⟨h1, h2⟩ := hx.out x (List.mem_of_getElem? hx9)
      have hpx := HPA.out k x hx9
      have hxl := HLT.out _ (List.mem_of_getElem? hpx)
      obtain ⟨g, off, rfl, hg, d0⟩ := (HS.out.below BW.out).at hx9
      have hk0 : (0 : Int) ≤ (k : Int) := by omega
      have hkn : (k : Int) < (n : Int) := by omega
      have PTC := hid (fun W : World => point_any x h1 h2 W)
      have INC : Hid (∀ W : World, Calls Tryd.prog 77 #[vec (fP b), vec x.toNat] W (Ret (vec (invm (fP b) x.toNat)) W)) := hid (fun W : World => rinv_any (fP b) x.toNat hpb (by omega) hxl W)
      have SBC := hid (fun W : World => rsubm_any (fP b) 0 (invm (fP b) x.toNat) hpb (by omega) (invm_lt _ (by omega)) W)
      rw [← vec_zero] at SBC
      have HNX := hid (vanV_next (p := fP b) hpx)
      have H2 := hid (two_lt (show 1 < fP b by omega) (invm (fP b) x.toNat))
      have hol : (vanV (fP b) ((pts xs).take k)).length < 100000 := by rw [vanV_len (by omega), List.length_take, HPL.out]; omega
      have MLC := hid (fun (W : World) (v1 v2 : Value) (h1 : NumSl W v1 (vanV (fP b) ((pts xs).take k))) (h2 : NumSl W v2 [1, subm (fP b) 0 (invm (fP b) x.toNat)]) => rpmul_sl (fP b) v1 v2 _ _ W hpb (by omega) h1 h2 (hid (vanV_lt9 (by omega) _)) (hid H2.out) hol (by simp))
      rw [← HNX.out] at MLC
      obtain ⟨iv, hiv⟩ : ∃ z, invm (fP b) x.toNat = z := ⟨_, rfl⟩
      rw [hiv] at INC SBC MLC H2
      obtain ⟨sv, hsv⟩ : ∃ z, subm (fP b) 0 iv = z := ⟨_, rfl⟩
      rw [hsv] at SBC MLC H2
      have H2B : Hid (∀ z ∈ [1, sv], z < B256) := hid (fun z hz => Nat.lt_trans (H2.out z hz) hpb)
      obtain ⟨xt, hxt⟩ : ∃ z, x.toNat = z := ⟨_, rfl⟩
      rw [hxt] at PTC INC
      obtain ⟨oa, oc, rfl, _, _⟩ := id N_o.out
      obtain ⟨ol, hol9⟩ : ∃ z, (vanV (fP b) ((pts xs).take k)).length = z := ⟨_, rfl⟩
      rw [hol9] at N_o ⊢
      clear hiv hsv hxt hol9 hol hxl hpx hx9
      have z_P := X_P.lt
      have c_P0 := X_P.cell (i := 0) rfl
      have c_P1 := X_P.cell (i := 1) rfl
      have c_P2 := X_P.cell (i := 2) rfl
      have c_P3 := X_P.cell (i := 3) rfl
      go_upto_region 5 with (fail)
      go_cut [7] (fun t0 wx => ∃ br0, t0 = .pointer (some ⟨br0, 0, none⟩) ∧ Blk wx br0 28 [.int .u64 (limb iv 0 : Int), .int .u64 (limb iv 1 : Int), .int .u64 (limb iv 2 : Int), .int .u64 (limb iv 3 : Int)] ∧ v4.heap.size ≤ br0 ∧ Below v4.heap.size v4 wx)
      case first =>
        try refine wp_region_noPanic ?_
        refine wp_region_held_drew (S := (fun w' => ∀ b o, b < v4.heap.size → w'.cell? ⟨b, o, none⟩ = v4.cell? ⟨b, o, none⟩)) (by kernel_rfl) (fun b o h => cell_drew) (fun hHeld => ?_)
        refine wpAnyH_take (i := 0) (oi := _) (v := vec (fP b)) rfl (by kernel_rfl) (by kernel_rfl) (by kernel_rfl) (fun _ _ _ h => h) (Or.inl ⟨by rfl, ?_⟩) (by assumption) ?_
        · intro w hSw; (try dsimp only at hSw); go_simp
        try simp only [Act.put, List.setIfInBounds_toArray, List.set_cons_zero, List.set_cons_succ]
        refine wpAnyH_take (i := 1) (oi := _) (v := .slice (some ⟨g, off, none⟩) n sc) rfl (by kernel_rfl) (by kernel_rfl) (by kernel_rfl) (fun _ _ _ h => h) (Or.inl ⟨by rfl, ?_⟩) (by assumption) ?_
        · intro w hSw; (try dsimp only at hSw); go_simp
        try simp only [Act.put, List.setIfInBounds_toArray, List.set_cons_zero, List.set_cons_succ]
        refine wpAnyH_take (i := 2) (oi := _) (v := .int .i64 (k : Int)) rfl (by kernel_rfl) (by kernel_rfl) (by kernel_rfl) (fun _ _ _ h => h) (Or.inl ⟨by rfl, ?_⟩) (by assumption) ?_
        · intro w hSw; (try dsimp only at hSw); go_simp
        try simp only [Act.put, List.setIfInBounds_toArray, List.set_cons_zero, List.set_cons_succ]
        refine wpAnyH_take (i := 3) (oi := _) (v := .pointer (some ⟨g, off + k, none⟩)) rfl (by kernel_rfl) (by kernel_rfl) (by kernel_rfl) (fun _ _ _ h => h) (Or.inl ⟨by rfl, ?_⟩) (by assumption) ?_
        · intro w hSw; (try dsimp only at hSw); go_simp
        try simp only [Act.put, List.setIfInBounds_toArray, List.set_cons_zero, List.set_cons_succ]
        refine wpAnyH_take (i := 4) (oi := _) (v := .int .i64 x) rfl (by kernel_rfl) (by kernel_rfl) (by kernel_rfl) (fun _ _ _ h => h) (Or.inl ⟨by rfl, ?_⟩) (by assumption) ?_
        · intro w hSw; (try dsimp only at hSw); go_simp
        try simp only [Act.put, List.setIfInBounds_toArray, List.set_cons_zero, List.set_cons_succ]
        have H9 := (Below.refl v4.heap.size v4).drew
        clear hHeld
        refine wpAnyH_ready (rs := [5, 7]) (by kernel_rfl) (by simp) ?_
        refine AllReadyH.cons (o := _) rfl (fun K hK => ?_) ?_
        · skip
          go_simp
          go_at_call 24
          refine (PTC.out _).mono ?_
          rintro e rr1 ⟨rfl, b9⟩
          replace H9 := H9.trans (b9.mono H9.size)
          clear b9
          try go_wp2_with fail
          refine hK.out _ _ (fun b o h => H9.cell (p := ⟨b, o, none⟩) h) (fun hHeld => ?_)
          clear hK K hHeld
          try simp only [Act.put, List.setIfInBounds_toArray, List.set_cons_zero, List.set_cons_succ]
          refine wpAnyH_ready (rs := [6, 7]) (by kernel_rfl) (by simp) ?_
          refine AllReadyH.cons (o := _) rfl (fun K hK => ?_) ?_
          · skip
            go_simp
            go_at_call 77
            refine (INC.out _).mono ?_
            rintro e rr2 ⟨rfl, b9⟩
            replace H9 := H9.trans (b9.mono H9.size)
            clear b9
            try go_wp2_with fail
            refine hK.out _ _ (fun b o h => H9.cell (p := ⟨b, o, none⟩) h) (fun hHeld => ?_)
            clear hK K hHeld
            try simp only [Act.put, List.setIfInBounds_toArray, List.set_cons_zero, List.set_cons_succ]
            refine wpAnyH_ready (rs := [7]) (by kernel_rfl) (by simp) ?_
            refine AllReadyH.cons (o := _) rfl (fun K hK => ?_) ?_
            · skip
              go_simp
              obtain ⟨rr3, e9⟩ : ∃ q, (rr2.alloc (.cells #[.int .u64 0, .int .u64 0, .int .u64 0, .int .u64 0] 28)) = q := ⟨_, rfl⟩
              rw [e9]
              have g_t : v4.heap.size ≤ rr2.heap.size := H9.size
              have Z_t : Blk rr3 (rr2.heap.size) 28 [.int .u64 0, .int .u64 0, .int .u64 0, .int .u64 0] := blk_to e9 (Blk.new (w := rr2) (xs := [.int .u64 0, .int .u64 0, .int .u64 0, .int .u64 0]) (t := 28) rfl)
              replace H9 := below_to e9 (H9.alloc H9.size (.cells #[.int .u64 0, .int .u64 0, .int .u64 0, .int .u64 0] 28))
              clear e9
              refine hK.out _ _ (fun b o h => H9.cell (p := ⟨b, o, none⟩) h) (fun hHeld => ?_)
              clear hK K hHeld
              try simp only [Act.put, List.setIfInBounds_toArray, List.set_cons_zero, List.set_cons_succ]
              refine wpAnyH_ready (rs := [8]) (by kernel_rfl) (by simp) ?_
              refine AllReadyH.cons (o := _) rfl (fun K hK => ?_) ?_
              · skip
                have s_l := Z_t.lt
                have s_c0 := Z_t.cell (i := 0) rfl
                have s_c1 := Z_t.cell (i := 1) rfl
                have s_c2 := Z_t.cell (i := 2) rfl
                have s_c3 := Z_t.cell (i := 3) rfl
                have s_f0 := Z_t.frozen 0
                have s_f1 := Z_t.frozen 1
                have s_f2 := Z_t.frozen 2
                have s_f3 := Z_t.frozen 3
                go_simp
                clear s_l s_c0 s_f0 s_c1 s_f1 s_c2 s_f2 s_c3 s_f3
                obtain ⟨rr4, e9⟩ : ∃ q, ((((rr3.setCell ⟨rr2.heap.size, 0, none⟩ (.int .u64 (limb iv 0 : Int))).setCell ⟨rr2.heap.size, 1, none⟩ (.int .u64 (limb iv 1 : Int))).setCell ⟨rr2.heap.size, 2, none⟩ (.int .u64 (limb iv 2 : Int))).setCell ⟨rr2.heap.size, 3, none⟩ (.int .u64 (limb iv 3 : Int))) = q := ⟨_, rfl⟩
                rw [e9]
                replace Z_t := blk_to e9 (Z_t.set4 (.int .u64 (limb iv 0 : Int)) (.int .u64 (limb iv 1 : Int)) (.int .u64 (limb iv 2 : Int)) (.int .u64 (limb iv 3 : Int)))
                replace H9 := below_to e9 (below_set4 H9 g_t (.int .u64 (limb iv 0 : Int)) (.int .u64 (limb iv 1 : Int)) (.int .u64 (limb iv 2 : Int)) (.int .u64 (limb iv 3 : Int)))
                clear e9
                refine hK.out _ _ (fun b o h => H9.cell (p := ⟨b, o, none⟩) h) (fun hHeld => ?_)
                clear hK K hHeld
                try simp only [Act.put, List.setIfInBounds_toArray, List.set_cons_zero, List.set_cons_succ]
                refine wpAnyH_done (by kernel_rfl) ?_ _
                try refine NoPanic.normal ?_
                go_wp2_with (fail)
                go_meet
                exact ⟨_, rfl, Z_t, g_t, H9⟩
              exact AllReadyH.nil
            exact AllReadyH.nil
          refine AllReadyH.cons (o := _) rfl (fun K hK => ?_) ?_
          · skip
            go_simp
            obtain ⟨rr5, e9⟩ : ∃ q, (rr1.alloc (.cells #[.int .u64 0, .int .u64 0, .int .u64 0, .int .u64 0] 28)) = q := ⟨_, rfl⟩
            rw [e9]
            have g_t : v4.heap.size ≤ rr1.heap.size := H9.size
            have Z_t : Blk rr5 (rr1.heap.size) 28 [.int .u64 0, .int .u64 0, .int .u64 0, .int .u64 0] := blk_to e9 (Blk.new (w := rr1) (xs := [.int .u64 0, .int .u64 0, .int .u64 0, .int .u64 0]) (t := 28) rfl)
            replace H9 := below_to e9 (H9.alloc H9.size (.cells #[.int .u64 0, .int .u64 0, .int .u64 0, .int .u64 0] 28))
            clear e9
            refine hK.out _ _ (fun b o h => H9.cell (p := ⟨b, o, none⟩) h) (fun hHeld => ?_)
            clear hK K hHeld
            try simp only [Act.put, List.setIfInBounds_toArray, List.set_cons_zero, List.set_cons_succ]
            refine wpAnyH_ready (rs := [6]) (by kernel_rfl) (by simp) ?_
            refine AllReadyH.cons (o := _) rfl (fun K hK => ?_) ?_
            · skip
              go_simp
              go_at_call 77
              refine (INC.out _).mono ?_
              rintro e rr6 ⟨rfl, b9⟩
              replace H9 := H9.trans (b9.mono H9.size)
              replace Z_t := Z_t.keep b9
              clear b9
              try go_wp2_with fail
              refine hK.out _ _ (fun b o h => H9.cell (p := ⟨b, o, none⟩) h) (fun hHeld => ?_)
              clear hK K hHeld
              try simp only [Act.put, List.setIfInBounds_toArray, List.set_cons_zero, List.set_cons_succ]
              refine wpAnyH_ready (rs := [8]) (by kernel_rfl) (by simp) ?_
              refine AllReadyH.cons (o := _) rfl (fun K hK => ?_) ?_
              · skip
                have s_l := Z_t.lt
                have s_c0 := Z_t.cell (i := 0) rfl
                have s_c1 := Z_t.cell (i := 1) rfl
                have s_c2 := Z_t.cell (i := 2) rfl
                have s_c3 := Z_t.cell (i := 3) rfl
                have s_f0 := Z_t.frozen 0
                have s_f1 := Z_t.frozen 1
                have s_f2 := Z_t.frozen 2
                have s_f3 := Z_t.frozen 3
                go_simp
                clear s_l s_c0 s_f0 s_c1 s_f1 s_c2 s_f2 s_c3 s_f3
                obtain ⟨rr7, e9⟩ : ∃ q, ((((rr6.setCell ⟨rr1.heap.size, 0, none⟩ (.int .u64 (limb iv 0 : Int))).setCell ⟨rr1.heap.size, 1, none⟩ (.int .u64 (limb iv 1 : Int))).setCell ⟨rr1.heap.size, 2, none⟩ (.int .u64 (limb iv 2 : Int))).setCell ⟨rr1.heap.size, 3, none⟩ (.int .u64 (limb iv 3 : Int))) = q := ⟨_, rfl⟩
                rw [e9]
                replace Z_t := blk_to e9 (Z_t.set4 (.int .u64 (limb iv 0 : Int)) (.int .u64 (limb iv 1 : Int)) (.int .u64 (limb iv 2 : Int)) (.int .u64 (limb iv 3 : Int)))
                replace H9 := below_to e9 (below_set4 H9 g_t (.int .u64 (limb iv 0 : Int)) (.int .u64 (limb iv 1 : Int)) (.int .u64 (limb iv 2 : Int)) (.int .u64 (limb iv 3 : Int)))
                clear e9
                refine hK.out _ _ (fun b o h => H9.cell (p := ⟨b, o, none⟩) h) (fun hHeld => ?_)
                clear hK K hHeld
                try simp only [Act.put, List.setIfInBounds_toArray, List.set_cons_zero, List.set_cons_succ]
                refine wpAnyH_done (by kernel_rfl) ?_ _
                try refine NoPanic.normal ?_
                go_wp2_with (fail)
                go_meet
                exact ⟨_, rfl, Z_t, g_t, H9⟩
              exact AllReadyH.nil
            exact AllReadyH.nil
          exact AllReadyH.nil
        refine AllReadyH.cons (o := _) rfl (fun K hK => ?_) ?_
        · skip
          go_simp
          obtain ⟨rr8, e9⟩ : ∃ q, (v4.alloc (.cells #[.int .u64 0, .int .u64 0, .int .u64 0, .int .u64 0] 28)).drew = q := ⟨_, rfl⟩
          rw [e9]
          have g_t : v4.heap.size ≤ v4.heap.size := H9.size
          have Z_t : Blk rr8 (v4.heap.size) 28 [.int .u64 0, .int .u64 0, .int .u64 0, .int .u64 0] := blk_to e9 (Blk.drew (Blk.new (w := v4) (xs := [.int .u64 0, .int .u64 0, .int .u64 0, .int .u64 0]) (t := 28) rfl))
          replace H9 := below_to e9 (((Below.refl v4.heap.size v4).alloc (Nat.le_refl _) (.cells #[.int .u64 0, .int .u64 0, .int .u64 0, .int .u64 0] 28)).drew)
          clear e9
          refine hK.out _ _ (fun b o h => H9.cell (p := ⟨b, o, none⟩) h) (fun hHeld => ?_)
          clear hK K hHeld
          try simp only [Act.put, List.setIfInBounds_toArray, List.set_cons_zero, List.set_cons_succ]
          refine wpAnyH_ready (rs := [5]) (by kernel_rfl) (by simp) ?_
          refine AllReadyH.cons (o := _) rfl (fun K hK => ?_) ?_
          · skip
            go_simp
            go_at_call 24
            refine (PTC.out _).mono ?_
            rintro e rr9 ⟨rfl, b9⟩
            replace H9 := H9.trans (b9.mono H9.size)
            replace Z_t := Z_t.keep b9
            clear b9
            try go_wp2_with fail
            refine hK.out _ _ (fun b o h => H9.cell (p := ⟨b, o, none⟩) h) (fun hHeld => ?_)
            clear hK K hHeld
            try simp only [Act.put, List.setIfInBounds_toArray, List.set_cons_zero, List.set_cons_succ]
            refine wpAnyH_ready (rs := [6]) (by kernel_rfl) (by simp) ?_
            refine AllReadyH.cons (o := _) rfl (fun K hK => ?_) ?_
            · skip
              go_simp
              go_at_call 77
              refine (INC.out _).mono ?_
              rintro e rr10 ⟨rfl, b9⟩
              replace H9 := H9.trans (b9.mono H9.size)
              replace Z_t := Z_t.keep b9
              clear b9
              try go_wp2_with fail
              refine hK.out _ _ (fun b o h => H9.cell (p := ⟨b, o, none⟩) h) (fun hHeld => ?_)
              clear hK K hHeld
              try simp only [Act.put, List.setIfInBounds_toArray, List.set_cons_zero, List.set_cons_succ]
              refine wpAnyH_ready (rs := [8]) (by kernel_rfl) (by simp) ?_
              refine AllReadyH.cons (o := _) rfl (fun K hK => ?_) ?_
              · skip
                have s_l := Z_t.lt
                have s_c0 := Z_t.cell (i := 0) rfl
                have s_c1 := Z_t.cell (i := 1) rfl
                have s_c2 := Z_t.cell (i := 2) rfl
                have s_c3 := Z_t.cell (i := 3) rfl
                have s_f0 := Z_t.frozen 0
                have s_f1 := Z_t.frozen 1
                have s_f2 := Z_t.frozen 2
                have s_f3 := Z_t.frozen 3
                go_simp
                clear s_l s_c0 s_f0 s_c1 s_f1 s_c2 s_f2 s_c3 s_f3
                obtain ⟨rr11, e9⟩ : ∃ q, ((((rr10.setCell ⟨v4.heap.size, 0, none⟩ (.int .u64 (limb iv 0 : Int))).setCell ⟨v4.heap.size, 1, none⟩ (.int .u64 (limb iv 1 : Int))).setCell ⟨v4.heap.size, 2, none⟩ (.int .u64 (limb iv 2 : Int))).setCell ⟨v4.heap.size, 3, none⟩ (.int .u64 (limb iv 3 : Int))) = q := ⟨_, rfl⟩
                rw [e9]
                replace Z_t := blk_to e9 (Z_t.set4 (.int .u64 (limb iv 0 : Int)) (.int .u64 (limb iv 1 : Int)) (.int .u64 (limb iv 2 : Int)) (.int .u64 (limb iv 3 : Int)))
                replace H9 := below_to e9 (below_set4 H9 g_t (.int .u64 (limb iv 0 : Int)) (.int .u64 (limb iv 1 : Int)) (.int .u64 (limb iv 2 : Int)) (.int .u64 (limb iv 3 : Int)))
                clear e9
                refine hK.out _ _ (fun b o h => H9.cell (p := ⟨b, o, none⟩) h) (fun hHeld => ?_)
                clear hK K hHeld
                try simp only [Act.put, List.setIfInBounds_toArray, List.set_cons_zero, List.set_cons_succ]
                refine wpAnyH_done (by kernel_rfl) ?_ _
                try refine NoPanic.normal ?_
                go_wp2_with (fail)
                go_meet
                exact ⟨_, rfl, Z_t, g_t, H9⟩
              exact AllReadyH.nil
            exact AllReadyH.nil
          exact AllReadyH.nil
        exact AllReadyH.nil
      case rest =>
        obtain ⟨bt, rfl, hx9_t, g_bt, hbel⟩ := hcut
        obtain ⟨wc1, hwc⟩ : ∃ v, wc = v := ⟨_, rfl⟩
        rw [hwc] at hx9_t hbel ⊢
        clear hwc
        clear z_P c_P0 c_P1 c_P2 c_P3
        replace X_P := X_P.keep hbel
        replace N_o := hid (N_o.out.below hbel)
        replace BW := hid (BW.out.trans (hbel.mono BW.out.size))
        clear hbel
        have X_t := hx9_t
        clear hx9_t
        have z_P := X_P.lt
        have c_P0 := X_P.cell (i := 0) rfl
        have c_P1 := X_P.cell (i := 1) rfl
        have c_P2 := X_P.cell (i := 2) rfl
        have c_P3 := X_P.cell (i := 3) rfl
        have z_t := X_t.lt
        have c_t0 := X_t.cell (i := 0) rfl
        have c_t1 := X_t.cell (i := 1) rfl
        have c_t2 := X_t.cell (i := 2) rfl
        have c_t3 := X_t.cell (i := 3) rfl
        go_upto_region 6 with (fail)
        try refine wp_region_noPanic ?_
        refine wp_region_held_drew (S := (fun w' => ∀ b o, b < wc1.heap.size → w'.cell? ⟨b, o, none⟩ = wc1.cell? ⟨b, o, none⟩)) (by kernel_rfl) (fun b o h => cell_drew) (fun hHeld => ?_)
        have H9 := (Below.refl wc1.heap.size wc1).drew
        refine wpAnyH_take (i := 0) (oi := _) (v := vec (fP b)) rfl (by kernel_rfl) (by kernel_rfl) (by kernel_rfl) (fun _ _ _ h => h) (Or.inl ⟨by rfl, ?_⟩) (by assumption) ?_
        · intro w hSw; (try dsimp only at hSw); go_simp
        try simp only [Act.put, List.setIfInBounds_toArray, List.set_cons_zero, List.set_cons_succ]
        refine wpAnyH_take (i := 1) (oi := _) (v := .slice oa ol oc) rfl (by kernel_rfl) (by kernel_rfl) (by kernel_rfl) (fun _ _ _ h => h) (Or.inl ⟨by rfl, ?_⟩) (by assumption) ?_
        · intro w hSw; (try dsimp only at hSw); go_simp
        try simp only [Act.put, List.setIfInBounds_toArray, List.set_cons_zero, List.set_cons_succ]
        refine wpAnyH_take (i := 3) (oi := _) (v := vec (fP b)) rfl (by kernel_rfl) (by kernel_rfl) (by kernel_rfl) (fun _ _ _ h => h) (Or.inl ⟨by rfl, ?_⟩) (by assumption) ?_
        · intro w hSw; (try dsimp only at hSw); go_simp
        try simp only [Act.put, List.setIfInBounds_toArray, List.set_cons_zero, List.set_cons_succ]
        refine wpAnyH_take (i := 4) (oi := _) (v := .agg #[.int .u64 0, .int .u64 0, .int .u64 0, .int .u64 0]) rfl (by kernel_rfl) (by kernel_rfl) (by kernel_rfl) (fun _ _ _ h => h) (Or.inl ⟨by rfl, ?_⟩) (by assumption) ?_
        · intro w hSw; (try dsimp only at hSw); go_simp
        try simp only [Act.put, List.setIfInBounds_toArray, List.set_cons_zero, List.set_cons_succ]
        refine wpAnyH_take (i := 5) (oi := _) (v := vec iv) rfl (by kernel_rfl) (by kernel_rfl) (by kernel_rfl) (fun _ _ _ h => h) (Or.inl ⟨by rfl, ?_⟩) (by assumption) ?_
        · intro w hSw; (try dsimp only at hSw); go_simp
        try simp only [Act.put, List.setIfInBounds_toArray, List.set_cons_zero, List.set_cons_succ]
        clear hHeld
        refine wpAnyH_ready (rs := [2]) (by kernel_rfl) (by simp) ?_
        refine AllReadyH.cons (o := _) rfl (fun K hK => ?_) ?_
        · skip
          go_simp
          go_at_call 65
          refine (ONC.out _).mono ?_
          rintro e qrb1 ⟨rfl, b9⟩
          replace H9 := H9.trans (b9.mono H9.size)
          clear b9
          try go_wp2_with fail
          refine hK.out _ _ (fun b o h => H9.cell (p := ⟨b, o, none⟩) h) (fun hHeld => ?_)
          clear hK K
          try simp only [Act.put, List.setIfInBounds_toArray, List.set_cons_zero, List.set_cons_succ]
          clear hHeld
          refine wpAnyH_ready (rs := [6]) (by kernel_rfl) (by simp) ?_
          refine AllReadyH.cons (o := _) rfl (fun K hK => ?_) ?_
          · skip
            go_simp
            go_at_call 74
            refine (SBC.out _).mono ?_
            rintro e qrb2 ⟨rfl, b9⟩
            replace H9 := H9.trans (b9.mono H9.size)
            clear b9
            try go_wp2_with fail
            refine hK.out _ _ (fun b o h => H9.cell (p := ⟨b, o, none⟩) h) (fun hHeld => ?_)
            clear hK K
            try simp only [Act.put, List.setIfInBounds_toArray, List.set_cons_zero, List.set_cons_succ]
            clear hHeld
            refine wpAnyH_ready (rs := [7]) (by kernel_rfl) (by simp) ?_
            refine AllReadyH.cons (o := _) rfl (fun K hK => ?_) ?_
            · skip
              go_simp
              obtain ⟨qrb3, e9⟩ : ∃ q, (qrb2.alloc (.cells #[.int .u64 (limb (1) 0 : Int), .int .u64 (limb (1) 1 : Int), .int .u64 (limb (1) 2 : Int), .int .u64 (limb (1) 3 : Int), .int .u64 (limb sv 0 : Int), .int .u64 (limb sv 1 : Int), .int .u64 (limb sv 2 : Int), .int .u64 (limb sv 3 : Int)] 28)) = q := ⟨_, rfl⟩
              rw [e9]
              have g_A : wc1.heap.size ≤ qrb2.heap.size := H9.size
              have Z_A : Blk qrb3 (qrb2.heap.size) 28 [.int .u64 (limb (1) 0 : Int), .int .u64 (limb (1) 1 : Int), .int .u64 (limb (1) 2 : Int), .int .u64 (limb (1) 3 : Int), .int .u64 (limb sv 0 : Int), .int .u64 (limb sv 1 : Int), .int .u64 (limb sv 2 : Int), .int .u64 (limb sv 3 : Int)] := blk_to e9 (Blk.new (w := qrb2) (xs := [.int .u64 (limb (1) 0 : Int), .int .u64 (limb (1) 1 : Int), .int .u64 (limb (1) 2 : Int), .int .u64 (limb (1) 3 : Int), .int .u64 (limb sv 0 : Int), .int .u64 (limb sv 1 : Int), .int .u64 (limb sv 2 : Int), .int .u64 (limb sv 3 : Int)]) (t := 28) rfl)
              replace H9 := below_to e9 (H9.alloc H9.size (.cells #[.int .u64 (limb (1) 0 : Int), .int .u64 (limb (1) 1 : Int), .int .u64 (limb (1) 2 : Int), .int .u64 (limb (1) 3 : Int), .int .u64 (limb sv 0 : Int), .int .u64 (limb sv 1 : Int), .int .u64 (limb sv 2 : Int), .int .u64 (limb sv 3 : Int)] 28))
              clear e9
              refine hK.out _ _ (fun b o h => H9.cell (p := ⟨b, o, none⟩) h) (fun hHeld => ?_)
              clear hK K
              try simp only [Act.put, List.setIfInBounds_toArray, List.set_cons_zero, List.set_cons_succ]
              clear hHeld
              refine wpAnyH_ready (rs := [8]) (by kernel_rfl) (by simp) ?_
              refine AllReadyH.cons (o := _) rfl (fun K hK => ?_) ?_
              · skip
                go_simp
                go_at_call 78
                refine (MLC.out _ _ _ (N_o.out.below H9) (blk_nums (t := 28) Z_A H2B.out)).mono ?_
                rintro e qrb4 ⟨vr, rfl, hn9, b9⟩
                replace H9 := H9.trans (b9.mono H9.size)
                replace Z_A := Z_A.keep b9
                have NR := hid hn9
                clear hn9
                clear b9
                try go_wp2_with fail
                refine hK.out _ _ (fun b o h => H9.cell (p := ⟨b, o, none⟩) h) (fun hHeld => ?_)
                clear hK K
                try simp only [Act.put, List.setIfInBounds_toArray, List.set_cons_zero, List.set_cons_succ]
                refine wpAnyH_take (i := 9) (oi := _) (v := vr) rfl (by kernel_rfl) (by kernel_rfl) (by kernel_rfl) (fun _ _ _ h => h) (Or.inl ⟨by rfl, ?_⟩) (by assumption) ?_
                · intro w hSw; (try dsimp only at hSw); go_simp
                try simp only [Act.put, List.setIfInBounds_toArray, List.set_cons_zero, List.set_cons_succ]
                clear hHeld
                refine wpAnyH_done (by kernel_rfl) ?_ _
                try refine NoPanic.normal ?_
                clear z_P c_P0 c_P1 c_P2 c_P3 z_t c_t0 c_t1 c_t2 c_t3
                replace X_P := X_P.keep H9
                replace X_t := X_t.keep H9
                replace N_o := hid (N_o.out.below H9)
                replace BW := hid (BW.out.trans (H9.mono BW.out.size))
                clear H9
                have X_A := Z_A
                clear Z_A
                clear X_t X_A
                go_wp2
                go_roundw
                case rel => exact ⟨k + 1, by omega, by go_num, X_P, BW.out, _, rfl, NR.out⟩
                case measure => simp [intOf]; omega
              exact AllReadyH.nil
            exact AllReadyH.nil
          exact AllReadyH.nil
        exact AllReadyH.nil
    · skip
      obtain rfl : n = k := by omega
      clear hk
      obtain ⟨yv, rfl, hN9⟩ := HM_k.out
      rw [List.take_of_length_le (by rw [HPL.out]; exact Nat.le_refl _)] at hN9
      have N_o := hid hN9
      clear HM_k hN9
      go_wp2
      refine bodyPost_ret (by simp only [results, Tryd.results39]; go_simp; try rfl) rfl ?_
      exact ⟨_, rfl, N_o.out, BW.out⟩
end Go.Proofs.YtogenbggjodcnaaDoor
