/-
  The reference: shifting a polynomial.
-/
import Derived.Test.YtogenbggjodcnaaDoorRVan22
namespace Go.Proofs.YtogenbggjodcnaaDoor
open Go.RowKit

attribute [local go_sem] Oper.semAt_some
set_option maxRecDepth 100000 in
set_option maxHeartbeats 2000000 in
theorem rshift_bad (b : Bool) (v u : Value) (xs : List Int) (cs : List Nat) (y : Nat) (w : World) (hS : IntSl w v xs) (hl : xs.length < 10000) (hU : NumSl w u cs) (hc : chkx xs ≠ 0) :
    Calls Tryd.prog 42 #[vec (fP b), v, u, vec y] w (Ret (.tuple #[.slice none 0 0, .int .i64 (chkx xs)]) w) := by
  have BW := hid (Below.refl w.heap.size w)
  have HS := hid hS
  obtain ⟨sa, sc, rfl, _⟩ := hS
  obtain ⟨n, hn⟩ : ∃ n, xs.length = n := ⟨_, rfl⟩
  rw [hn] at HS hl ⊢
  have HN := hid hn
  have CK := hid (fun (W : World) (h : IntSl W (.slice sa n sc) xs) => rlcheck_any (.slice sa n sc) xs W h (by omega))
  clear hn
  have HU := hid hU
  obtain ⟨ua, uc, rfl, huc, _⟩ := hU
  obtain ⟨m, hm⟩ : ∃ m, cs.length = m := ⟨_, rfl⟩
  rw [hm] at HU huc ⊢
  obtain ⟨c, hc9⟩ : ∃ c, chkx xs = c := ⟨_, rfl⟩
  rw [hc9] at hc CK ⊢
  have hd : (c != 0) = true := by simp [hc]
  clear hc9 hm
  go_enter Tryd.func42, Tryd.ntmps42
  go_wp2_with fail
  obtain ⟨v1, hv9⟩ : ∃ v, ((w.alloc (.cells #[.int .u64 (limb (fP b) 0 : Int), .int .u64 (limb (fP b) 1 : Int), .int .u64 (limb (fP b) 2 : Int), .int .u64 (limb (fP b) 3 : Int)] 28)).alloc (.cells #[.int .u64 (limb y 0 : Int), .int .u64 (limb y 1 : Int), .int .u64 (limb y 2 : Int), .int .u64 (limb y 3 : Int)] 28)) = v := ⟨_, rfl⟩
  have hG9 : Below w.heap.size w v1 := by rw [← hv9]; go_grown
  have X_P : Blk v1 (w.heap.size) 28 [.int .u64 (limb (fP b) 0 : Int), .int .u64 (limb (fP b) 1 : Int), .int .u64 (limb (fP b) 2 : Int), .int .u64 (limb (fP b) 3 : Int)] := by rw [← hv9]; exact Blk.alloc (Blk.new rfl) _
  have X_Y : Blk v1 (w.heap.size + 1) 28 [.int .u64 (limb y 0 : Int), .int .u64 (limb y 1 : Int), .int .u64 (limb y 2 : Int), .int .u64 (limb y 3 : Int)] := by rw [← hv9]; exact Blk.new (by simp)
  obtain ⟨bP, hb9⟩ : ∃ k, w.heap.size = k := ⟨_, rfl⟩
  rw [hb9] at X_P
  rw [hb9] at X_Y
  have g_bP : w.heap.size ≤ bP := by rw [← hb9]; exact BW.out.size
  replace BW := hid (BW.out.trans (hG9.mono BW.out.size))
  clear hG9
  rw [hv9]
  try rw [hb9]
  clear hv9 hb9
  refine (CK.out _ (HS.out.below BW.out)).mono ?_
  rintro e v2 ⟨rfl, b9⟩
  replace X_P := X_P.keep b9
  replace X_Y := X_Y.keep b9
  replace BW := hid (BW.out.trans (b9.mono BW.out.size))
  clear b9
  go_wp2
  refine bodyPost_ret (by simp only [results, Tryd.results42]; go_simp; try rfl) rfl ?_
  exact ⟨rfl, BW.out⟩
set_option maxRecDepth 100000 in
set_option maxHeartbeats 2000000 in
theorem rshift_few (b : Bool) (v u : Value) (xs : List Int) (cs : List Nat) (y : Nat) (w : World) (hS : IntSl w v xs) (hl : xs.length < 10000) (hU : NumSl w u cs) (hc : chkx xs = 0) (hf : cs.length ≤ xs.length) :
    Calls Tryd.prog 42 #[vec (fP b), v, u, vec y] w (Ret (.tuple #[.slice none 0 0, .int .i64 4]) w) := by
  have BW := hid (Below.refl w.heap.size w)
  have HS := hid hS
  obtain ⟨sa, sc, rfl, _⟩ := hS
  obtain ⟨n, hn⟩ : ∃ n, xs.length = n := ⟨_, rfl⟩
  rw [hn] at HS hl ⊢
  have HN := hid hn
  have CK := hid (fun (W : World) (h : IntSl W (.slice sa n sc) xs) => rlcheck_any (.slice sa n sc) xs W h (by omega))
  clear hn
  have HU := hid hU
  obtain ⟨ua, uc, rfl, huc, _⟩ := hU
  obtain ⟨m, hm⟩ : ∃ m, cs.length = m := ⟨_, rfl⟩
  rw [hm] at HU huc ⊢
  rw [hc] at CK
  have hmn : (m : Int) ≤ (n : Int) := by have := HN.out; omega
  clear hc hm hf
  go_enter Tryd.func42, Tryd.ntmps42
  go_wp2_with fail
  obtain ⟨v1, hv9⟩ : ∃ v, ((w.alloc (.cells #[.int .u64 (limb (fP b) 0 : Int), .int .u64 (limb (fP b) 1 : Int), .int .u64 (limb (fP b) 2 : Int), .int .u64 (limb (fP b) 3 : Int)] 28)).alloc (.cells #[.int .u64 (limb y 0 : Int), .int .u64 (limb y 1 : Int), .int .u64 (limb y 2 : Int), .int .u64 (limb y 3 : Int)] 28)) = v := ⟨_, rfl⟩
  have hG9 : Below w.heap.size w v1 := by rw [← hv9]; go_grown
  have X_P : Blk v1 (w.heap.size) 28 [.int .u64 (limb (fP b) 0 : Int), .int .u64 (limb (fP b) 1 : Int), .int .u64 (limb (fP b) 2 : Int), .int .u64 (limb (fP b) 3 : Int)] := by rw [← hv9]; exact Blk.alloc (Blk.new rfl) _
  have X_Y : Blk v1 (w.heap.size + 1) 28 [.int .u64 (limb y 0 : Int), .int .u64 (limb y 1 : Int), .int .u64 (limb y 2 : Int), .int .u64 (limb y 3 : Int)] := by rw [← hv9]; exact Blk.new (by simp)
  obtain ⟨bP, hb9⟩ : ∃ k, w.heap.size = k := ⟨_, rfl⟩
  rw [hb9] at X_P
  rw [hb9] at X_Y
  have g_bP : w.heap.size ≤ bP := by rw [← hb9]; exact BW.out.size
  replace BW := hid (BW.out.trans (hG9.mono BW.out.size))
  clear hG9
  rw [hv9]
  try rw [hb9]
  clear hv9 hb9
  refine (CK.out _ (HS.out.below BW.out)).mono ?_
  rintro e v2 ⟨rfl, b9⟩
  replace X_P := X_P.keep b9
  replace X_Y := X_Y.keep b9
  replace BW := hid (BW.out.trans (b9.mono BW.out.size))
  clear b9
  go_wp2
  refine bodyPost_ret (by simp only [results, Tryd.results42]; go_simp; try rfl) rfl ?_
  exact ⟨rfl, BW.out⟩
set_option maxRecDepth 100000 in
set_option maxHeartbeats 8000000 in
theorem rshift_ok (b : Bool) (v u : Value) (xs : List Int) (cs : List Nat) (y : Nat) (w : World) (hS : IntSl w v xs) (hl : xs.length < 10000) (hU : NumSl w u cs) (hcs : ∀ z ∈ cs, z < fP b) (hy : y < fP b) (hc : chkx xs = 0) (hf : xs.length < cs.length) (hcl : cs.length < 10000) :
    Calls Tryd.prog 42 #[vec (fP b), v, u, vec y] w (RetNE (shfV (fP b) (pts xs) cs y) 0 w) := by
  have BW := hid (Below.refl w.heap.size w)
  have HS := hid hS
  obtain ⟨sa, sc, rfl, _⟩ := hS
  obtain ⟨n, hn⟩ : ∃ n, xs.length = n := ⟨_, rfl⟩
  rw [hn] at HS hl ⊢
  have HN := hid hn
  have CK := hid (fun (W : World) (h : IntSl W (.slice sa n sc) xs) => rlcheck_any (.slice sa n sc) xs W h (by omega))
  clear hn
  have HU := hid hU
  obtain ⟨ua, uc, rfl, huc, _⟩ := hU
  obtain ⟨m, hm⟩ : ∃ m, cs.length = m := ⟨_, rfl⟩
  rw [hm] at HU huc ⊢
  rw [hc] at CK
  have hx := hid (chkx_zero hc).1
  have hp2 := fP_two b
  have hpb := fP_lt b
  have hnm : n < m := by have := HN.out; omega
  have hmi : ¬ (m : Int) ≤ (n : Int) := by omega
  have hm0 : 0 < m := by omega
  have hm0i : (0 : Int) < (m : Int) := by omega
  obtain ⟨c0, hc0⟩ : ∃ x, cs[0]? = some x := ⟨cs[0]'(by omega), List.getElem?_eq_getElem _⟩
  have hc0l := hcs c0 (List.mem_of_getElem? hc0)
  have hc0d : cs.getD 0 0 = c0 := by rw [List.getD_eq_getElem?_getD, hc0]; rfl
  obtain ⟨g, off, rfl, hg, d0, d1, d2, d3⟩ := (HU.out.below BW.out).at4 (k := 0) (y := c0) hc0
  have VC := hid (fun (W : World) (h : IntSl W (.slice sa n sc) xs) => rvanish_any b (.slice sa n sc) xs W h (by rw [HN.out]; exact hl) hx)
  have SBC := hid (fun W : World => rsubm_any (fP b) y c0 hpb hy hc0l W)
  have hvl : (vanV (fP b) (pts xs)).length = n + 1 := by rw [vanV_len (by omega), pts_len, HN.out]
  have hdl : subm (fP b) y c0 < fP b := subm_lt _ _ (by omega)
  have EM : pmulV (fP b) (vanV (fP b) (pts xs)) [subm (fP b) y c0] = (vanV (fP b) (pts xs)).map (mulm (fP b) (subm (fP b) y c0)) := pmul_single (by omega) (van_ne (by omega) _) _
  have MLC := hid (fun (W : World) (v1 v2 : Value) (h1 : NumSl W v1 (vanV (fP b) (pts xs))) (h2 : NumSl W v2 [subm (fP b) y c0]) => rpmul_sl (fP b) v1 v2 _ _ W hpb (by omega) h1 h2 (hid (vanV_lt9 (by omega) _)) (hid (fun z hz => by rw [List.mem_singleton.1 hz]; exact hdl)) (by omega) (by simp))
  rw [EM] at MLC
  have ADC := hid (fun (W : World) (v1 v2 : Value) (h1 : NumSl W v1 cs) (h2 : NumSl W v2 ((vanV (fP b) (pts xs)).map (mulm (fP b) (subm (fP b) y c0)))) => rpadd_sl (fP b) v1 v2 _ _ W hpb (by omega) h1 h2 (hid hcs) (hid (fun z hz => by obtain ⟨q, _, rfl⟩ := List.mem_map.1 hz; exact mulm_lt _ _ (by omega))) (by omega) (by rw [List.length_map]; omega))
  have ES : paddV (fP b) cs ((vanV (fP b) (pts xs)).map (mulm (fP b) (subm (fP b) y c0))) = shfV (fP b) (pts xs) cs y := by unfold shfV; rw [hc0d]
  rw [ES] at ADC
  obtain ⟨dv, hdv⟩ : ∃ z, subm (fP b) y c0 = z := ⟨_, rfl⟩
  rw [hdv] at SBC MLC ADC hdl
  have HDB : Hid (∀ z ∈ [dv], z < B256) := hid (fun z hz => by rw [List.mem_singleton.1 hz]; omega)
  obtain ⟨mv, hmv⟩ : ∃ z, (vanV (fP b) (pts xs)).map (mulm (fP b) dv) = z := ⟨_, rfl⟩
  rw [hmv] at MLC ADC
  obtain ⟨zs, hzs⟩ : ∃ z, shfV (fP b) (pts xs) cs y = z := ⟨_, rfl⟩
  rw [hzs] at ADC ⊢
  have HD := hid (And.intro d0 (And.intro d1 (And.intro d2 d3)))
  have HHG := hid hg
  clear hc hm hf hcl hcs hy hc0 hc0l hc0d hvl hdl EM ES hdv hmv hzs d0 d1 d2 d3 hg
  go_enter Tryd.func42, Tryd.ntmps42
  go_wp2_with fail
  obtain ⟨v1, hv9⟩ : ∃ v, ((w.alloc (.cells #[.int .u64 (limb (fP b) 0 : Int), .int .u64 (limb (fP b) 1 : Int), .int .u64 (limb (fP b) 2 : Int), .int .u64 (limb (fP b) 3 : Int)] 28)).alloc (.cells #[.int .u64 (limb y 0 : Int), .int .u64 (limb y 1 : Int), .int .u64 (limb y 2 : Int), .int .u64 (limb y 3 : Int)] 28)) = v := ⟨_, rfl⟩
  have hG9 : Below w.heap.size w v1 := by rw [← hv9]; go_grown
  have X_P : Blk v1 (w.heap.size) 28 [.int .u64 (limb (fP b) 0 : Int), .int .u64 (limb (fP b) 1 : Int), .int .u64 (limb (fP b) 2 : Int), .int .u64 (limb (fP b) 3 : Int)] := by rw [← hv9]; exact Blk.alloc (Blk.new rfl) _
  have X_Y : Blk v1 (w.heap.size + 1) 28 [.int .u64 (limb y 0 : Int), .int .u64 (limb y 1 : Int), .int .u64 (limb y 2 : Int), .int .u64 (limb y 3 : Int)] := by rw [← hv9]; exact Blk.new (by simp)
  obtain ⟨bP, hb9⟩ : ∃ k, w.heap.size = k := ⟨_, rfl⟩
  rw [hb9] at X_P
  rw [hb9] at X_Y
  have g_bP : w.heap.size ≤ bP := by rw [← hb9]; exact BW.out.size
  replace BW := hid (BW.out.trans (hG9.mono BW.out.size))
  clear hG9
  rw [hv9]
  try rw [hb9]
  clear hv9 hb9
  refine (CK.out _ (HS.out.below BW.out)).mono ?_
  rintro e v2 ⟨rfl, b9⟩
  replace X_P := X_P.keep b9
  replace X_Y := X_Y.keep b9
  replace BW := hid (BW.out.trans (b9.mono BW.out.size))
  clear b9
  skip
  go_upto_region 6 with (fail)
  obtain ⟨d0, d1, d2, d3⟩ := HD.out
  have hg0 := HHG.out
  have gB := BW.out.size
  have d0 := (BW.out.cell (p := ⟨g, off + 0 * 4, none⟩) hg0).trans d0
  have d1 := (BW.out.cell (p := ⟨g, off + 0 * 4 + 1, none⟩) hg0).trans d1
  have d2 := (BW.out.cell (p := ⟨g, off + 0 * 4 + 2, none⟩) hg0).trans d2
  have d3 := (BW.out.cell (p := ⟨g, off + 0 * 4 + 3, none⟩) hg0).trans d3
  have hg : g < v2.heap.size := Nat.lt_of_lt_of_le hg0 gB
  clear gB hg0
  simp only [Nat.zero_mul, Nat.add_zero] at d0 d1 d2 d3
  have z_P := X_P.lt
  have c_P0 := X_P.cell (i := 0) rfl
  have c_P1 := X_P.cell (i := 1) rfl
  have c_P2 := X_P.cell (i := 2) rfl
  have c_P3 := X_P.cell (i := 3) rfl
  have z_Y := X_Y.lt
  have c_Y0 := X_Y.cell (i := 0) rfl
  have c_Y1 := X_Y.cell (i := 1) rfl
  have c_Y2 := X_Y.cell (i := 2) rfl
  have c_Y3 := X_Y.cell (i := 3) rfl
  try refine wp_region_noPanic ?_
  refine wp_region_held_drew (S := (fun w' => ∀ b o, b < v2.heap.size → w'.cell? ⟨b, o, none⟩ = v2.cell? ⟨b, o, none⟩)) (by kernel_rfl) (fun b o h => cell_drew) (fun hHeld => ?_)
  have H9 := (Below.refl v2.heap.size v2).drew
  refine wpAnyH_take (i := 0) (oi := _) (v := vec (fP b)) rfl (by kernel_rfl) (by kernel_rfl) (by kernel_rfl) (fun _ _ _ h => h) (Or.inl ⟨by rfl, ?_⟩) (by assumption) ?_
  · intro w hSw; (try dsimp only at hSw); go_simp
  try simp only [Act.put, List.setIfInBounds_toArray, List.set_cons_zero, List.set_cons_succ]
  refine wpAnyH_take (i := 1) (oi := _) (v := vec (fP b)) rfl (by kernel_rfl) (by kernel_rfl) (by kernel_rfl) (fun _ _ _ h => h) (Or.inl ⟨by rfl, ?_⟩) (by assumption) ?_
  · intro w hSw; (try dsimp only at hSw); go_simp
  try simp only [Act.put, List.setIfInBounds_toArray, List.set_cons_zero, List.set_cons_succ]
  refine wpAnyH_take (i := 2) (oi := _) (v := .slice sa n sc) rfl (by kernel_rfl) (by kernel_rfl) (by kernel_rfl) (fun _ _ _ h => h) (Or.inl ⟨by rfl, ?_⟩) (by assumption) ?_
  · intro w hSw; (try dsimp only at hSw); go_simp
  try simp only [Act.put, List.setIfInBounds_toArray, List.set_cons_zero, List.set_cons_succ]
  refine wpAnyH_take (i := 4) (oi := _) (v := vec (fP b)) rfl (by kernel_rfl) (by kernel_rfl) (by kernel_rfl) (fun _ _ _ h => h) (Or.inl ⟨by rfl, ?_⟩) (by assumption) ?_
  · intro w hSw; (try dsimp only at hSw); go_simp
  try simp only [Act.put, List.setIfInBounds_toArray, List.set_cons_zero, List.set_cons_succ]
  refine wpAnyH_take (i := 5) (oi := _) (v := vec y) rfl (by kernel_rfl) (by kernel_rfl) (by kernel_rfl) (fun _ _ _ h => h) (Or.inl ⟨by rfl, ?_⟩) (by assumption) ?_
  · intro w hSw; (try dsimp only at hSw); go_simp
  try simp only [Act.put, List.setIfInBounds_toArray, List.set_cons_zero, List.set_cons_succ]
  refine wpAnyH_take (i := 6) (oi := _) (v := .slice (some ⟨g, off, none⟩) m uc) rfl (by kernel_rfl) (by kernel_rfl) (by kernel_rfl) (fun _ _ _ h => h) (Or.inl ⟨by rfl, ?_⟩) (by assumption) ?_
  · intro w hSw; (try dsimp only at hSw); go_simp
  try simp only [Act.put, List.setIfInBounds_toArray, List.set_cons_zero, List.set_cons_succ]
  refine wpAnyH_take (i := 7) (oi := _) (v := .pointer (some ⟨g, off, none⟩)) rfl (by kernel_rfl) (by kernel_rfl) (by kernel_rfl) (fun _ _ _ h => h) (Or.inl ⟨by rfl, ?_⟩) (by assumption) ?_
  · intro w hSw; (try dsimp only at hSw); go_simp
  try simp only [Act.put, List.setIfInBounds_toArray, List.set_cons_zero, List.set_cons_succ]
  refine wpAnyH_take (i := 8) (oi := _) (v := vec c0) rfl (by kernel_rfl) (by kernel_rfl) (by kernel_rfl) (fun _ _ _ h => h) (Or.inl ⟨by rfl, ?_⟩) (by assumption) ?_
  · intro w hSw; (try dsimp only at hSw); go_simp
  try simp only [Act.put, List.setIfInBounds_toArray, List.set_cons_zero, List.set_cons_succ]
  clear hHeld
  refine wpAnyH_ready (rs := [3]) (by kernel_rfl) (by simp) ?_
  refine AllReadyH.cons (o := _) rfl (fun K hK => ?_) ?_
  · skip
    go_simp
    go_at_call 39
    refine (VC.out _ ((HS.out.below BW.out).below H9)).mono ?_
    rintro e qra1 ⟨vv, rfl, hn9, b9⟩
    replace H9 := H9.trans (b9.mono H9.size)
    have NV := hid hn9
    clear hn9
    clear b9
    try go_wp2_with fail
    refine hK.out _ _ (fun b o h => H9.cell (p := ⟨b, o, none⟩) h) (fun hHeld => ?_)
    clear hK K
    try simp only [Act.put, List.setIfInBounds_toArray, List.set_cons_zero, List.set_cons_succ]
    clear hHeld
    refine wpAnyH_ready (rs := [9]) (by kernel_rfl) (by simp) ?_
    refine AllReadyH.cons (o := _) rfl (fun K hK => ?_) ?_
    · skip
      go_simp
      go_at_call 74
      refine (SBC.out _).mono ?_
      rintro e qra2 ⟨rfl, b9⟩
      replace H9 := H9.trans (b9.mono H9.size)
      replace NV := hid (NV.out.below b9)
      clear b9
      try go_wp2_with fail
      refine hK.out _ _ (fun b o h => H9.cell (p := ⟨b, o, none⟩) h) (fun hHeld => ?_)
      clear hK K
      try simp only [Act.put, List.setIfInBounds_toArray, List.set_cons_zero, List.set_cons_succ]
      clear hHeld
      refine wpAnyH_ready (rs := [10]) (by kernel_rfl) (by simp) ?_
      refine AllReadyH.cons (o := _) rfl (fun K hK => ?_) ?_
      · skip
        go_simp
        obtain ⟨qra3, e9⟩ : ∃ q, (qra2.alloc (.cells #[.int .u64 (limb dv 0 : Int), .int .u64 (limb dv 1 : Int), .int .u64 (limb dv 2 : Int), .int .u64 (limb dv 3 : Int)] 28)) = q := ⟨_, rfl⟩
        rw [e9]
        have g_A : v2.heap.size ≤ qra2.heap.size := H9.size
        have Z_A : Blk qra3 (qra2.heap.size) 28 [.int .u64 (limb dv 0 : Int), .int .u64 (limb dv 1 : Int), .int .u64 (limb dv 2 : Int), .int .u64 (limb dv 3 : Int)] := blk_to e9 (Blk.new (w := qra2) (xs := [.int .u64 (limb dv 0 : Int), .int .u64 (limb dv 1 : Int), .int .u64 (limb dv 2 : Int), .int .u64 (limb dv 3 : Int)]) (t := 28) rfl)
        replace H9 := below_to e9 (H9.alloc H9.size (.cells #[.int .u64 (limb dv 0 : Int), .int .u64 (limb dv 1 : Int), .int .u64 (limb dv 2 : Int), .int .u64 (limb dv 3 : Int)] 28))
        replace NV := hid (nums_to e9 (NV.out.below ((Below.refl _ _).alloc (Nat.le_refl _) _)))
        clear e9
        refine hK.out _ _ (fun b o h => H9.cell (p := ⟨b, o, none⟩) h) (fun hHeld => ?_)
        clear hK K
        try simp only [Act.put, List.setIfInBounds_toArray, List.set_cons_zero, List.set_cons_succ]
        clear hHeld
        refine wpAnyH_ready (rs := [11]) (by kernel_rfl) (by simp) ?_
        refine AllReadyH.cons (o := _) rfl (fun K hK => ?_) ?_
        · skip
          go_simp
          go_at_call 78
          refine (MLC.out _ _ _ NV.out (blk_nums (t := 28) Z_A HDB.out)).mono ?_
          rintro e qra4 ⟨vr, rfl, hn9, b9⟩
          replace H9 := H9.trans (b9.mono H9.size)
          replace Z_A := Z_A.keep b9
          replace NV := hid (NV.out.below b9)
          have NR := hid hn9
          clear hn9
          clear b9
          try go_wp2_with fail
          refine hK.out _ _ (fun b o h => H9.cell (p := ⟨b, o, none⟩) h) (fun hHeld => ?_)
          clear hK K
          try simp only [Act.put, List.setIfInBounds_toArray, List.set_cons_zero, List.set_cons_succ]
          refine wpAnyH_take (i := 12) (oi := _) (v := vr) rfl (by kernel_rfl) (by kernel_rfl) (by kernel_rfl) (fun _ _ _ h => h) (Or.inl ⟨by rfl, ?_⟩) (by assumption) ?_
          · intro w hSw; (try dsimp only at hSw); go_simp
          try simp only [Act.put, List.setIfInBounds_toArray, List.set_cons_zero, List.set_cons_succ]
          clear hHeld
          refine wpAnyH_done (by kernel_rfl) ?_ _
          try refine NoPanic.normal ?_
          clear z_P c_P0 c_P1 c_P2 c_P3 z_Y c_Y0 c_Y1 c_Y2 c_Y3
          replace X_P := X_P.keep H9
          replace X_Y := X_Y.keep H9
          replace BW := hid (BW.out.trans (H9.mono BW.out.size))
          clear H9
          have X_A := Z_A
          clear Z_A
          clear X_A d0 d1 d2 d3 hg
          have z_P := X_P.lt
          have c_P0 := X_P.cell (i := 0) rfl
          have c_P1 := X_P.cell (i := 1) rfl
          have c_P2 := X_P.cell (i := 2) rfl
          have c_P3 := X_P.cell (i := 3) rfl
          go_wp2_with fail
          refine (ADC.out _ _ _ (HU.out.below BW.out) NR.out).mono ?_
          rintro e v3 ⟨vz, rfl, hn8, b9⟩
          clear z_P c_P0 c_P1 c_P2 c_P3
          replace X_P := X_P.keep b9
          replace X_Y := X_Y.keep b9
          replace BW := hid (BW.out.trans (b9.mono BW.out.size))
          clear b9
          have N_z := hid hn8
          clear hn8
          go_wp2
          refine bodyPost_ret (by simp only [results, Tryd.results42]; go_simp; try rfl) rfl ?_
          exact ⟨_, rfl, N_z.out, BW.out⟩
        exact AllReadyH.nil
      exact AllReadyH.nil
    exact AllReadyH.nil
  exact AllReadyH.nil
end Go.Proofs.YtogenbggjodcnaaDoor
