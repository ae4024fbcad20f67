/-
  LagrangeRecovers: interpolating the values of a polynomial yields it, and Dot of the coefficients of Zero and the values is its value at zero.
-/
import Derived.Test.YthdjjogdjabflaaDoorAlive09
import Derived.Test.YthdjjogdjabflaaDoorRZero9
import Derived.Test.YthdjjogdjabflaaDoorRItp9
import Derived.Test.YthdjjogdjabflaaDoorDot9
import Derived.Lib.AppendZerosOnto
import Derived.Laws.CopyRow
import Derived.Test.YthdjjogdjabflaaDoorPolys
import Derived.Deep.RegionHeld3
namespace Go.Proofs.YthdjjogdjabflaaDoor
open Go.RowKit

attribute [local go_sem] Oper.semAt_some
theorem eq9_el (a b c d : Int) (w : World) : (Op.equalIn 10000 30 (.agg #[.int .u64 a, .int .u64 b, .int .u64 c, .int .u64 d]) (.agg #[.int .u64 a, .int .u64 b, .int .u64 c, .int .u64 d])).run Tryd.prog w = .ok true w := by
  rw [run_eq_elem]; simp
set_option maxRecDepth 100000
abbrev ZV : Value := .agg #[.int .u64 0, .int .u64 0, .int .u64 0, .int .u64 0]
theorem zeros_get (k j : Nat) (h : j < k * 4) : (Builtin.zeroCells ZV.cells k).toList[j]? = some (.int .u64 0) := by
  have hs : ZV.cells.size = 4 := rfl
  unfold Builtin.zeroCells
  rw [hs]
  simp only [Array.toList_map, List.getElem?_map]
  rw [Array.getElem?_toList, Array.getElem?_range, if_pos (by omega)]
  show some (ZV.cells[j % 4]!) = _
  congr 1
  have h4 : j % 4 < 4 := Nat.mod_lt _ (by omega)
  match j % 4, h4 with
  | 0, _ => rfl
  | 1, _ => rfl
  | 2, _ => rfl
  | 3, _ => rfl
theorem zeros_len (k : Nat) : (Builtin.zeroCells ZV.cells k).toList.length = k * 4 := by
  have := size_zeroCells ZV.cells k
  rw [Array.length_toList, this]; rfl
theorem zeros_nums (k : Nat) : (Builtin.zeroCells ZV.cells k).toList = nums (List.replicate k 0) := by
  refine List.ext_getElem? fun j => ?_
  by_cases h : j < k * 4
  · rw [zeros_get k j h]
    have e : j = j / 4 * 4 + j % 4 := by omega
    rw [e, nums_get (List.replicate k 0) (j / 4) 0 (by rw [List.getElem?_replicate, if_pos (by omega)]) (j % 4) (Nat.mod_lt _ (by omega)), limb_eq]
    simp
  · rw [List.getElem?_eq_none (by rw [zeros_len]; omega), List.getElem?_eq_none (by rw [nums_len, List.length_replicate]; omega)]
set_option maxHeartbeats 1000000 in
theorem app_zeros (base n k : Nat) (v : Value) (xs : List Nat) (ty : TypeId) (w : World) (hown : w.ownsRow base 29 4 v n (nums xs)) (h0 : 0 < n) (hb : base ≤ w.heap.size) (hk : n + k < 1000000) :
    ∃ v' w', (Builtin.append_ #[39, 3] ty #[v, .int .i64 (k : Int)]).run Tryd.prog w = .ok v' w' ∧ w'.ownsRow base 29 4 v' (n + k) (nums (xs ++ List.replicate k 0)) ∧ w.grownBy w' v.ownBlock := by
  obtain ⟨i0, hi, hz0, hz1, hz2⟩ := info_parts info_v4
  have ht := Tryd.underlying39
  have htn := Tryd.underlying3
  rw [nums_append, ← zeros_nums]
  have hlen : (nums xs ++ (Builtin.zeroCells ZV.cells k).toList).length = (n + k) * 4 := by rw [List.length_append, hown.1, zeros_len, Nat.add_mul]
  have hone : ∀ u ∈ (Builtin.zeroCells ZV.cells k).toList, u.oneCell' = true := fun u hu => by
    obtain ⟨j, hj⟩ := List.mem_iff_getElem?.1 hu
    have hjl := (List.getElem?_eq_some_iff.1 hj).1
    rw [zeros_len] at hjl
    rw [zeros_get k j hjl] at hj
    cases hj; rfl
  have hw : IntKind.i64.wrap (k : Int) = k := by rw [IntKind.wrap_i64]; omega
  have hneg : ¬ ((k : Int) < 0) := by omega
  rcases hown.2 with ⟨rfl, rfl⟩ | ⟨g, cap, cur, rfl, hbg, hg, hnc, hcm, hcs, htake⟩
  · omega
  · by_cases hroom : n + k ≤ cap
    · have hfit : n * 4 + (Builtin.zeroCells ZV.cells k).toList.length ≤ cur.size := by rw [zeros_len, hcs]; omega
      have hst := run_storeCells_at Tryd.prog g (n * 4) 29 (Builtin.zeroCells ZV.cells k).toList 0 cur w hg (by simpa using hfit) hone
      simp only [Nat.add_zero] at hst
      have h48i : ¬ (281474976710656 < (k : Int) * (i0.bytes : Int)) := by rw [hz2]; omega
      have hr : (Builtin.append_ #[39, 3] ty #[.slice (some ⟨g, 0, none⟩) n cap, .int .i64 (k : Int)]).run Tryd.prog w = .ok (.slice (some ⟨g, 0, none⟩) (n + k) cap) (w.setRow g (cur.toList.take (n * 4) ++ (Builtin.zeroCells ZV.cells k).toList ++ cur.toList.drop (n * 4 + (Builtin.zeroCells ZV.cells k).toList.length)).toArray) := by
        by_cases hk0 : k = 0
        · subst hk0
          have hz9 : (Builtin.zeroCells ZV.cells 0).toList = [] := List.length_eq_zero_iff.1 (by rw [zeros_len])
          rw [hz9] at hst ⊢
          simp [Builtin.append_, run_underlying ht, run_underlying htn, sizeOf, typeInfo, zeroValue, hi, hz0, hz1, asInt, asIntOf, hnc, Addr.add_lit] at hst ⊢
          simp [IntKind.wrap_i64, hnc, Addr.add_lit, hst]
        · have hns : ¬ (k * 4 = 0) := by omega
          simp [Builtin.append_, run_underlying ht, run_underlying htn, sizeOf, typeInfo, zeroValue, hi, hz0, hz1, asInt, asIntOf, hw, hneg, h48i, hk0, hroom, Addr.add_lit, hst]
          intro h9; exfalso; omega
      refine ⟨_, _, hr, ⟨hlen, .inr ⟨g, cap, _, rfl, hbg, setRow_heap w g cur _ _ _ hg, hroom, hcm, ?_, ?_⟩⟩, ⟨rfl, rfl, rfl, by simp, fun j _ hj => setRow_other w g j _ (fun e => hj (by simp [Value.ownBlock, e]))⟩⟩
      · have hzl := zeros_len k
        rw [Array.length_toList] at hzl
        simp only [List.size_toArray, List.length_append, List.length_take, List.length_drop, Array.length_toList, hzl]
        omega
      · have e : cur.toList.take (n * 4) = nums xs := htake
        rw [e, List.append_assoc]
        simp only
        rw [← List.append_assoc, ← hlen]
        exact List.take_left
    · have hold := run_firstCells_some (P := Tryd.prog) w.drew i0.size n ⟨g, 0, none⟩ n cap (nums xs) (by rw [hz1]; exact hown.1) (fun j u hu => by have := hown.cells (g := g) rfl j u hu; exact this)
      have hr := Lib.run_append_grow_zeros (P := Tryd.prog) w 39 3 ty 29 i0 ZV .i64 .i64 ht htn hi hz0 (some ⟨g, 0, none⟩) n cap (nums xs) hold k (by omega) (by rw [hz1]; omega) (by omega) (by omega) (by rw [hz2]; omega) (growslice_fits (by omega) (by rw [hz2]; omega))
      have hge := grownCap_ge w (n + k) cap 29
      have hcm2 : grownCap w (n + k) cap 29 ≤ maxLen := grownCap_le_maxLen w (n + k) cap 29 (by unfold maxLen; omega)
      refine ⟨_, _, hr, ⟨hlen, .inr ⟨w.heap.size, _, _, rfl, hb, heap_alloc_new w.drew _, hge, hcm2, ?_, ?_⟩⟩, ⟨rfl, rfl, rfl, by simp, fun j hj hne => (World.grownBy_alloc w.drew _ (Value.ownBlock (.slice (some ⟨g, 0, none⟩) n cap))).block j hj hne⟩⟩
      · simp only [Array.size_append, List.size_toArray, size_zeroCells, hown.1, show ZV.cells.size = 4 from rfl, ← Nat.add_mul]
        congr 1
        omega
      · simp only [Array.toList_append, List.append_assoc]
        rw [← List.append_assoc, ← hlen]
        exact List.take_left
theorem dotk_congr {p : Nat} {f g b : Nat → Nat} : ∀ n, (∀ t, t < n → f t = g t) → dotk p f b n = dotk p g b n
  | 0, _ => rfl
  | n + 1, h => by
    show addm p (dotk p f b n) (mulm p (f n) (b n)) = addm p (dotk p g b n) (mulm p (g n) (b n))
    rw [dotk_congr n (fun t ht => h t (by omega)), h n (by omega)]
theorem info_l5 : (Tryd.prog.info? 30).map (fun i => (i.zero, i.size, i.bytes)) = some (some (.agg #[.int .u64 0, .int .u64 0, .int .u64 0, .int .u64 0]), 4, 32) := by kernel_rfl
theorem row_only {w w' : World} {base g n c : Nat} {f : Nat → Nat} {t : TypeId} (h : RowF w base t g n c f) (hg : w.grownBy w' (Value.slice (some ⟨g, 0, none⟩) n c).ownBlock) : Only (fun k => k = g) w w' := by
  refine Only.grownBy hg (fun k hk => ?_)
  cases hk
  refine ⟨rfl, fun o ho => ?_⟩
  obtain ⟨ys, hy, _⟩ := h
  rcases hy.2 with ⟨h1, _⟩ | ⟨g9, cap9, cur9, e9, _, hh, _⟩
  · cases h1
  · cases e9; rw [hh] at ho; cases ho; rfl
theorem types_apart {w : World} {b1 b2 g n1 n2 c1 c2 : Nat} {f1 f2 : Nat → Nat} (h1 : RowF w b1 29 g n1 c1 f1) (h2 : RowF w b2 30 g n2 c2 f2) : False := by
  obtain ⟨y1, ⟨_, h1⟩, _⟩ := h1
  obtain ⟨y2, ⟨_, h2⟩, _⟩ := h2
  rcases h1 with ⟨e, _⟩ | ⟨g1, cap1, cur1, e1, _, hh1, _⟩
  · cases e
  · rcases h2 with ⟨e, _⟩ | ⟨g2, cap2, cur2, e2, _, hh2, _⟩
    · cases e
    · cases e1; cases e2
      rw [hh1] at hh2
      cases hh2
theorem only_cells {w w' : World} {g : Nat} (h : Only (fun k => k = g) w w') (b o : Nat) (hb : b < w.heap.size) (hne : ¬ (b = g)) : w'.cell? ⟨b, o, none⟩ = w.cell? ⟨b, o, none⟩ := by
  refine World.cell?_of_block ?_
  have e : w.heap[b]? = some (w.heap[b]'hb) := Array.getElem?_eq_getElem hb
  exact (h.block b _ e (.inl hne)).trans e.symm
set_option maxRecDepth 100000 in
set_option maxHeartbeats 8000000 in
theorem recovers9_law (b : Bool) (v u : Value) (xs : List Int) (ls : List Nat) (w : World) (hT : Tab w) (hS : IntSl w v xs) (hU : NumSl w u ls) :
    Calls Tryd.prog 7 #[.bool b, v, u] w (Ret (.bool true) w) := by
  have BW := hid (Below.refl w.heap.size w)
  have T := hid hT
  clear hT
  have HS := hid hS
  obtain ⟨sa, sc, rfl, _⟩ := hS
  obtain ⟨n, hn⟩ : ∃ n, xs.length = n := ⟨_, rfl⟩
  rw [hn] at HS ⊢
  have HN := hid hn
  have HU := hid hU
  obtain ⟨su, cu, rfl, _, _⟩ := hU
  obtain ⟨m, hm⟩ : ∃ n, ls.length = n := ⟨_, rfl⟩
  rw [hm] at HU ⊢
  by_cases h6 : 6 < n
  · skip
    go_enter Tryd.func7, Tryd.ntmps7
    go_wp2_with fail
    refine (alive9_any _ T.out).mono ?_
    rintro e v1 ⟨rfl, b9⟩
    replace T := hid (T.out.keep b9)
    replace BW := hid (BW.out.trans (b9.mono BW.out.size))
    clear b9
    go_wp2
    go_ret
    exact ⟨rfl, BW.out⟩
  by_cases h7 : n < m
  · skip
    go_enter Tryd.func7, Tryd.ntmps7
    go_wp2_with fail
    refine (alive9_any _ T.out).mono ?_
    rintro e v2 ⟨rfl, b9⟩
    replace T := hid (T.out.keep b9)
    replace BW := hid (BW.out.trans (b9.mono BW.out.size))
    clear b9
    go_wp2
    go_ret
    exact ⟨rfl, BW.out⟩
  have hlx : xs.length < 1000000 := by omega
  have RCC := hid (fun (W : World) (h : IntSl W (.slice sa n sc) xs) => rlcheck_any (.slice sa n sc) xs W h hlx)
  by_cases hc : chkx xs = 0
  · skip
    rw [hc] at RCC
    by_cases hm0 : m = 0
    · skip
      subst hm0
      clear hc hlx hn hm
      go_enter Tryd.func7, Tryd.ntmps7
      go_wp2_with fail
      refine (RCC.out _ (HS.out.below BW.out)).mono ?_
      rintro e v3 ⟨rfl, b9⟩
      replace T := hid (T.out.keep b9)
      replace BW := hid (BW.out.trans (b9.mono BW.out.size))
      clear b9
      go_wp2_with fail
      refine (alive9_any _ T.out).mono ?_
      rintro e v4 ⟨rfl, b9⟩
      replace T := hid (T.out.keep b9)
      replace BW := hid (BW.out.trans (b9.mono BW.out.size))
      clear b9
      go_wp2
      go_ret
      exact ⟨rfl, BW.out⟩
    · skip
      have hp2 := fP_two b
      have hpb := fP_lt b
      have HALL := hid (chkx_zero hc).1
      have hdn := (chkx_zero hc).2
      have HAT := hid (fun (i : Nat) (x : Int) (h : xs[i]? = some x) => pts_at h)
      have hlt9 := pts_lt HALL.out (show 255 < fP b by cases b <;> decide)
      have hnod := pts_nodup HALL.out hdn
      have hlen9 := pts_len xs
      have VC := hid (fun (W : World) (h : NumSl W (.slice su m cu) ls) => values_any (fP b) (.slice su m cu) ls W hpb (by omega) h (by omega))
      unfold RetVals at VC
      obtain ⟨vs, hvs⟩ : ∃ z, ls.map (mulm (fP b) 1) = z := ⟨_, rfl⟩
      have HLV : Hid (vs.length = m) := hid (by rw [← hvs, List.length_map, hm])
      have HVL : Hid (∀ y ∈ vs, y < fP b) := hid (by intro y hy; rw [← hvs] at hy; obtain ⟨z, _, rfl⟩ := List.mem_map.1 hy; exact mulm_lt _ _ (by omega))
      rw [hvs, hm] at VC
      clear hvs
      have I0 := fun (es : List Nat) (hes : es.length = n) => hid (fun (W : World) (v u : Value) (h : IntSl W v xs) (h2 : NumSl W u (es.map (frm (fP b)))) => itp_ok b v u xs es W h h2 (by omega) hc (by rw [hes, hn]))
      have Z1 := hid (fun (W : World) (v : Value) (h : IntSl W v xs) => zero_ok b v xs W h (by omega) hc)
      unfold RetE at I0 Z1
      obtain ⟨ns, hns⟩ : ∃ ns, pts xs = ns := ⟨_, rfl⟩
      rw [hns] at Z1 HAT hlt9 hnod hlen9
      rw [hns, hn] at I0
      rw [hn] at hlen9
      have hEL : ((ns.map (fun y => evm (fP b) y vs)).length = n) := by rw [List.length_map, hlen9]
      have hEG : ∀ j, j < n → (ns.map (fun y => evm (fP b) y vs)).getD j 0 = evm (fP b) (ns.getD j 0) vs := fun j hj => by rw [List.getD_eq_getElem?_getD, List.getElem?_map, List.getD_eq_getElem?_getD, List.getElem?_eq_getElem (by omega)]; rfl
      have hEP : ∀ y ∈ ns.map (fun y => evm (fP b) y vs), y < fP b := fun y hy => by obtain ⟨z, _, rfl⟩ := List.mem_map.1 hy; exact evm_lt _ _ (by omega)
      have I1 := I0 _ hEL
      have hIP := itp_poly (fer_b b) hp2 (xs := ns) (ys := ns.map (fun y => evm (fP b) y vs)) (c := vs) hlt9 hnod HVL.out (by rw [HLV.out, hlen9]; omega) (fun j hj => hEG j (by omega))
      rw [hlen9, HLV.out] at hIP
      rw [hIP] at I1
      have hDP := dot_poly (fer_b b) hp2 (xs := ns) (ys := ns.map (fun y => evm (fP b) y vs)) (c := vs) hlt9 hnod HVL.out (by rw [HLV.out, hlen9]; omega) (by rw [HLV.out]; omega) (fun j hj => hEG j (by omega))
      rw [hlen9] at hDP
      have hDZ : dotk (fP b) (fun t => (zcs (fP b) ns).getD t 0) (fun t => (ns.map (fun y => evm (fP b) y vs)).getD t 0) n = vs.getD 0 0 := by rw [← hDP]; exact dotk_congr n (fun t ht => getD_some (zcs_at (by omega)))
      have HEA := hid (fun (k : Nat) (x : Int) (h : xs[k]? = some x) => (show (ns.map (fun y => evm (fP b) y vs))[k]? = some (evm (fP b) x.toNat vs) by rw [← hns]; unfold pts; rw [List.map_map, List.getElem?_map, h]; rfl))
      obtain ⟨es, hes⟩ : ∃ es, ns.map (fun y => evm (fP b) y vs) = es := ⟨_, rfl⟩
      rw [hes] at hEL hEP I1 hDZ HEA
      have HEL := hid hEL
      have HEP := hid hEP
      obtain ⟨kz, hkz⟩ : ∃ k, n - m = k := ⟨_, rfl⟩
      have hsub : (n : Int) - (m : Int) = (kz : Int) := by omega
      have hnm : n = m + kz := by omega
      rw [hkz] at I1
      have HZL : Hid ((zcs (fP b) ns).length = n) := hid (by rw [zcs_len, hlen9])
      have HZP : Hid (∀ y ∈ zcs (fP b) ns, y < fP b) := hid (fun y hy => by obtain ⟨i, _, rfl⟩ := List.mem_map.1 hy; exact negs_lt (by omega) _ (invm_lt _ (by omega)))
      obtain ⟨zs, hzs⟩ : ∃ z, zcs (fP b) ns = z := ⟨_, rfl⟩
      rw [hzs] at Z1 hDZ HZL HZP
      have D1 := hid (fun (W : World) (v u : Value) (h : NumSl W v (zs.map (frm (fP b)))) (h2 : NumSl W u (es.map (frm (fP b)))) => dot_ok b v u zs es W h h2 (by rw [HZL.out]; omega) (by rw [HZL.out, HEL.out]))
      rw [HZL.out, hDZ] at D1
      have HNM := hid hnm
      have HSUB := hid hsub
      have HN := hid hn
      have HLL := hid (show (vs ++ List.replicate kz 0).length = n by rw [List.length_append, List.length_replicate, HLV.out]; omega)
      have HVZ : Hid (∀ y ∈ vs ++ List.replicate kz 0, y < B256) := hid (small9 (b := b) (fun y hy => by rcases List.mem_append.1 hy with h | h; exact HVL.out y h; rw [List.eq_of_mem_replicate h]; omega))
      rw [List.length_map, HLL.out] at I1
      rw [List.length_map, HZL.out] at Z1
      have S1 := hid (fun (W : World) (v1 v2 : Value) (h1 : NumSl W v1 ((vs ++ List.replicate kz 0).map (frm (fP b)))) (h2 : NumSl W v2 (vs ++ List.replicate kz 0)) => same9_any (fP b) v1 v2 _ W hpb (by omega) h1 h2 (by rw [HLL.out]; omega))
      have HC0 : Hid ((vs.map (frm (fP b))).getD 0 0 = frm (fP b) (vs.getD 0 0)) := hid (getD_frm _ _ _)
      obtain ⟨x0, hx0⟩ : ∃ z, frm (fP b) (vs.getD 0 0) = z := ⟨_, rfl⟩
      rw [hx0] at HC0 D1
      have hm1 : 0 < m := by omega
      have hdm : ((m : Int) == 0) = false := by simp; omega
      have hn1 : 0 < n := by omega
      have heq := fun W : World => eq9_el (limb x0 0 : Int) (limb x0 1 : Int) (limb x0 2 : Int) (limb x0 3 : Int) W
      clear hc hlx hn hm hns hlt9 hnod hlen9 hdn hEL hEG hEP hIP hDP hDZ hes hkz hsub hnm hzs hx0 I0 hm0
      obtain ⟨i0, hi, hz0, hz1, hz2⟩ := info_parts info_l5
      go_enter Tryd.func7, Tryd.ntmps7
      go_wp2_with fail
      refine (RCC.out _ (HS.out.below BW.out)).mono ?_
      rintro e v3 ⟨rfl, b9⟩
      replace T := hid (T.out.keep b9)
      replace BW := hid (BW.out.trans (b9.mono BW.out.size))
      clear b9
      go_wp2_with fail
      refine (get9_any b _ T.out).mono ?_
      rintro e v4 ⟨rfl, b9⟩
      replace T := hid (T.out.keep b9)
      replace BW := hid (BW.out.trans (b9.mono BW.out.size))
      clear b9
      go_wp2_with fail
      obtain ⟨v5, hv9⟩ : ∃ v, ((v4.alloc (.cells #[.int .i64 (fID b), .int .u64 (limb (fP b) 0 : Int), .int .u64 (limb (fP b) 1 : Int), .int .u64 (limb (fP b) 2 : Int), .int .u64 (limb (fP b) 3 : Int), .int .u64 (fI b : Int), .int .u64 (limb (fO b) 0 : Int), .int .u64 (limb (fO b) 1 : Int), .int .u64 (limb (fO b) 2 : Int), .int .u64 (limb (fO b) 3 : Int), .int .u64 (limb (fS b) 0 : Int), .int .u64 (limb (fS b) 1 : Int), .int .u64 (limb (fS b) 2 : Int), .int .u64 (limb (fS b) 3 : Int)] 32)).alloc (.cells #[.int .u64 (limb (fP b) 0 : Int), .int .u64 (limb (fP b) 1 : Int), .int .u64 (limb (fP b) 2 : Int), .int .u64 (limb (fP b) 3 : Int)] 29)) = v := ⟨_, rfl⟩
      have hG9 : Below v4.heap.size v4 v5 := by rw [← hv9]; go_grown
      have X_F : Blk v5 (v4.heap.size) 32 [.int .i64 (fID b), .int .u64 (limb (fP b) 0 : Int), .int .u64 (limb (fP b) 1 : Int), .int .u64 (limb (fP b) 2 : Int), .int .u64 (limb (fP b) 3 : Int), .int .u64 (fI b : Int), .int .u64 (limb (fO b) 0 : Int), .int .u64 (limb (fO b) 1 : Int), .int .u64 (limb (fO b) 2 : Int), .int .u64 (limb (fO b) 3 : Int), .int .u64 (limb (fS b) 0 : Int), .int .u64 (limb (fS b) 1 : Int), .int .u64 (limb (fS b) 2 : Int), .int .u64 (limb (fS b) 3 : Int)] := by rw [← hv9]; exact Blk.alloc (Blk.new rfl) _
      have X_P : Blk v5 (v4.heap.size + 1) 29 [.int .u64 (limb (fP b) 0 : Int), .int .u64 (limb (fP b) 1 : Int), .int .u64 (limb (fP b) 2 : Int), .int .u64 (limb (fP b) 3 : Int)] := by rw [← hv9]; exact Blk.new (by simp)
      obtain ⟨bF, hb9⟩ : ∃ k, v4.heap.size = k := ⟨_, rfl⟩
      rw [hb9] at X_F
      rw [hb9] at X_P
      have g_bF : w.heap.size ≤ bF := by rw [← hb9]; exact BW.out.size
      replace T := hid (T.out.keep hG9)
      replace BW := hid (BW.out.trans (hG9.mono BW.out.size))
      clear hG9
      rw [hv9]
      try rw [hb9]
      clear hv9 hb9
      refine (VC.out _ (HU.out.below BW.out)).mono ?_
      rintro e v6 ⟨vv, vx, rfl, ho, ho2, b9⟩
      rw [← HLV.out] at ho ho2
      obtain ⟨gv, cv, rfl, hR8⟩ := RowF.of ho rfl (by rw [HLV.out]; exact hm1)
      obtain ⟨gc, cc, rfl, hR9⟩ := RowF.of ho2 (by rw [List.length_map]) (by rw [HLV.out]; exact hm1)
      rw [HLV.out] at hR8 hR9 ⊢
      clear ho ho2
      have lt8 := hR8.ge
      have lt9 := hR9.ge
      have n9_P : bF + 1 < gv := by have := X_P.lt; omega
      have n9_c : gc ≠ gv := by intro e9; subst e9; exact types_apart hR8 hR9
      have R_v := hid (hR8.mono (Nat.le_succ_of_le BW.out.size))
      have R_c := hid (hR9.mono (Nat.le_succ_of_le BW.out.size))
      clear hR8 hR9
      have q_F_v := X_F.lt
      have q_P_v := X_P.lt
      replace X_F := X_F.keep b9
      replace X_P := X_P.keep b9
      replace T := hid (T.out.keep b9)
      replace BW := hid (BW.out.trans (b9.mono BW.out.size))
      clear b9
      go_wp2
      go_loopw [11, 54] (fun y ix wr => ∃ (k : Nat) (z9 : Value), z9 = y ∧ k ≤ n ∧ ix = .int .i64 (k : Int) ∧ Below v6.heap.size v6 wr ∧ wr.ownsRow v6.heap.size 30 4 y k (nums ((es.map (frm (fP b))).take k))) (fun _ ix _ => n - (intOf ix).toNat)
      case atStart => exact ⟨0, _, rfl, Nat.zero_le _, rfl, Below.refl _ _, by simpa [nums] using World.ownsRow_nil _ _ _ _⟩
      case round =>
        obtain ⟨k, yv, rfl, hk9, rfl, hB, hO⟩ := hrel
        have HB := hid hB
        have N_y := hid hO
        clear hO
        obtain ⟨v7, hv9⟩ : ∃ v, v = wr := ⟨_, rfl⟩
        subst hv9
        replace R_v := hid (R_v.out.keep hB)
        replace R_c := hid (R_c.out.keep hB)
        replace X_F := X_F.keep hB
        replace X_P := X_P.keep hB
        replace T := hid (T.out.keep hB)
        replace BW := hid (BW.out.trans (hB.mono BW.out.size))
        clear hB
        by_cases hlt : k < n
        · skip
          obtain ⟨x, h9⟩ : ∃ x, xs[k]? = some x := ⟨xs[k]'(by rw [HN.out]; exact hlt), List.getElem?_eq_getElem _⟩
          obtain ⟨l_x, u_x⟩ := HALL.out x (List.mem_of_getElem? h9)
          have HP_x := hid (HAT.out _ _ h9)
          have H_x := hid h9
          clear h9
          obtain ⟨ga, oa, rfl, zd, d0⟩ := (HS.out.below BW.out).at H_x.out
          have hk0 : (0 : Int) ≤ (k : Int) := by omega
          have hkn : (k : Int) < (n : Int) := by omega
          have hea := HEA.out k x H_x.out
          have T1 := hid (take_next (show (es.map (frm (fP b)))[k]? = some (frm (fP b) (evm (fP b) x.toNat vs)) by rw [List.getElem?_map, hea]; rfl))
          have NC := hid (R_c.out.sl (xs := vs.map (frm (fP b))) (by rw [List.length_map, HLV.out]) (fun _ _ => rfl) (small9 (forms9 b vs)))
          have P1 := hid (fun W : World => point_any x l_x u_x W)
          have P2 := hid (fun W : World => form9_any (fP b) x.toNat hpb (by omega) (by unfold B256; omega) W)
          have EVC := hid (fun (W : World) (v : Value) (h : NumSl W v (vs.map (frm (fP b)))) => eval_any (fID b) (fP b) (fI b) (fO b) (fS b) (frm (fP b) x.toNat) v (vs.map (frm (fP b))) W (hid (fOK b)) (hid (frm_lt _ (by omega))) h (forms9 b vs) (by rw [List.length_map, HLV.out]; omega))
          rw [horP_forms (fP_inv b)] at EVC
          obtain ⟨ef, hef⟩ : ∃ z, frm (fP b) (evm (fP b) x.toNat vs) = z := ⟨_, rfl⟩
          rw [hef] at EVC T1
          obtain ⟨xf, hxf⟩ : ∃ z, frm (fP b) x.toNat = z := ⟨_, rfl⟩
          rw [hxf] at P2 EVC
          obtain ⟨xt, hxt⟩ : ∃ z, x.toNat = z := ⟨_, rfl⟩
          rw [hxt] at P1 P2
          clear hef hxf hxt hea
          have z_F := X_F.lt
          have c_F0 := X_F.cell (i := 0) rfl
          have c_F1 := X_F.cell (i := 1) rfl
          have c_F2 := X_F.cell (i := 2) rfl
          have c_F3 := X_F.cell (i := 3) rfl
          have c_F4 := X_F.cell (i := 4) rfl
          have c_F5 := X_F.cell (i := 5) rfl
          have c_F6 := X_F.cell (i := 6) rfl
          have c_F7 := X_F.cell (i := 7) rfl
          have c_F8 := X_F.cell (i := 8) rfl
          have c_F9 := X_F.cell (i := 9) rfl
          have c_F10 := X_F.cell (i := 10) rfl
          have c_F11 := X_F.cell (i := 11) rfl
          have c_F12 := X_F.cell (i := 12) rfl
          have c_F13 := X_F.cell (i := 13) rfl
          have z_P := X_P.lt
          have c_P0 := X_P.cell (i := 0) rfl
          have c_P1 := X_P.cell (i := 1) rfl
          have c_P2 := X_P.cell (i := 2) rfl
          have c_P3 := X_P.cell (i := 3) rfl
          go_wp2_with fail
          refine wp_region_soft1 (C := fun W' => Below v7.heap.size v7 W') 7 (by kernel_rfl) (by kernel_rfl) (by decide) (by kernel_rfl) (by kernel_rfl) (by kernel_rfl) (by kernel_rfl) (by kernel_rfl) (fun _ _ _ h => h) (Or.inl ⟨by rfl, fun _ => rfl⟩) ((Below.refl _ _).drew) ?_
          simp only [List.take_succ_cons, List.take_zero, List.drop_succ_cons, List.drop_zero]
          simp only [Act.put, List.setIfInBounds_toArray, List.set_cons_zero, List.set_cons_succ]
          refine wpQuiet_step (fun K hK => ?_)
          rw [if_pos (by rfl)]
          refine ⟨FV b, fun W' hW => ?_, hK _ ?_⟩
          · have e_0 := (hW.cell (p := ⟨bF, 0, none⟩) z_F).trans c_F0
            have e_1 := (hW.cell (p := ⟨bF, 1, none⟩) z_F).trans c_F1
            have e_2 := (hW.cell (p := ⟨bF, 2, none⟩) z_F).trans c_F2
            have e_3 := (hW.cell (p := ⟨bF, 3, none⟩) z_F).trans c_F3
            have e_4 := (hW.cell (p := ⟨bF, 4, none⟩) z_F).trans c_F4
            have e_5 := (hW.cell (p := ⟨bF, 5, none⟩) z_F).trans c_F5
            have e_6 := (hW.cell (p := ⟨bF, 6, none⟩) z_F).trans c_F6
            have e_7 := (hW.cell (p := ⟨bF, 7, none⟩) z_F).trans c_F7
            have e_8 := (hW.cell (p := ⟨bF, 8, none⟩) z_F).trans c_F8
            have e_9 := (hW.cell (p := ⟨bF, 9, none⟩) z_F).trans c_F9
            have e_10 := (hW.cell (p := ⟨bF, 10, none⟩) z_F).trans c_F10
            have e_11 := (hW.cell (p := ⟨bF, 11, none⟩) z_F).trans c_F11
            have e_12 := (hW.cell (p := ⟨bF, 12, none⟩) z_F).trans c_F12
            have e_13 := (hW.cell (p := ⟨bF, 13, none⟩) z_F).trans c_F13
            go_simp
          clear hK K
          simp only [Act.put, List.setIfInBounds_toArray, List.set_cons_zero, List.set_cons_succ]
          refine wpQuiet_step (fun K hK => ?_)
          rw [if_pos (by rfl)]
          refine ⟨.slice (some ⟨gc, 0, none⟩) m cc, fun W' hW => ?_, hK _ ?_⟩
          · go_simp
          clear hK K
          simp only [Act.put, List.setIfInBounds_toArray, List.set_cons_zero, List.set_cons_succ]
          refine wpQuiet_step (fun K hK => ?_)
          rw [if_pos (by rfl)]
          refine ⟨vec (fP b), fun W' hW => ?_, hK _ ?_⟩
          · have e_0 := (hW.cell (p := ⟨bF + 1, 0, none⟩) z_P).trans c_P0
            have e_1 := (hW.cell (p := ⟨bF + 1, 1, none⟩) z_P).trans c_P1
            have e_2 := (hW.cell (p := ⟨bF + 1, 2, none⟩) z_P).trans c_P2
            have e_3 := (hW.cell (p := ⟨bF + 1, 3, none⟩) z_P).trans c_P3
            go_simp
          clear hK K
          simp only [Act.put, List.setIfInBounds_toArray, List.set_cons_zero, List.set_cons_succ]
          refine wpQuiet_step (fun K hK => ?_)
          rw [if_pos (by rfl)]
          refine ⟨.int .i64 x, fun W' hW => ?_, hK _ ?_⟩
          · go_simp
          clear hK K
          simp only [Act.put, List.setIfInBounds_toArray, List.set_cons_zero, List.set_cons_succ]
          refine wpQuiet_step (fun K hK => ?_)
          rw [if_pos (by rfl)]
          refine ⟨vec xt, fun W' hW => ?_, hK _ ?_⟩
          · go_simp
            refine (P1.out _).mono ?_
            rintro e w' ⟨rfl, b⟩
            exact ⟨rfl, hW.trans (b.mono hW.size)⟩
          clear hK K
          simp only [Act.put, List.setIfInBounds_toArray, List.set_cons_zero, List.set_cons_succ]
          refine wpQuiet_step (fun K hK => ?_)
          rw [if_pos (by rfl)]
          refine ⟨vec xf, fun W' hW => ?_, hK _ ?_⟩
          · go_simp
            refine (P2.out _).mono ?_
            rintro e w' ⟨rfl, b⟩
            exact ⟨rfl, hW.trans (b.mono hW.size)⟩
          clear hK K
          simp only [Act.put, List.setIfInBounds_toArray, List.set_cons_zero, List.set_cons_succ]
          refine wpQuiet_step (fun K hK => ?_)
          rw [if_pos (by rfl)]
          refine ⟨vec ef, fun W' hW => ?_, hK _ ?_⟩
          · go_simp
            refine (EVC.out _ _ (NC.out.below hW)).mono ?_
            rintro e w' ⟨rfl, b⟩
            exact ⟨rfl, hW.trans (b.mono hW.size)⟩
          clear hK K
          simp only [Act.put, List.setIfInBounds_toArray, List.set_cons_zero, List.set_cons_succ]
          refine wpQuiet_nil ?_
          intro ws0 hW9
          clear z_F c_F0 c_F1 c_F2 c_F3 c_F4 c_F5 c_F6 c_F7 c_F8 c_F9 c_F10 c_F11 c_F12 c_F13 z_P c_P0 c_P1 c_P2 c_P3
          replace R_v := hid (R_v.out.keep hW9)
          replace R_c := hid (R_c.out.keep hW9)
          replace N_y := hid (owns_keep N_y.out hW9)
          replace X_F := X_F.keep hW9
          replace X_P := X_P.keep hW9
          replace T := hid (T.out.keep hW9)
          replace HB := hid (HB.out.trans (hW9.mono HB.out.size))
          replace BW := hid (BW.out.trans (hW9.mono BW.out.size))
          clear hW9
          go_wp2_with (at_builtin; refine wpList_append_own _ rfl _ _ 35 rfl v6.heap.size 30 i0 _ 4 32 Tryd.underlying35 hi hz0 hz1 hz2 rfl (by decide) _ k _ rfl (N_y.out.alloc _) ⟨ws0.heap.size, 0, none⟩ 1 1 (limbs ef) rfl rfl (Blk.news (t := 30) (Blk.new (by simp))) (by simp [Value.oneCell']) (by unfold maxLen; omega) (by omega) (by have := HB.out.size; simp; omega) ?_; intro vq6 w2 ho hg2 _)
          have B2 := hid (Below.grown (HB.out.alloc HB.out.size _) hg2 (by have := HB.out.size; simp; omega) (fun j hj => by have := (N_y.out.lt j hj).1; omega))
          have ho' : w2.ownsRow v6.heap.size 30 4 vq6 (k + 1) (nums ((es.map (frm (fP b))).take (k + 1))) := by rw [T1.out, nums_snoc]; exact ho
          go_roundw
          case rel => exact ⟨k + 1, _, rfl, by omega, by go_num, B2.out, ho'⟩
          case measure => simp [intOf]; omega
        · skip
          obtain rfl : n = k := by omega
          clear hlt HB
          have hys := N_y.out
          rw [List.take_of_length_le (by rw [List.length_map, HEL.out]; exact Nat.le_refl _)] at hys
          obtain ⟨ay, cy, rfl, _, _, _⟩ := owns_form hys
          have N_ys := hid (nums_own (xs := (es.map (frm (fP b)))) (by rw [List.length_map, HEL.out]; exact hys) (small9 (forms9 b es)))
          clear hys N_y
          have z_F := X_F.lt
          have c_F0 := X_F.cell (i := 0) rfl
          have c_F1 := X_F.cell (i := 1) rfl
          have c_F2 := X_F.cell (i := 2) rfl
          have c_F3 := X_F.cell (i := 3) rfl
          have c_F4 := X_F.cell (i := 4) rfl
          have c_F5 := X_F.cell (i := 5) rfl
          have c_F6 := X_F.cell (i := 6) rfl
          have c_F7 := X_F.cell (i := 7) rfl
          have c_F8 := X_F.cell (i := 8) rfl
          have c_F9 := X_F.cell (i := 9) rfl
          have c_F10 := X_F.cell (i := 10) rfl
          have c_F11 := X_F.cell (i := 11) rfl
          have c_F12 := X_F.cell (i := 12) rfl
          have c_F13 := X_F.cell (i := 13) rfl
          go_wp2_with fail
          refine (I1.out _ _ _ (HS.out.below BW.out) N_ys.out).mono ?_
          rintro e v8 ⟨vd, rfl, ho, b9⟩
          obtain ⟨gd, cd, rfl, hR9⟩ := RowF.of ho (by rw [List.length_map, HLL.out]) hn1
          clear ho
          have lt9 := hR9.ge
          have q_F_gd : bF < gd := Nat.lt_of_lt_of_le X_F.lt lt9
          have q_P_gd : bF + 1 < gd := Nat.lt_of_lt_of_le X_P.lt lt9
          have q_v_gd : gv < gd := Nat.lt_of_lt_of_le R_v.out.lt lt9
          have q_c_gd : gc < gd := Nat.lt_of_lt_of_le R_c.out.lt lt9
          have z0_gd : w.heap.size ≤ gd := Nat.le_trans BW.out.size lt9
          have R_d := hid (hR9.mono BW.out.size)
          clear hR9 lt9
          clear z_F c_F0 c_F1 c_F2 c_F3 c_F4 c_F5 c_F6 c_F7 c_F8 c_F9 c_F10 c_F11 c_F12 c_F13
          replace R_v := hid (R_v.out.keep b9)
          replace R_c := hid (R_c.out.keep b9)
          replace X_F := X_F.keep b9
          replace X_P := X_P.keep b9
          replace N_ys := hid (N_ys.out.below b9)
          replace T := hid (T.out.keep b9)
          replace BW := hid (BW.out.trans (b9.mono BW.out.size))
          clear b9
          have z_F := X_F.lt
          have c_F0 := X_F.cell (i := 0) rfl
          have c_F1 := X_F.cell (i := 1) rfl
          have c_F2 := X_F.cell (i := 2) rfl
          have c_F3 := X_F.cell (i := 3) rfl
          have c_F4 := X_F.cell (i := 4) rfl
          have c_F5 := X_F.cell (i := 5) rfl
          have c_F6 := X_F.cell (i := 6) rfl
          have c_F7 := X_F.cell (i := 7) rfl
          have c_F8 := X_F.cell (i := 8) rfl
          have c_F9 := X_F.cell (i := 9) rfl
          have c_F10 := X_F.cell (i := 10) rfl
          have c_F11 := X_F.cell (i := 11) rfl
          have c_F12 := X_F.cell (i := 12) rfl
          have c_F13 := X_F.cell (i := 13) rfl
          go_wp2_with fail
          refine (Z1.out _ _ (HS.out.below BW.out)).mono ?_
          rintro e v9 ⟨vz, rfl, ho, b9⟩
          have N_z := hid (nums_own (xs := zs.map (frm (fP b))) (by rw [List.length_map, HZL.out]; exact ho) (small9 (forms9 b _)))
          clear ho
          clear z_F c_F0 c_F1 c_F2 c_F3 c_F4 c_F5 c_F6 c_F7 c_F8 c_F9 c_F10 c_F11 c_F12 c_F13
          replace R_v := hid (R_v.out.keep b9)
          replace R_c := hid (R_c.out.keep b9)
          replace R_d := hid (R_d.out.keep b9)
          replace X_F := X_F.keep b9
          replace X_P := X_P.keep b9
          replace N_ys := hid (N_ys.out.below b9)
          replace T := hid (T.out.keep b9)
          replace BW := hid (BW.out.trans (b9.mono BW.out.size))
          clear b9
          have z_F := X_F.lt
          have c_F0 := X_F.cell (i := 0) rfl
          have c_F1 := X_F.cell (i := 1) rfl
          have c_F2 := X_F.cell (i := 2) rfl
          have c_F3 := X_F.cell (i := 3) rfl
          have c_F4 := X_F.cell (i := 4) rfl
          have c_F5 := X_F.cell (i := 5) rfl
          have c_F6 := X_F.cell (i := 6) rfl
          have c_F7 := X_F.cell (i := 7) rfl
          have c_F8 := X_F.cell (i := 8) rfl
          have c_F9 := X_F.cell (i := 9) rfl
          have c_F10 := X_F.cell (i := 10) rfl
          have c_F11 := X_F.cell (i := 11) rfl
          have c_F12 := X_F.cell (i := 12) rfl
          have c_F13 := X_F.cell (i := 13) rfl
          go_wp2_with fail
          refine (D1.out _ _ _ N_z.out N_ys.out).mono ?_
          rintro e v10 ⟨rfl, b9⟩
          clear z_F c_F0 c_F1 c_F2 c_F3 c_F4 c_F5 c_F6 c_F7 c_F8 c_F9 c_F10 c_F11 c_F12 c_F13
          replace R_v := hid (R_v.out.keep b9)
          replace R_c := hid (R_c.out.keep b9)
          replace R_d := hid (R_d.out.keep b9)
          replace X_F := X_F.keep b9
          replace X_P := X_P.keep b9
          replace N_ys := hid (N_ys.out.below b9)
          replace N_z := hid (N_z.out.below b9)
          replace T := hid (T.out.keep b9)
          replace BW := hid (BW.out.trans (b9.mono BW.out.size))
          clear b9
          clear N_z N_ys
          go_upto_region 14 with (fail)
          obtain ⟨v11, hv9⟩ : ∃ v, (v10.alloc (.cells #[.int .u64 (limb x0 0 : Int), .int .u64 (limb x0 1 : Int), .int .u64 (limb x0 2 : Int), .int .u64 (limb x0 3 : Int)] 30)) = v := ⟨_, rfl⟩
          have hG9 : Below v10.heap.size v10 v11 := by rw [← hv9]; go_grown
          have X_X : Blk v11 (v10.heap.size) 30 [.int .u64 (limb x0 0 : Int), .int .u64 (limb x0 1 : Int), .int .u64 (limb x0 2 : Int), .int .u64 (limb x0 3 : Int)] := by rw [← hv9]; exact Blk.new rfl
          obtain ⟨bX, hb9⟩ : ∃ k, v10.heap.size = k := ⟨_, rfl⟩
          rw [hb9] at X_X
          have g_bX : w.heap.size ≤ bX := by rw [← hb9]; exact BW.out.size
          have q_F_bX : bF < bX := by rw [← hb9]; exact X_F.lt
          have q_P_bX : bF + 1 < bX := by rw [← hb9]; exact X_P.lt
          have q_v_bX := R_v.out.lt
          rw [hb9] at q_v_bX
          have q_c_bX := R_c.out.lt
          rw [hb9] at q_c_bX
          have q_d_bX := R_d.out.lt
          rw [hb9] at q_d_bX
          replace R_v := hid (R_v.out.keep hG9)
          replace R_c := hid (R_c.out.keep hG9)
          replace R_d := hid (R_d.out.keep hG9)
          replace X_F := X_F.keep hG9
          replace X_P := X_P.keep hG9
          replace T := hid (T.out.keep hG9)
          replace BW := hid (BW.out.trans (hG9.mono BW.out.size))
          clear hG9
          rw [hv9]
          try rw [hb9]
          clear hv9 hb9
          have z_P := X_P.lt
          have c_P0 := X_P.cell (i := 0) rfl
          have c_P1 := X_P.cell (i := 1) rfl
          have c_P2 := X_P.cell (i := 2) rfl
          have c_P3 := X_P.cell (i := 3) rfl
          have z_X := X_X.lt
          have c_X0 := X_X.cell (i := 0) rfl
          have c_X1 := X_X.cell (i := 1) rfl
          have c_X2 := X_X.cell (i := 2) rfl
          have c_X3 := X_X.cell (i := 3) rfl
          obtain ⟨c0, c1, c2, c3⟩ := R_c.out.cells (i := 0) (v := x0) hm1 HC0.out
          have zc := R_c.out.lt
          rw [Nat.zero_mul] at c0
          try rw [Nat.zero_mul] at c1
          try rw [Nat.zero_mul] at c2
          simp only [Nat.zero_mul, Nat.zero_add] at c0 c1 c2 c3
          have hm2 : (0 : Int) < (m : Int) := by omega
          have n_P : ¬ (bF + 1 = gv) := by omega
          have n_X : ¬ (bX = gv) := by have := R_v.out.lt; omega
          have n_c : ¬ (gc = gv) := n9_c
          have AZ : Hid (∀ W : World, Below v11.heap.size v11 W → ∃ v' w', (Builtin.append_ #[39, 3] 39 #[.slice (some ⟨gv, 0, none⟩) m cv, .int .i64 ((n : Int) - (m : Int))]).run Tryd.prog W = .ok v' w' ∧ NumSl w' (.slice (some ⟨gd, 0, none⟩) n cd) ((vs ++ List.replicate kz 0).map (frm (fP b))) ∧ NumSl w' v' (vs ++ List.replicate kz 0) ∧ Below w.heap.size w w' ∧ v11.heap.size ≤ w'.heap.size ∧ ∀ b o, b < v11.heap.size → ¬ (b = gv) → w'.cell? ⟨b, o, none⟩ = v11.cell? ⟨b, o, none⟩) := hid (fun W hW => by
              rw [HSUB.out]
              have HR := R_v.out.keep hW
              obtain ⟨v7, w7, hrun, ho7, hg7⟩ := app_zeros w.heap.size m kz (.slice (some ⟨gv, 0, none⟩) m cv) vs 39 W (HR.ownl HLV.out (fun _ _ => rfl)) hm1 (Nat.le_trans BW.out.size hW.size) (by have := HNM.out; omega)
              have O7 := row_only HR hg7
              rw [← HNM.out] at ho7
              refine ⟨v7, w7, hrun, ((R_d.out.keep hW).other O7 (show ¬ (gd = gv) by omega)).sl (by rw [List.length_map, HLL.out]) (fun _ _ => rfl) (small9 (forms9 b _)), nums_own (by rw [HLL.out]; exact ho7) HVZ.out, (BW.out.trans (hW.mono BW.out.size)).trans (O7.below (fun k h => by cases h; exact R_v.out.ge) (Nat.le_trans BW.out.size hW.size)), Nat.le_trans hW.size O7.size, fun b o hb hne => ?_⟩
              exact (only_cells O7 b o (Nat.lt_of_lt_of_le hb hW.size) hne).trans (bcell hW b o hb))
          have hwr : IntKind.i64.wrap ((n : Int) - (m : Int)) = (n : Int) - (m : Int) := by rw [IntKind.wrap_i64]; omega
          go_region_held3 (fun w' => ∀ b o, b < v11.heap.size → ¬ (b = gv) → w'.cell? ⟨b, o, none⟩ = v11.cell? ⟨b, o, none⟩) ((intro b o h hne; first | exact (c8 b o (by omega)).trans (c7 b o h hne) | with_reducible exact c7 b o h hne | with_reducible exact c1 b o h | with_reducible exact cell_drew)) (first | (go_at_call 9; refine (alive9_any v11.drew T.out).mono ?_; rintro e r1 ⟨rfl, b9⟩; have H1 : Hid (Below v11.heap.size v11 r1) := hid ((Below.drew (Below.refl _ v11)).trans b9); clear b9; have c1 := bcell H1.out; have z1 := H1.out.size) | (have hq7 := N_7.out; go_at_call 15; refine (S1.out _ _ _ N_d.out N_7.out).mono ?_; rintro e r3 ⟨rfl, b8⟩; have B8 := hid (B7.out.trans (b8.mono B7.out.size)); have c8 := bcell b8; clear b8 hq7) | (obtain ⟨v7, w7, hrun, hd7, hv7, hb7, z7, c7⟩ := AZ.out r1 H1.out; (first | rw [if_pos (show _ = true from rfl)] | rw [if_pos (by kernel_rfl)] | (rw [if_pos ?hwt]; case hwt => first | rfl | kernel_rfl | (simp [Region.wanted, yielded]; done))); (first | refine Lib.wp_append_run _ _ _ _ _ rfl _ _ rfl rfl _ _ hrun ?_ | (rw [← hwr] at hrun; refine Lib.wp_append_run _ _ _ _ _ rfl _ _ rfl rfl _ _ hrun ?_)); have N_d := hid hd7; have N_7 := hid hv7; have B7 := hid hb7; clear hd7 hv7 hb7 hrun))
          go_wp2
          go_ret
          exact ⟨rfl, B8.out⟩
  · skip
    obtain ⟨c, hc9⟩ : ∃ c, chkx xs = c := ⟨_, rfl⟩
    rw [hc9] at hc RCC
    have hd : (c != 0) = true := by simp [hc]
    clear hc hc9 hlx hn hm
    go_enter Tryd.func7, Tryd.ntmps7
    go_wp2_with fail
    refine (RCC.out _ (HS.out.below BW.out)).mono ?_
    rintro e v3 ⟨rfl, b9⟩
    replace T := hid (T.out.keep b9)
    replace BW := hid (BW.out.trans (b9.mono BW.out.size))
    clear b9
    go_wp2_with fail
    refine (alive9_any _ T.out).mono ?_
    rintro e v4 ⟨rfl, b9⟩
    replace T := hid (T.out.keep b9)
    replace BW := hid (BW.out.trans (b9.mono BW.out.size))
    clear b9
    go_wp2
    go_ret
    exact ⟨rfl, BW.out⟩
end Go.Proofs.YthdjjogdjabflaaDoor
