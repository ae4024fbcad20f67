/-
  Shifting a polynomial to another value at zero.
-/
import Derived.Test.YtogenbggjodcnaaDoorVan22
import Derived.Deep.RegionHeld3
import Derived.Deep.DeepCutAuto
namespace Go.Proofs.YtogenbggjodcnaaDoor
open Go.RowKit

attribute [local go_sem] Oper.semAt_some
theorem shf_forms (b : Bool) (ns cs : List Nat) (y : Nat) : paddV (fP b) (cs.map (frm (fP b))) (pscl (fP b) (frm (fP b) (subm (fP b) y (cs.getD 0 0))) ((vanV (fP b) ns).map (frm (fP b)))) = (shfV (fP b) ns cs y).map (frm (fP b)) := by
  rw [pscl_forms (fP_inv b), padd_forms]
  unfold shfV
  rw [show ((vanV (fP b) ns).map fun z => mulm (fP b) z (subm (fP b) y (cs.getD 0 0))) = (vanV (fP b) ns).map (mulm (fP b) (subm (fP b) y (cs.getD 0 0))) from List.map_congr_left fun z _ => mulm_comm _ _ _]
theorem shf_len {p : Nat} (hp : 0 < p) {ns cs : List Nat} (y : Nat) (h : ns.length < cs.length) : (shfV p ns cs y).length = cs.length := by unfold shfV; rw [paddV_len, List.length_map, vanV_len hp]; omega
theorem shf_lt {p : Nat} (hp : 0 < p) (ns cs : List Nat) (y : Nat) : ∀ z ∈ shfV p ns cs y, z < p := padd_lt22 hp _ _
set_option maxRecDepth 100000 in
set_option maxHeartbeats 2000000 in
theorem shift_bad (b : Bool) (v u : Value) (xs : List Int) (cs : List Nat) (y : Nat) (w : World) (hS : IntSl w v xs) (hl : xs.length < 10000) (hU : NumSl w u (cs.map (frm (fP b)))) (hc : chkx xs ≠ 0) :
    Calls Tryd.prog 40 #[FV b, v, u, vec (frm (fP b) y)] w (Ret (.tuple #[.slice none 0 0, .int .i64 (chkx xs)]) w) := by
  have BW := hid (Below.refl w.heap.size w)
  have HS := hid hS
  obtain ⟨sa, sc, rfl, _⟩ := hS
  obtain ⟨n, hn⟩ : ∃ n, xs.length = n := ⟨_, rfl⟩
  rw [hn] at HS hl ⊢
  have HN := hid hn
  have CK := hid (fun (W : World) (h : IntSl W (.slice sa n sc) xs) => lcheck_any (.slice sa n sc) xs W h (by omega))
  clear hn
  have HU := hid hU
  obtain ⟨ua, uc, rfl, huc, _⟩ := hU
  obtain ⟨m, hm⟩ : ∃ m, cs.length = m := ⟨_, rfl⟩
  rw [List.length_map, hm] at HU huc ⊢
  have VC := hid (fun (W : World) (h : IntSl W (.slice sa n sc) xs) => vanish_bad b (.slice sa n sc) xs W h (by rw [HN.out]; exact hl) hc)
  obtain ⟨c, hc9⟩ : ∃ c, chkx xs = c := ⟨_, rfl⟩
  rw [hc9] at hc VC ⊢
  have hd : (c != 0) = true := by simp [hc]
  obtain ⟨yf, hyf⟩ : ∃ z, frm (fP b) y = z := ⟨_, rfl⟩
  rw [hyf]
  clear hc9 hm CK hyf
  go_enter Tryd.func40, Tryd.ntmps40
  go_wp2_with fail
  obtain ⟨v1, hv9⟩ : ∃ v, ((w.alloc (.cells #[.int .i64 (fID b), .int .u64 (limb (fP b) 0 : Int), .int .u64 (limb (fP b) 1 : Int), .int .u64 (limb (fP b) 2 : Int), .int .u64 (limb (fP b) 3 : Int), .int .u64 (fI b : Int), .int .u64 (limb (fO b) 0 : Int), .int .u64 (limb (fO b) 1 : Int), .int .u64 (limb (fO b) 2 : Int), .int .u64 (limb (fO b) 3 : Int), .int .u64 (limb (fS b) 0 : Int), .int .u64 (limb (fS b) 1 : Int), .int .u64 (limb (fS b) 2 : Int), .int .u64 (limb (fS b) 3 : Int)] 31)).alloc (.cells #[.int .u64 (limb yf 0 : Int), .int .u64 (limb yf 1 : Int), .int .u64 (limb yf 2 : Int), .int .u64 (limb yf 3 : Int)] 29)) = v := ⟨_, rfl⟩
  have hG9 : Below w.heap.size w v1 := by rw [← hv9]; go_grown
  have X_F : Blk v1 (w.heap.size) 31 [.int .i64 (fID b), .int .u64 (limb (fP b) 0 : Int), .int .u64 (limb (fP b) 1 : Int), .int .u64 (limb (fP b) 2 : Int), .int .u64 (limb (fP b) 3 : Int), .int .u64 (fI b : Int), .int .u64 (limb (fO b) 0 : Int), .int .u64 (limb (fO b) 1 : Int), .int .u64 (limb (fO b) 2 : Int), .int .u64 (limb (fO b) 3 : Int), .int .u64 (limb (fS b) 0 : Int), .int .u64 (limb (fS b) 1 : Int), .int .u64 (limb (fS b) 2 : Int), .int .u64 (limb (fS b) 3 : Int)] := by rw [← hv9]; exact Blk.alloc (Blk.new rfl) _
  have X_Y : Blk v1 (w.heap.size + 1) 29 [.int .u64 (limb yf 0 : Int), .int .u64 (limb yf 1 : Int), .int .u64 (limb yf 2 : Int), .int .u64 (limb yf 3 : Int)] := by rw [← hv9]; exact Blk.new (by simp)
  obtain ⟨bF, hb9⟩ : ∃ k, w.heap.size = k := ⟨_, rfl⟩
  rw [hb9] at X_F
  rw [hb9] at X_Y
  have g_bF : w.heap.size ≤ bF := by rw [← hb9]; exact BW.out.size
  replace BW := hid (BW.out.trans (hG9.mono BW.out.size))
  clear hG9
  rw [hv9]
  try rw [hb9]
  clear hv9 hb9
  refine (VC.out _ (HS.out.below BW.out)).mono ?_
  rintro e v2 ⟨rfl, b9⟩
  replace X_F := X_F.keep b9
  replace X_Y := X_Y.keep b9
  replace BW := hid (BW.out.trans (b9.mono BW.out.size))
  clear b9
  go_wp2
  refine bodyPost_ret (by simp only [results, Tryd.results40]; go_simp; try rfl) rfl ?_
  exact ⟨rfl, BW.out⟩
set_option maxRecDepth 100000 in
set_option maxHeartbeats 2000000 in
theorem shift_few (b : Bool) (v u : Value) (xs : List Int) (cs : List Nat) (y : Nat) (w : World) (hS : IntSl w v xs) (hl : xs.length < 10000) (hU : NumSl w u (cs.map (frm (fP b)))) (hc : chkx xs = 0) (hf : cs.length ≤ xs.length) :
    Calls Tryd.prog 40 #[FV b, v, u, vec (frm (fP b) y)] w (Ret (.tuple #[.slice none 0 0, .int .i64 4]) w) := by
  have BW := hid (Below.refl w.heap.size w)
  have HS := hid hS
  obtain ⟨sa, sc, rfl, _⟩ := hS
  obtain ⟨n, hn⟩ : ∃ n, xs.length = n := ⟨_, rfl⟩
  rw [hn] at HS hl ⊢
  have HN := hid hn
  have CK := hid (fun (W : World) (h : IntSl W (.slice sa n sc) xs) => lcheck_any (.slice sa n sc) xs W h (by omega))
  clear hn
  have HU := hid hU
  obtain ⟨ua, uc, rfl, huc, _⟩ := hU
  obtain ⟨m, hm⟩ : ∃ m, cs.length = m := ⟨_, rfl⟩
  rw [List.length_map, hm] at HU huc ⊢
  have VC := hid (fun (W : World) (h : IntSl W (.slice sa n sc) xs) => vanish_ok b (.slice sa n sc) xs W h (by rw [HN.out]; exact hl) hc)
  have hp2 := fP_two b
  have hvl : ((vanV (fP b) (pts xs)).map (frm (fP b))).length = n + 1 := by rw [List.length_map, vanV_len (by omega), pts_len, HN.out]
  have HVL := hid hvl
  have hmn : m ≤ n := by have := HN.out; omega
  have hmi : (m : Int) < (n : Int) + 1 := by omega
  obtain ⟨yf, hyf⟩ : ∃ z, frm (fP b) y = z := ⟨_, rfl⟩
  rw [hyf]
  clear hc hm hvl hf CK hyf
  go_enter Tryd.func40, Tryd.ntmps40
  go_wp2_with fail
  obtain ⟨v1, hv9⟩ : ∃ v, ((w.alloc (.cells #[.int .i64 (fID b), .int .u64 (limb (fP b) 0 : Int), .int .u64 (limb (fP b) 1 : Int), .int .u64 (limb (fP b) 2 : Int), .int .u64 (limb (fP b) 3 : Int), .int .u64 (fI b : Int), .int .u64 (limb (fO b) 0 : Int), .int .u64 (limb (fO b) 1 : Int), .int .u64 (limb (fO b) 2 : Int), .int .u64 (limb (fO b) 3 : Int), .int .u64 (limb (fS b) 0 : Int), .int .u64 (limb (fS b) 1 : Int), .int .u64 (limb (fS b) 2 : Int), .int .u64 (limb (fS b) 3 : Int)] 31)).alloc (.cells #[.int .u64 (limb yf 0 : Int), .int .u64 (limb yf 1 : Int), .int .u64 (limb yf 2 : Int), .int .u64 (limb yf 3 : Int)] 29)) = v := ⟨_, rfl⟩
  have hG9 : Below w.heap.size w v1 := by rw [← hv9]; go_grown
  have X_F : Blk v1 (w.heap.size) 31 [.int .i64 (fID b), .int .u64 (limb (fP b) 0 : Int), .int .u64 (limb (fP b) 1 : Int), .int .u64 (limb (fP b) 2 : Int), .int .u64 (limb (fP b) 3 : Int), .int .u64 (fI b : Int), .int .u64 (limb (fO b) 0 : Int), .int .u64 (limb (fO b) 1 : Int), .int .u64 (limb (fO b) 2 : Int), .int .u64 (limb (fO b) 3 : Int), .int .u64 (limb (fS b) 0 : Int), .int .u64 (limb (fS b) 1 : Int), .int .u64 (limb (fS b) 2 : Int), .int .u64 (limb (fS b) 3 : Int)] := by rw [← hv9]; exact Blk.alloc (Blk.new rfl) _
  have X_Y : Blk v1 (w.heap.size + 1) 29 [.int .u64 (limb yf 0 : Int), .int .u64 (limb yf 1 : Int), .int .u64 (limb yf 2 : Int), .int .u64 (limb yf 3 : Int)] := by rw [← hv9]; exact Blk.new (by simp)
  obtain ⟨bF, hb9⟩ : ∃ k, w.heap.size = k := ⟨_, rfl⟩
  rw [hb9] at X_F
  rw [hb9] at X_Y
  have g_bF : w.heap.size ≤ bF := by rw [← hb9]; exact BW.out.size
  replace BW := hid (BW.out.trans (hG9.mono BW.out.size))
  clear hG9
  rw [hv9]
  try rw [hb9]
  clear hv9 hb9
  refine (VC.out _ (HS.out.below BW.out)).mono ?_
  rintro e v2 ⟨vv, rfl, hn9, b9⟩
  obtain ⟨va, vc, rfl, _, _⟩ := id hn9
  have N_v := hid hn9
  rw [HVL.out] at N_v ⊢
  clear hn9
  replace X_F := X_F.keep b9
  replace X_Y := X_Y.keep b9
  replace BW := hid (BW.out.trans (b9.mono BW.out.size))
  clear b9
  go_wp2
  refine bodyPost_ret (by simp only [results, Tryd.results40]; go_simp; try rfl) rfl ?_
  exact ⟨rfl, BW.out⟩
set_option maxRecDepth 100000 in
set_option maxHeartbeats 4000000 in
theorem shift_ok (b : Bool) (v u : Value) (xs : List Int) (cs : List Nat) (y : Nat) (w : World) (hS : IntSl w v xs) (hl : xs.length < 10000) (hU : NumSl w u (cs.map (frm (fP b)))) (hcs : ∀ z ∈ cs, z < fP b) (hy : y < fP b) (hc : chkx xs = 0) (hf : xs.length < cs.length) (hcl : cs.length < 10000) :
    Calls Tryd.prog 40 #[FV b, v, u, vec (frm (fP b) y)] w (RetE 29 ((shfV (fP b) (pts xs) cs y).map (frm (fP b))) 0 w) := by
  have BW := hid (Below.refl w.heap.size w)
  have HS := hid hS
  obtain ⟨sa, sc, rfl, _⟩ := hS
  obtain ⟨n, hn⟩ : ∃ n, xs.length = n := ⟨_, rfl⟩
  rw [hn] at HS hl ⊢
  have HN := hid hn
  have CK := hid (fun (W : World) (h : IntSl W (.slice sa n sc) xs) => lcheck_any (.slice sa n sc) xs W h (by omega))
  clear hn
  have HU := hid hU
  obtain ⟨ua, uc, rfl, huc, _⟩ := hU
  obtain ⟨m, hm⟩ : ∃ m, cs.length = m := ⟨_, rfl⟩
  rw [List.length_map, hm] at HU huc ⊢
  have VC := hid (fun (W : World) (h : IntSl W (.slice sa n sc) xs) => vanish_ok b (.slice sa n sc) xs W h (by rw [HN.out]; exact hl) hc)
  have hp2 := fP_two b
  have hvl : ((vanV (fP b) (pts xs)).map (frm (fP b))).length = n + 1 := by rw [List.length_map, vanV_len (by omega), pts_len, HN.out]
  have HVL := hid hvl
  have hnm : n < m := by have := HN.out; omega
  have hmi : ¬ (m : Int) < (n : Int) + 1 := by omega
  have hm0 : 0 < m := by omega
  have hm0i : (0 : Int) < (m : Int) := by omega
  obtain ⟨c0, hc0⟩ : ∃ x, cs[0]? = some x := ⟨cs[0]'(by omega), List.getElem?_eq_getElem _⟩
  have hc0l := hcs c0 (List.mem_of_getElem? hc0)
  have hc0d : cs.getD 0 0 = c0 := by rw [List.getD_eq_getElem?_getD, hc0]; rfl
  obtain ⟨g, off, rfl, hg, d0, d1, d2, d3⟩ := (HU.out.below BW.out).at4 (k := 0) (y := frm (fP b) c0) (by rw [List.getElem?_map, hc0]; rfl)
  have SBC := hid (fun W : World => msub_any b (frm (fP b) y) (frm (fP b) c0) (frm_lt _ (by omega)) (frm_lt _ (by omega)) W)
  have SBC := hid (fun W : World => msub_any b (frm (fP b) y) (frm (fP b) c0) (frm_lt _ (by omega)) (frm_lt _ (by omega)) W)
  rw [frm_subm (show 0 < fP b by omega) y (Nat.le_of_lt hc0l)] at SBC
  have SCC := hid (fun (W : World) (v : Value) (h : NumSl W v ((vanV (fP b) (pts xs)).map (frm (fP b)))) => scale_sl (fID b) (fP b) (fI b) (fO b) (fS b) (frm (fP b) (subm (fP b) y c0)) v _ W (hid (fOK b)) (hid (frm_lt _ (by omega))) h (forms9 b _) (by rw [HVL.out]; omega))
  have ADC := hid (fun (W : World) (v1 v2 : Value) (h1 : NumSl W v1 (cs.map (frm (fP b)))) (h2 : NumSl W v2 (pscl (fP b) (frm (fP b) (subm (fP b) y c0)) ((vanV (fP b) (pts xs)).map (frm (fP b))))) => padd_any (fID b) (fP b) (fI b) (fO b) (fS b) v1 v2 _ _ W (hid (fOK b)) h1 h2 (forms9 b _) (by intro z hz; unfold pscl at hz; obtain ⟨t, _, rfl⟩ := List.mem_map.1 hz; exact mont_lt _ _ (by omega)) (by rw [List.length_map]; omega) (by unfold pscl; rw [List.length_map, HVL.out]; omega))
  rw [← hc0d, shf_forms, hc0d] at ADC
  have hol : max (cs.map (frm (fP b))).length (pscl (fP b) (frm (fP b) (subm (fP b) y c0)) ((vanV (fP b) (pts xs)).map (frm (fP b)))).length = ((shfV (fP b) (pts xs) cs y).map (frm (fP b))).length := by unfold pscl; rw [List.length_map, List.length_map, HVL.out, List.length_map, shf_len (by omega) y (by rw [pts_len, HN.out]; omega)]; omega
  rw [hol] at ADC
  obtain ⟨zs, hzs⟩ : ∃ z, (shfV (fP b) (pts xs) cs y).map (frm (fP b)) = z := ⟨_, rfl⟩
  rw [hzs] at ADC ⊢
  obtain ⟨yf, hyf⟩ : ∃ z, frm (fP b) y = z := ⟨_, rfl⟩
  rw [hyf] at SBC ⊢
  obtain ⟨cf, hcf⟩ : ∃ z, frm (fP b) c0 = z := ⟨_, rfl⟩
  rw [hcf] at SBC d0 d1 d2 d3
  obtain ⟨df, hdf⟩ : ∃ z, frm (fP b) (subm (fP b) y c0) = z := ⟨_, rfl⟩
  rw [hdf] at SBC SCC ADC
  obtain ⟨vs, hvs⟩ : ∃ z, (vanV (fP b) (pts xs)).map (frm (fP b)) = z := ⟨_, rfl⟩
  rw [hvs] at VC HVL SCC ADC
  obtain ⟨sv, hsv⟩ : ∃ z, pscl (fP b) df vs = z := ⟨_, rfl⟩
  rw [hsv] at SCC ADC
  obtain ⟨cx, hcx⟩ : ∃ z, cs.map (frm (fP b)) = z := ⟨_, rfl⟩
  rw [hcx] at HU ADC
  have HD := hid (And.intro d0 (And.intro d1 (And.intro d2 d3)))
  have HHG := hid hg
  clear hc hm hf hcl hcs hy hc0 hc0l hc0d hol hzs hyf hcf hdf hvs hsv hcx d0 d1 d2 d3 CK hvl
  go_enter Tryd.func40, Tryd.ntmps40
  go_wp2_with fail
  obtain ⟨v1, hv9⟩ : ∃ v, ((w.alloc (.cells #[.int .i64 (fID b), .int .u64 (limb (fP b) 0 : Int), .int .u64 (limb (fP b) 1 : Int), .int .u64 (limb (fP b) 2 : Int), .int .u64 (limb (fP b) 3 : Int), .int .u64 (fI b : Int), .int .u64 (limb (fO b) 0 : Int), .int .u64 (limb (fO b) 1 : Int), .int .u64 (limb (fO b) 2 : Int), .int .u64 (limb (fO b) 3 : Int), .int .u64 (limb (fS b) 0 : Int), .int .u64 (limb (fS b) 1 : Int), .int .u64 (limb (fS b) 2 : Int), .int .u64 (limb (fS b) 3 : Int)] 31)).alloc (.cells #[.int .u64 (limb yf 0 : Int), .int .u64 (limb yf 1 : Int), .int .u64 (limb yf 2 : Int), .int .u64 (limb yf 3 : Int)] 29)) = v := ⟨_, rfl⟩
  have hG9 : Below w.heap.size w v1 := by rw [← hv9]; go_grown
  have X_F : Blk v1 (w.heap.size) 31 [.int .i64 (fID b), .int .u64 (limb (fP b) 0 : Int), .int .u64 (limb (fP b) 1 : Int), .int .u64 (limb (fP b) 2 : Int), .int .u64 (limb (fP b) 3 : Int), .int .u64 (fI b : Int), .int .u64 (limb (fO b) 0 : Int), .int .u64 (limb (fO b) 1 : Int), .int .u64 (limb (fO b) 2 : Int), .int .u64 (limb (fO b) 3 : Int), .int .u64 (limb (fS b) 0 : Int), .int .u64 (limb (fS b) 1 : Int), .int .u64 (limb (fS b) 2 : Int), .int .u64 (limb (fS b) 3 : Int)] := by rw [← hv9]; exact Blk.alloc (Blk.new rfl) _
  have X_Y : Blk v1 (w.heap.size + 1) 29 [.int .u64 (limb yf 0 : Int), .int .u64 (limb yf 1 : Int), .int .u64 (limb yf 2 : Int), .int .u64 (limb yf 3 : Int)] := by rw [← hv9]; exact Blk.new (by simp)
  obtain ⟨bF, hb9⟩ : ∃ k, w.heap.size = k := ⟨_, rfl⟩
  rw [hb9] at X_F
  rw [hb9] at X_Y
  have g_bF : w.heap.size ≤ bF := by rw [← hb9]; exact BW.out.size
  replace BW := hid (BW.out.trans (hG9.mono BW.out.size))
  clear hG9
  rw [hv9]
  try rw [hb9]
  clear hv9 hb9
  refine (VC.out _ (HS.out.below BW.out)).mono ?_
  rintro e v2 ⟨vv, rfl, hn9, b9⟩
  obtain ⟨va, vc, rfl, _, _⟩ := id hn9
  have N_v := hid hn9
  rw [HVL.out] at N_v ⊢
  clear hn9
  replace X_F := X_F.keep b9
  replace X_Y := X_Y.keep b9
  replace BW := hid (BW.out.trans (b9.mono BW.out.size))
  clear b9
  go_upto_region 6 with (fail)
  obtain ⟨d0, d1, d2, d3⟩ := HD.out
  have hg := HHG.out
  have gB := BW.out.size
  have d0 := (BW.out.cell (p := ⟨g, off + 0 * 4, none⟩) hg).trans d0
  have d1 := (BW.out.cell (p := ⟨g, off + 0 * 4 + 1, none⟩) hg).trans d1
  have d2 := (BW.out.cell (p := ⟨g, off + 0 * 4 + 2, none⟩) hg).trans d2
  have d3 := (BW.out.cell (p := ⟨g, off + 0 * 4 + 3, none⟩) hg).trans d3
  replace hg : g < v2.heap.size := Nat.lt_of_lt_of_le hg gB
  clear gB
  simp only [Nat.zero_mul, Nat.add_zero] at d0 d1 d2 d3
  have z_F := X_F.lt
  have c_F0 := X_F.cell (i := 0) rfl
  have c_F1 := X_F.cell (i := 1) rfl
  have c_F2 := X_F.cell (i := 2) rfl
  have c_F3 := X_F.cell (i := 3) rfl
  have c_F4 := X_F.cell (i := 4) rfl
  have c_F5 := X_F.cell (i := 5) rfl
  have c_F6 := X_F.cell (i := 6) rfl
  have c_F7 := X_F.cell (i := 7) rfl
  have c_F8 := X_F.cell (i := 8) rfl
  have c_F9 := X_F.cell (i := 9) rfl
  have c_F10 := X_F.cell (i := 10) rfl
  have c_F11 := X_F.cell (i := 11) rfl
  have c_F12 := X_F.cell (i := 12) rfl
  have c_F13 := X_F.cell (i := 13) rfl
  have z_Y := X_Y.lt
  have c_Y0 := X_Y.cell (i := 0) rfl
  have c_Y1 := X_Y.cell (i := 1) rfl
  have c_Y2 := X_Y.cell (i := 2) rfl
  have c_Y3 := X_Y.cell (i := 3) rfl
  go_wp2_with fail
  go_region_held3 (fun w' => ∀ b o, b < v2.heap.size → w'.cell? ⟨b, o, none⟩ = v2.cell? ⟨b, o, none⟩) ((intro b o h; first | with_reducible exact c3 b o h | with_reducible exact c2 b o h | with_reducible exact c1 b o h | with_reducible exact cell_drew | with_reducible exact cell_drew.trans (cell_alloc h) | (with_reducible refine (cell_alloc (by (try simp); omega)).trans ?_; first | with_reducible exact c3 b o h | with_reducible exact c2 b o h | with_reducible exact c1 b o h | with_reducible exact cell_drew) | with_reducible exact (below_set4 H3.out (by omega) _ _ _ _).cell (p := ⟨b, o, none⟩) h | with_reducible exact (below_set4 H2.out (by omega) _ _ _ _).cell (p := ⟨b, o, none⟩) h | with_reducible exact (below_set4 H1.out (by omega) _ _ _ _).cell (p := ⟨b, o, none⟩) h)) (first | (go_at_call 79; refine (ADC.out _ _ _ ((HU.out.below BW.out).below H2.out) hs9.out).mono ?_; rintro e ra3 ⟨vr, rfl, ho9, b9⟩; have H3 : Hid (Below v2.heap.size v2 ra3) := hid H2.out.trans (b9.mono H2.out.size); have ho9 := hid (owns_mono ho9 (show w.heap.size ≤ _ by have := H2.out.size; have := BW.out.size; omega)); clear b9; have c3 := bcell H3.out; have z3 := H3.out.size) | (go_at_call 80; refine (SCC.out _ _ (N_v.out.below H1.out)).mono ?_; rintro e ra2 ⟨vs2, rfl, hs9, b9⟩; have H2 : Hid (Below v2.heap.size v2 ra2) := hid H1.out.trans (b9.mono H1.out.size); have hs9 := hid hs9; clear b9; have c2 := bcell H2.out; have z2 := H2.out.size) | (go_at_call 81; refine (SBC.out _).mono ?_; rintro e ra1 ⟨rfl, b9⟩; have H1 : Hid (Below v2.heap.size v2 ra1) := hid (Below.drew (Below.refl _ v2)).trans b9; clear b9; have c1 := bcell H1.out; have z1 := H1.out.size))
  have hH9 := H3.out
  clear z_F c_F0 c_F1 c_F2 c_F3 c_F4 c_F5 c_F6 c_F7 c_F8 c_F9 c_F10 c_F11 c_F12 c_F13 z_Y c_Y0 c_Y1 c_Y2 c_Y3
  replace X_F := X_F.keep hH9
  replace X_Y := X_Y.keep hH9
  replace N_v := hid (N_v.out.below hH9)
  replace BW := hid (BW.out.trans (hH9.mono BW.out.size))
  clear hH9
  clear H1 c1 z1 H2 c2 z2 H3 c3 z3
  clear d0 d1 d2 d3
  have hbw := BW.out.size
  go_wp2
  refine bodyPost_ret (by simp only [results, Tryd.results40]; go_simp; try rfl) rfl ?_
  exact ⟨_, rfl, ho9.out, BW.out⟩
end Go.Proofs.YtogenbggjodcnaaDoor
