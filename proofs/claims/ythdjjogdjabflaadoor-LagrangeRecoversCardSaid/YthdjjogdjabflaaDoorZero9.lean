/-
  Zero: the coefficients of the values at the points for the value at zero.
-/
import Derived.Test.YthdjjogdjabflaaDoorMas9
import Derived.Test.YthdjjogdjabflaaDoorEval08
import Derived.Deep.RegionHeld3
namespace Go.Proofs.YthdjjogdjabflaaDoor
open Go.RowKit

attribute [local go_sem] Oper.semAt_some
/-- A slice of numbers in memory that the call has made. -/
def NewQ (u w : World) (v : Value) (xs : List Nat) : Prop := NumSl w v xs ∧ ∀ a n c, v = .slice a n c → ∀ ad, a = some ad → u.heap.size ≤ ad.block
theorem NewQ.own {t : TypeId} {n : Nat} {zs : List Nat} {u w : World} {v : Value} (h : w.ownsRow u.heap.size t 4 v n (nums zs)) (hn : zs.length = n) (hz : ∀ z ∈ zs, z < B256) : NewQ u w v zs := by
  obtain ⟨a, c, rfl, _, hb, _⟩ := owns_form h
  refine ⟨nums_own (by rw [hn]; exact h) hz, fun a' n' c' e ad he => ?_⟩
  cases e
  obtain ⟨g, rfl, hg, _⟩ := hb ad he
  exact hg
theorem NewQ.set4 {u w : World} {v : Value} {xs : List Nat} (h : NewQ u w v xs) {c : Nat} (hc : c < u.heap.size) (v0 v1 v2 v3 : Value) : NumSl ((((w.setCell ⟨c, 0, none⟩ v0).setCell ⟨c, 1, none⟩ v1).setCell ⟨c, 2, none⟩ v2).setCell ⟨c, 3, none⟩ v3) v xs := by
  obtain ⟨⟨a, cap, rfl, hl, hr⟩, h2⟩ := h
  exact NumSl.only ⟨a, cap, rfl, hl, hr⟩ (only_set4 w c v0 v1 v2 v3) (fun ad e k => by have := h2 _ _ _ rfl ad e; omega)
theorem NewQ.alloc {u w : World} {v : Value} {xs : List Nat} (h : NewQ u w v xs) (o : Obj) : NumSl (w.alloc o) v xs := h.1.below ((Below.refl _ _).alloc (Nat.le_refl _) _)
/-- A slice of numbers in memory from N on. -/
def NewB (N : Nat) (w : World) (v : Value) (xs : List Nat) : Prop := NumSl w v xs ∧ ∀ a n c, v = .slice a n c → ∀ ad, a = some ad → N ≤ ad.block
theorem NewQ.set4b {N : Nat} {u w : World} {v : Value} {xs : List Nat} (h : NewQ u w v xs) (hn : N ≤ u.heap.size) {c : Nat} (hc : c < u.heap.size) (v0 v1 v2 v3 : Value) : NewB N ((((w.setCell ⟨c, 0, none⟩ v0).setCell ⟨c, 1, none⟩ v1).setCell ⟨c, 2, none⟩ v2).setCell ⟨c, 3, none⟩ v3) v xs :=
  ⟨h.set4 hc v0 v1 v2 v3, fun a n c e ad he => Nat.le_trans hn (h.2 a n c e ad he)⟩
theorem NewQ.allocb {N : Nat} {u w : World} {v : Value} {xs : List Nat} (h : NewQ u w v xs) (hn : N ≤ u.heap.size) (o : Obj) : NewB N (w.alloc o) v xs := ⟨h.alloc o, fun a n c e ad he => Nat.le_trans hn (h.2 a n c e ad he)⟩
def RetQ9 (r : Nat) (qs : List Nat) (w : World) : Ending → World → Prop := fun e w' => ∃ q, e = .returned (.tuple #[q, vec r]) ∧ NewQ w w' q qs ∧ Below w.heap.size w w'
/-- The master's quotient by a point. -/
theorem quo9 (b : Bool) (ns : List Nat) (i : Nat) (hx : ∀ y ∈ ns, y < fP b) (hi : i < ns.length) (hl : ns.length < 100000) (v : Value) (W : World) (hS : NumSl W v ((flV (fP b) [1] ns).map (frm (fP b)))) :
    Calls Tryd.prog 44 #[.pointer none, FV b, v, vec (frm (fP b) (ns.getD i 0))] W (RetQ9 (frm (fP b) (evm (fP b) (ns.getD i 0) (flV (fP b) [1] ns))) ((flV (fP b) [1] (oth ns i)).map (frm (fP b))) W) := by
  have hp := fP_two b
  have hlen : (flV (fP b) [1] ns).length = ns.length + 1 := by rw [flV_len (by omega) _ (by simp)]; simp; omega
  refine (quotient_any (fID b) (fP b) (fI b) (fO b) (fS b) (frm (fP b) (ns.getD i 0)) v ((flV (fP b) [1] ns).map (frm (fP b))) W (hid (fOK b)) (hid (frm_lt _ (by omega))) hS (forms9 b _) (by rw [List.length_map, hlen]; omega)).mono fun e w' h => ?_
  obtain ⟨q, he, ho, hb⟩ := h
  have e1 : quo (fP b) (frm (fP b) (ns.getD i 0)) ((flV (fP b) [1] ns).map (frm (fP b))) = ((flV (fP b) [1] (oth ns i)).map (frm (fP b))) := by rw [quo_forms (fP_inv b), quo_point (by omega) hx hi]
  rw [e1] at ho
  refine ⟨q, by rw [he, horP_forms (fP_inv b)], NewQ.own ho ?_ (small9 (forms9 b _)), hb⟩
  rw [← e1, quo_len]
theorem put_over {f g : Nat → Nat} {k r n : Nat} (h : f k = r) : ∀ t, t < n → (fun u => if u < k + 1 then f u else g u) t = (fun u => if u = k then r else (if u < k then f u else g u)) t := fun t _ => by
  by_cases e : t = k
  · subst e; simp [h]
  · by_cases l : t < k
    · have : t < k + 1 := by omega
      simp [e, l, this]
    · have : ¬ t < k + 1 := by omega
      simp [e, l, this]
/-- All coefficients. -/
noncomputable def zcs (p : Nat) (xs : List Nat) : List Nat := (List.range xs.length).map (zco p xs)
theorem zcs_len (p : Nat) (xs : List Nat) : (zcs p xs).length = xs.length := by simp [zcs]
theorem zcs_at {p : Nat} {xs : List Nat} {i : Nat} (h : i < xs.length) : (zcs p xs)[i]? = some (zco p xs i) := by unfold zcs; rw [List.getElem?_map, List.getElem?_range h]; rfl
set_option maxRecDepth 100000 in
set_option maxHeartbeats 2000000 in
theorem zero_bad (b : Bool) (v : Value) (xs : List Int) (w : World) (hS : IntSl w v xs) (hl : xs.length < 1000000) (hc : chkx xs ≠ 0) :
    Calls Tryd.prog 14 #[.pointer none, FV b, v] w (Ret (.tuple #[.slice none 0 0, .int .i64 (chkx xs)]) w) := by
  have BW := hid (Below.refl w.heap.size w)
  have HS := hid hS
  have CK := hid (fun (W : World) (h : IntSl W v xs) => weights_bad b v xs W h hl hc)
  obtain ⟨c, hc9⟩ : ∃ c, chkx xs = c := ⟨_, rfl⟩
  rw [hc9] at hc CK ⊢
  clear hc9
  have hd : (c != 0) = true := by simp [hc]
  go_enter Tryd.func14, Tryd.ntmps14
  go_wp2_with fail
  obtain ⟨v1, hv9⟩ : ∃ v, (w.alloc (.cells #[.int .i64 (fID b), .int .u64 (limb (fP b) 0 : Int), .int .u64 (limb (fP b) 1 : Int), .int .u64 (limb (fP b) 2 : Int), .int .u64 (limb (fP b) 3 : Int), .int .u64 (fI b : Int), .int .u64 (limb (fO b) 0 : Int), .int .u64 (limb (fO b) 1 : Int), .int .u64 (limb (fO b) 2 : Int), .int .u64 (limb (fO b) 3 : Int), .int .u64 (limb (fS b) 0 : Int), .int .u64 (limb (fS b) 1 : Int), .int .u64 (limb (fS b) 2 : Int), .int .u64 (limb (fS b) 3 : Int)] 32)) = v := ⟨_, rfl⟩
  have hG9 : Below w.heap.size w v1 := by rw [← hv9]; go_grown
  have X_F : Blk v1 (w.heap.size) 32 [.int .i64 (fID b), .int .u64 (limb (fP b) 0 : Int), .int .u64 (limb (fP b) 1 : Int), .int .u64 (limb (fP b) 2 : Int), .int .u64 (limb (fP b) 3 : Int), .int .u64 (fI b : Int), .int .u64 (limb (fO b) 0 : Int), .int .u64 (limb (fO b) 1 : Int), .int .u64 (limb (fO b) 2 : Int), .int .u64 (limb (fO b) 3 : Int), .int .u64 (limb (fS b) 0 : Int), .int .u64 (limb (fS b) 1 : Int), .int .u64 (limb (fS b) 2 : Int), .int .u64 (limb (fS b) 3 : Int)] := by rw [← hv9]; exact Blk.new rfl
  obtain ⟨bF, hb9⟩ : ∃ k, w.heap.size = k := ⟨_, rfl⟩
  rw [hb9] at X_F
  have g_bF : w.heap.size ≤ bF := by rw [← hb9]; exact BW.out.size
  replace BW := hid (BW.out.trans (hG9.mono BW.out.size))
  clear hG9
  rw [hv9]
  try rw [hb9]
  clear hv9 hb9
  refine (CK.out _ (HS.out.below BW.out)).mono ?_
  rintro e v2 ⟨rfl, b9⟩
  replace X_F := X_F.keep b9
  replace BW := hid (BW.out.trans (b9.mono BW.out.size))
  clear b9
  go_wp2
  refine bodyPost_ret (by simp only [results, Tryd.results14]; go_simp; try rfl) rfl ?_
  exact ⟨rfl, BW.out⟩
set_option maxRecDepth 100000 in
set_option maxHeartbeats 4000000 in
theorem zero_ok (b : Bool) (v : Value) (xs : List Int) (w : World) (hS : IntSl w v xs) (hl : xs.length < 10000) (hc : chkx xs = 0) :
    Calls Tryd.prog 14 #[.pointer none, FV b, v] w (RetE 30 ((zcs (fP b) (pts xs)).map (frm (fP b))) 0 w) := by
  have BW := hid (Below.refl w.heap.size w)
  have HS := hid hS
  have WTC := hid (fun (W : World) (h : IntSl W v xs) => weights_ok b v xs W h (by omega) hc)
  obtain ⟨hall, hnd⟩ := chkx_zero hc
  have PT := hid (fun (W : World) (h : IntSl W v xs) => points_any b v xs W h (hid hall) (by omega))
  have hlen := pts_len xs
  obtain ⟨ns, hns⟩ : ∃ ns, pts xs = ns := ⟨_, rfl⟩
  have hlt := pts_lt hall (show 255 < fP b by cases b <;> decide)
  rw [hns] at hlen PT hlt WTC ⊢
  obtain ⟨n, hn⟩ : ∃ n, xs.length = n := ⟨_, rfl⟩
  rw [hn] at hlen hl PT
  have HL := hid hlen
  have HLT := hid hlt
  have HIN := hid hn
  clear hns hnd hall hc
  have MAC := hid (fun (W : World) (v : Value) (h : NumSl W v (ns.map (frm (fP b)))) => master_any b v ns W h HLT.out (by rw [HL.out]; omega))
  rw [HL.out] at MAC
  have HML : Hid (((flV (fP b) [1] ns).map (frm (fP b))).length = n + 1) := hid (by have := fP_two b; rw [List.length_map, flV_len (by omega) _ (by simp), HL.out]; simp; omega)
  have HMB := hid (small9 (forms9 b (flV (fP b) [1] ns)))
  clear hn hlen hlt
  unfold RetE
  rw [List.length_map, zcs_len, HL.out]
  by_cases h0 : 0 < n
  · skip
    go_enter Tryd.func14, Tryd.ntmps14
    go_wp2_with fail
    obtain ⟨v1, hv9⟩ : ∃ v, (w.alloc (.cells #[.int .i64 (fID b), .int .u64 (limb (fP b) 0 : Int), .int .u64 (limb (fP b) 1 : Int), .int .u64 (limb (fP b) 2 : Int), .int .u64 (limb (fP b) 3 : Int), .int .u64 (fI b : Int), .int .u64 (limb (fO b) 0 : Int), .int .u64 (limb (fO b) 1 : Int), .int .u64 (limb (fO b) 2 : Int), .int .u64 (limb (fO b) 3 : Int), .int .u64 (limb (fS b) 0 : Int), .int .u64 (limb (fS b) 1 : Int), .int .u64 (limb (fS b) 2 : Int), .int .u64 (limb (fS b) 3 : Int)] 32)) = v := ⟨_, rfl⟩
    have hG9 : Below w.heap.size w v1 := by rw [← hv9]; go_grown
    have X_F : Blk v1 (w.heap.size) 32 [.int .i64 (fID b), .int .u64 (limb (fP b) 0 : Int), .int .u64 (limb (fP b) 1 : Int), .int .u64 (limb (fP b) 2 : Int), .int .u64 (limb (fP b) 3 : Int), .int .u64 (fI b : Int), .int .u64 (limb (fO b) 0 : Int), .int .u64 (limb (fO b) 1 : Int), .int .u64 (limb (fO b) 2 : Int), .int .u64 (limb (fO b) 3 : Int), .int .u64 (limb (fS b) 0 : Int), .int .u64 (limb (fS b) 1 : Int), .int .u64 (limb (fS b) 2 : Int), .int .u64 (limb (fS b) 3 : Int)] := by rw [← hv9]; exact Blk.new rfl
    obtain ⟨bF, hb9⟩ : ∃ k, w.heap.size = k := ⟨_, rfl⟩
    rw [hb9] at X_F
    have g_bF : w.heap.size ≤ bF := by rw [← hb9]; exact BW.out.size
    replace BW := hid (BW.out.trans (hG9.mono BW.out.size))
    clear hG9
    rw [hv9]
    try rw [hb9]
    clear hv9 hb9
    refine (WTC.out _ (HS.out.below BW.out)).mono ?_
    rintro e v2 ⟨vw, rfl, ho, b9⟩
    rw [List.length_map, wgs_len, HL.out] at ho
    obtain ⟨gw, cw, rfl, hR9⟩ := RowF.of ho (by rw [List.length_map, wgs_len, HL.out]) h0
    clear ho
    have lt9 := hR9.ge
    have q_F_gw : bF < gw := Nat.lt_of_lt_of_le X_F.lt lt9
    have z0_gw : w.heap.size ≤ gw := Nat.le_trans BW.out.size lt9
    have R_w := hid (hR9.mono BW.out.size)
    clear hR9 lt9
    replace X_F := X_F.keep b9
    replace BW := hid (BW.out.trans (b9.mono BW.out.size))
    clear b9
    have z_F := X_F.lt
    have c_F0 := X_F.cell (i := 0) rfl
    have c_F1 := X_F.cell (i := 1) rfl
    have c_F2 := X_F.cell (i := 2) rfl
    have c_F3 := X_F.cell (i := 3) rfl
    have c_F4 := X_F.cell (i := 4) rfl
    have c_F5 := X_F.cell (i := 5) rfl
    have c_F6 := X_F.cell (i := 6) rfl
    have c_F7 := X_F.cell (i := 7) rfl
    have c_F8 := X_F.cell (i := 8) rfl
    have c_F9 := X_F.cell (i := 9) rfl
    have c_F10 := X_F.cell (i := 10) rfl
    have c_F11 := X_F.cell (i := 11) rfl
    have c_F12 := X_F.cell (i := 12) rfl
    have c_F13 := X_F.cell (i := 13) rfl
    go_wp2_with fail
    refine (PT.out _ (HS.out.below BW.out)).mono ?_
    rintro e v3 ⟨gx, rfl, hR9, b9⟩
    have lt9 := hR9.ge
    have q_F_gx : bF < gx := Nat.lt_of_lt_of_le X_F.lt lt9
    have q_w_gx : gw < gx := Nat.lt_of_lt_of_le R_w.out.lt lt9
    have z0_gx : w.heap.size ≤ gx := Nat.le_trans BW.out.size lt9
    have R_x := hid (hR9.mono BW.out.size)
    clear hR9 lt9
    clear z_F c_F0 c_F1 c_F2 c_F3 c_F4 c_F5 c_F6 c_F7 c_F8 c_F9 c_F10 c_F11 c_F12 c_F13
    replace R_w := hid (R_w.out.keep b9)
    replace X_F := X_F.keep b9
    replace BW := hid (BW.out.trans (b9.mono BW.out.size))
    clear b9
    have z_F := X_F.lt
    have c_F0 := X_F.cell (i := 0) rfl
    have c_F1 := X_F.cell (i := 1) rfl
    have c_F2 := X_F.cell (i := 2) rfl
    have c_F3 := X_F.cell (i := 3) rfl
    have c_F4 := X_F.cell (i := 4) rfl
    have c_F5 := X_F.cell (i := 5) rfl
    have c_F6 := X_F.cell (i := 6) rfl
    have c_F7 := X_F.cell (i := 7) rfl
    have c_F8 := X_F.cell (i := 8) rfl
    have c_F9 := X_F.cell (i := 9) rfl
    have c_F10 := X_F.cell (i := 10) rfl
    have c_F11 := X_F.cell (i := 11) rfl
    have c_F12 := X_F.cell (i := 12) rfl
    have c_F13 := X_F.cell (i := 13) rfl
    go_wp2_with fail
    refine (MAC.out _ _ (R_x.out.sl (xs := ns.map (frm (fP b))) (by rw [List.length_map, HL.out]) (fun i _ => (getD_frm _ _ _).symm) (small9 (forms9 b ns)))).mono ?_
    rintro e v4 ⟨gm, cm, rfl, hR9, b9⟩
    have lt9 := hR9.ge
    have q_F_gm : bF < gm := Nat.lt_of_lt_of_le X_F.lt lt9
    have q_w_gm : gw < gm := Nat.lt_of_lt_of_le R_w.out.lt lt9
    have q_x_gm : gx < gm := Nat.lt_of_lt_of_le R_x.out.lt lt9
    have z0_gm : w.heap.size ≤ gm := Nat.le_trans BW.out.size lt9
    have R_m := hid (hR9.mono BW.out.size)
    clear hR9 lt9
    clear z_F c_F0 c_F1 c_F2 c_F3 c_F4 c_F5 c_F6 c_F7 c_F8 c_F9 c_F10 c_F11 c_F12 c_F13
    replace R_w := hid (R_w.out.keep b9)
    replace R_x := hid (R_x.out.keep b9)
    replace X_F := X_F.keep b9
    replace BW := hid (BW.out.trans (b9.mono BW.out.size))
    clear b9
    go_wp2
    go_loopw [33] (fun ix wr => ∃ i : Nat, i ≤ n ∧ ix = .int .i64 (i : Int) ∧ Blk wr (bF) 32 [.int .i64 (fID b), .int .u64 (limb (fP b) 0 : Int), .int .u64 (limb (fP b) 1 : Int), .int .u64 (limb (fP b) 2 : Int), .int .u64 (limb (fP b) 3 : Int), .int .u64 (fI b : Int), .int .u64 (limb (fO b) 0 : Int), .int .u64 (limb (fO b) 1 : Int), .int .u64 (limb (fO b) 2 : Int), .int .u64 (limb (fO b) 3 : Int), .int .u64 (limb (fS b) 0 : Int), .int .u64 (limb (fS b) 1 : Int), .int .u64 (limb (fS b) 2 : Int), .int .u64 (limb (fS b) 3 : Int)] ∧ RowF wr w.heap.size 30 gw n cw (fun t => if t < i then frm (fP b) (zco (fP b) ns t) else ((wgs (fP b) ns).map (frm (fP b))).getD t 0) ∧ RowF wr w.heap.size 30 gx n n (fun t => frm (fP b) (ns.getD t 0)) ∧ RowF wr w.heap.size 30 gm (n + 1) cm (fun i => ((flV (fP b) [1] ns).map (frm (fP b))).getD i 0) ∧ Below w.heap.size w wr) (fun ix _ => n - (intOf ix).toNat)
    case atStart => exact ⟨0, Nat.zero_le _, rfl, X_F, (R_w.out.congr (fun t _ => by simp)), R_x.out, R_m.out, BW.out⟩
    case round =>
      clear X_F R_w R_x R_m BW
      obtain ⟨i, hk_i, rfl, X_F, r9_w, r9_x, r9_m, b9⟩ := hrel
      obtain ⟨v5, hv9⟩ : ∃ v, v = wr := ⟨_, rfl⟩
      subst hv9
      have R_w := hid r9_w
      clear r9_w
      have R_x := hid r9_x
      clear r9_x
      have R_m := hid r9_m
      clear r9_m
      have BW := hid b9
      clear b9
      by_cases hi : i < n
      · skip
        have hi0 : (0 : Int) ≤ (i : Int) := by omega
        have hin : (i : Int) < (n : Int) := by omega
        have hp2 := fP_two b
        have QC := hid (fun (W : World) (v : Value) (h : NumSl W v ((flV (fP b) [1] ns).map (frm (fP b)))) => quo9 b ns i HLT.out (by rw [HL.out]; exact hi) (by rw [HL.out]; omega) v W h)
        obtain ⟨rz, hrz⟩ : ∃ z, frm (fP b) (evm (fP b) (ns.getD i 0) (flV (fP b) [1] ns)) = z := ⟨_, rfl⟩
        rw [hrz] at QC
        clear hrz
        obtain ⟨xi, hxi⟩ : ∃ z, frm (fP b) (ns.getD i 0) = z := ⟨_, rfl⟩
        rw [hxi] at QC
        have HXi := hid hxi
        clear hxi
        have EZ := hid (zco_eq (p := fP b) (by omega) HLT.out i)
        obtain ⟨q0, hq0⟩ : ∃ z, (flV (fP b) [1] (oth ns i)).getD 0 0 = z := ⟨_, rfl⟩
        have HQ0 : Hid (((flV (fP b) [1] (oth ns i)).map (frm (fP b)))[0]? = some (frm (fP b) q0)) := hid (by rw [List.getElem?_map, ← hq0, List.getD_eq_getElem?_getD, List.getElem?_eq_getElem (by rw [flV_len (by omega) _ (by simp)]; simp; omega)]; rfl)
        rw [hq0] at EZ
        clear hq0
        have EM := frm_mulm (fP_inv b) (wgt (fP b) ns i) q0
        rw [EZ.out] at EM
        have MM := hid (fun W : World => mmul_any (fID b) (fP b) (fI b) (fO b) (fS b) (frm (fP b) (wgt (fP b) ns i)) (frm (fP b) q0) (fOK b) (Nat.lt_trans (frm_lt _ (by omega)) (fP_lt b)) (Nat.lt_trans (frm_lt _ (by omega)) (fP_lt b)) (Nat.mul_lt_mul_of_lt_of_lt (Nat.lt_trans (frm_lt _ (by omega)) (fP_lt b)) (frm_lt _ (by omega))) W)
        rw [EM] at MM
        clear EM EZ
        have hwi : ((wgs (fP b) ns).map (frm (fP b))).getD i 0 = frm (fP b) (wgt (fP b) ns i) := map_at _ (wgs_at (by rw [HL.out]; exact hi))
        obtain ⟨wi, hwi9⟩ : ∃ z, frm (fP b) (wgt (fP b) ns i) = z := ⟨_, rfl⟩
        rw [hwi9] at MM hwi
        have HWI := hid hwi
        obtain ⟨qz, hqz⟩ : ∃ z, frm (fP b) q0 = z := ⟨_, rfl⟩
        rw [hqz] at MM HQ0
        obtain ⟨zi, hzi⟩ : ∃ z, frm (fP b) (zco (fP b) ns i) = z := ⟨_, rfl⟩
        rw [hzi] at MM
        have HZI := hid hzi
        clear hwi hwi9 hqz hzi
        have z_F := X_F.lt
        have c_F0 := X_F.cell (i := 0) rfl
        have c_F1 := X_F.cell (i := 1) rfl
        have c_F2 := X_F.cell (i := 2) rfl
        have c_F3 := X_F.cell (i := 3) rfl
        have c_F4 := X_F.cell (i := 4) rfl
        have c_F5 := X_F.cell (i := 5) rfl
        have c_F6 := X_F.cell (i := 6) rfl
        have c_F7 := X_F.cell (i := 7) rfl
        have c_F8 := X_F.cell (i := 8) rfl
        have c_F9 := X_F.cell (i := 9) rfl
        have c_F10 := X_F.cell (i := 10) rfl
        have c_F11 := X_F.cell (i := 11) rfl
        have c_F12 := X_F.cell (i := 12) rfl
        have c_F13 := X_F.cell (i := 13) rfl
        obtain ⟨p0, p1, p2, p3⟩ := R_x.out.cells (i := i) (v := xi) hi HXi.out
        have zp := R_x.out.lt
        go_upto_region 10 with (go_at_call 39; refine (note_nil _ _ _ _).mono ?_; rintro e w' ⟨rfl, rfl⟩)
        have N_m := hid (R_m.out.sl (xs := ((flV (fP b) [1] ns).map (frm (fP b)))) HML.out (fun _ _ => rfl) HMB.out)
        go_cut [13] (fun q wx => NewB v5.heap.size wx q ((flV (fP b) [1] (oth ns i)).map (frm (fP b))) ∧ Below v5.heap.size v5 wx)
        case first =>
          go_region_held3 (fun w' => ∀ b o, b < v5.heap.size → w'.cell? ⟨b, o, none⟩ = v5.cell? ⟨b, o, none⟩) ((intro b o h; first | with_reducible exact c1 b o h | with_reducible exact cell_drew | with_reducible exact cell_drew.trans (cell_alloc h) | (with_reducible refine (cell_alloc (by (try simp); omega)).trans ?_; first | with_reducible exact c1 b o h | with_reducible exact cell_drew) | with_reducible exact (below_set4 H1.out (by omega) _ _ _ _).cell (p := ⟨b, o, none⟩) h)) (first | (go_at_call 44; refine (QC.out _ _ (NumSl.below N_m.out (by first | with_reducible exact Below.drew (Below.refl _ _) | with_reducible exact Below.drew ((Below.refl _ _).alloc (Nat.le_refl _) _)))).mono ?_; rintro e ra1 ⟨vq, rfl, hq, b9⟩; have H1 : Hid (Below v5.heap.size v5 ra1) := hid (by first | exact (Below.drew (Below.refl _ v5)).trans b9 | exact ((Below.drew (Below.refl _ v5)).alloc (Nat.le_refl _) _).trans (b9.mono (by simp)) | exact (Below.drew ((Below.refl _ v5).alloc (Nat.le_refl _) _)).trans (b9.mono (by simp))); have hq := hid hq; (try (have Z : Blk ra1 v5.heap.size 30 [.int .u64 0, .int .u64 0, .int .u64 0, .int .u64 0] := (by first | exact Blk.keep (Blk.drew (Blk.new rfl)) b9 | exact Blk.keep (Blk.new rfl) b9); have zz := Z.lt; have HZ := hid (hq.out.set4b (N := v5.heap.size) (by simp) (c := v5.heap.size) (by simp)); have y0 := Z.cell (i := 0) rfl; have yf0 := Z.frozen 0; have y1 := Z.cell (i := 1) rfl; have yf1 := Z.frozen 1; have y2 := Z.cell (i := 2) rfl; have yf2 := Z.frozen 2; have y3 := Z.cell (i := 3) rfl; have yf3 := Z.frozen 3)); clear b9; have c1 := bcell H1.out; have z1 := H1.out.size))
          all_goals (go_wp2_with (fail); go_meet)
          all_goals (refine ⟨?_, ?_⟩)
          all_goals (first | with_reducible exact HZ.out (.int .u64 (limb rz 0 : Int)) (.int .u64 (limb rz 1 : Int)) (.int .u64 (limb rz 2 : Int)) (.int .u64 (limb rz 3 : Int)) | with_reducible exact below_set4 H1.out (by omega) (.int .u64 (limb rz 0 : Int)) (.int .u64 (limb rz 1 : Int)) (.int .u64 (limb rz 2 : Int)) (.int .u64 (limb rz 3 : Int)) | with_reducible exact hq.out.allocb (by simp) _ | with_reducible exact H1.out.alloc H1.out.size _)
        case rest =>
          clear N_m
          obtain ⟨⟨hq, hqb⟩, hbel⟩ := hcut
          obtain ⟨wc1, hwc⟩ : ∃ v, wc = v := ⟨_, rfl⟩
          rw [hwc] at hq hbel ⊢
          have HQB := hid hqb
          clear hqb
          clear hwc
          clear z_F c_F0 c_F1 c_F2 c_F3 c_F4 c_F5 c_F6 c_F7 c_F8 c_F9 c_F10 c_F11 c_F12 c_F13 p0 p1 p2 p3 zp
          replace R_w := hid (R_w.out.keep hbel)
          replace R_x := hid (R_x.out.keep hbel)
          replace R_m := hid (R_m.out.keep hbel)
          replace X_F := X_F.keep hbel
          replace BW := hid (BW.out.trans (hbel.mono BW.out.size))
          clear hbel
          obtain ⟨aq, cq, rfl, hqc, hqr⟩ := id hq
          obtain ⟨nq, hnq⟩ : ∃ z, ((flV (fP b) [1] (oth ns i)).map (frm (fP b))).length = z := ⟨_, rfl⟩
          have hnq0 : 0 < nq := by rw [← hnq, List.length_map, flV_len (by omega) _ (by simp)]; simp; omega
          rw [hnq] at hq ⊢
          clear hqc hqr hnq
          obtain ⟨gq, oq, rfl, zq, q0, q1, q2, q3⟩ := hq.at4 HQ0.out
          rw [Nat.zero_mul, Nat.add_zero] at q0 q1 q2 q3
          have hqn : (0 : Int) < (nq : Int) := by omega
          have z_F := X_F.lt
          have c_F0 := X_F.cell (i := 0) rfl
          have c_F1 := X_F.cell (i := 1) rfl
          have c_F2 := X_F.cell (i := 2) rfl
          have c_F3 := X_F.cell (i := 3) rfl
          have c_F4 := X_F.cell (i := 4) rfl
          have c_F5 := X_F.cell (i := 5) rfl
          have c_F6 := X_F.cell (i := 6) rfl
          have c_F7 := X_F.cell (i := 7) rfl
          have c_F8 := X_F.cell (i := 8) rfl
          have c_F9 := X_F.cell (i := 9) rfl
          have c_F10 := X_F.cell (i := 10) rfl
          have c_F11 := X_F.cell (i := 11) rfl
          have c_F12 := X_F.cell (i := 12) rfl
          have c_F13 := X_F.cell (i := 13) rfl
          obtain ⟨d0, d1, d2, d3⟩ := R_w.out.cells (i := i) (v := wi) hi (by show (if i < i then _ else _) = _; rw [if_neg (Nat.lt_irrefl _)]; exact HWI.out)
          have zd := R_w.out.lt
          have fd0 := R_w.out.frozen (i * 4)
          have fd1 := R_w.out.frozen (i * 4 + 1)
          have fd2 := R_w.out.frozen (i * 4 + 2)
          have fd3 := R_w.out.frozen (i * 4 + 3)
          go_wp2_with fail
          refine wp_region_soft (C := fun W' => Below wc1.heap.size wc1 W') 12 (by kernel_rfl) (by kernel_rfl) ((Below.refl _ _).drew) ?_
          simp only [List.take_succ_cons, List.take_zero, List.drop_succ_cons, List.drop_zero]
          refine wpQuiet_step (fun K hK => ?_)
          rw [if_pos (by rfl)]
          refine ⟨.slice (some ⟨gw, 0, none⟩) n cw, fun W' hW => ?_, hK _ ?_⟩
          · go_simp
          clear hK K
          simp only [Act.put, List.setIfInBounds_toArray, List.set_cons_zero, List.set_cons_succ]
          refine wpQuiet_step (fun K hK => ?_)
          rw [if_pos (by rfl)]
          refine ⟨.int .i64 (i : Int), fun W' hW => ?_, hK _ ?_⟩
          · go_simp
          clear hK K
          simp only [Act.put, List.setIfInBounds_toArray, List.set_cons_zero, List.set_cons_succ]
          refine wpQuiet_step (fun K hK => ?_)
          rw [if_pos (by rfl)]
          refine ⟨FV b, fun W' hW => ?_, hK _ ?_⟩
          · have e_0 := (hW.cell (p := ⟨bF, 0, none⟩) z_F).trans c_F0
            have e_1 := (hW.cell (p := ⟨bF, 1, none⟩) z_F).trans c_F1
            have e_2 := (hW.cell (p := ⟨bF, 2, none⟩) z_F).trans c_F2
            have e_3 := (hW.cell (p := ⟨bF, 3, none⟩) z_F).trans c_F3
            have e_4 := (hW.cell (p := ⟨bF, 4, none⟩) z_F).trans c_F4
            have e_5 := (hW.cell (p := ⟨bF, 5, none⟩) z_F).trans c_F5
            have e_6 := (hW.cell (p := ⟨bF, 6, none⟩) z_F).trans c_F6
            have e_7 := (hW.cell (p := ⟨bF, 7, none⟩) z_F).trans c_F7
            have e_8 := (hW.cell (p := ⟨bF, 8, none⟩) z_F).trans c_F8
            have e_9 := (hW.cell (p := ⟨bF, 9, none⟩) z_F).trans c_F9
            have e_10 := (hW.cell (p := ⟨bF, 10, none⟩) z_F).trans c_F10
            have e_11 := (hW.cell (p := ⟨bF, 11, none⟩) z_F).trans c_F11
            have e_12 := (hW.cell (p := ⟨bF, 12, none⟩) z_F).trans c_F12
            have e_13 := (hW.cell (p := ⟨bF, 13, none⟩) z_F).trans c_F13
            go_simp
          clear hK K
          simp only [Act.put, List.setIfInBounds_toArray, List.set_cons_zero, List.set_cons_succ]
          refine wpQuiet_step (fun K hK => ?_)
          rw [if_pos (by rfl)]
          refine ⟨.slice (some ⟨gw, 0, none⟩) n cw, fun W' hW => ?_, hK _ ?_⟩
          · go_simp
          clear hK K
          simp only [Act.put, List.setIfInBounds_toArray, List.set_cons_zero, List.set_cons_succ]
          refine wpQuiet_step (fun K hK => ?_)
          rw [if_pos (by rfl)]
          refine ⟨.int .i64 (i : Int), fun W' hW => ?_, hK _ ?_⟩
          · go_simp
          clear hK K
          simp only [Act.put, List.setIfInBounds_toArray, List.set_cons_zero, List.set_cons_succ]
          refine wpQuiet_step (fun K hK => ?_)
          rw [if_pos (by rfl)]
          refine ⟨.pointer (some ⟨gw, i * 4, none⟩), fun W' hW => ?_, hK _ ?_⟩
          · go_simp
          clear hK K
          simp only [Act.put, List.setIfInBounds_toArray, List.set_cons_zero, List.set_cons_succ]
          refine wpQuiet_step (fun K hK => ?_)
          rw [if_pos (by rfl)]
          refine ⟨vec wi, fun W' hW => ?_, hK _ ?_⟩
          · have e_0 := (hW.cell (p := ⟨gw, i * 4, none⟩) zd).trans d0
            have e_1 := (hW.cell (p := ⟨gw, i * 4 + 1, none⟩) zd).trans d1
            have e_2 := (hW.cell (p := ⟨gw, i * 4 + 2, none⟩) zd).trans d2
            have e_3 := (hW.cell (p := ⟨gw, i * 4 + 3, none⟩) zd).trans d3
            go_simp
          clear hK K
          simp only [Act.put, List.setIfInBounds_toArray, List.set_cons_zero, List.set_cons_succ]
          refine wpQuiet_step (fun K hK => ?_)
          rw [if_pos (by rfl)]
          refine ⟨.slice (some ⟨gq, oq, none⟩) nq cq, fun W' hW => ?_, hK _ ?_⟩
          · go_simp
          clear hK K
          simp only [Act.put, List.setIfInBounds_toArray, List.set_cons_zero, List.set_cons_succ]
          refine wpQuiet_step (fun K hK => ?_)
          rw [if_pos (by rfl)]
          refine ⟨.pointer (some ⟨gq, oq, none⟩), fun W' hW => ?_, hK _ ?_⟩
          · go_simp
          clear hK K
          simp only [Act.put, List.setIfInBounds_toArray, List.set_cons_zero, List.set_cons_succ]
          refine wpQuiet_step (fun K hK => ?_)
          rw [if_pos (by rfl)]
          refine ⟨vec qz, fun W' hW => ?_, hK _ ?_⟩
          · have e_0 := (hW.cell (p := ⟨gq, oq, none⟩) zq).trans q0
            have e_1 := (hW.cell (p := ⟨gq, oq + 1, none⟩) zq).trans q1
            have e_2 := (hW.cell (p := ⟨gq, oq + 2, none⟩) zq).trans q2
            have e_3 := (hW.cell (p := ⟨gq, oq + 3, none⟩) zq).trans q3
            go_simp
          clear hK K
          simp only [Act.put, List.setIfInBounds_toArray, List.set_cons_zero, List.set_cons_succ]
          refine wpQuiet_step (fun K hK => ?_)
          rw [if_pos (by rfl)]
          refine ⟨vec zi, fun W' hW => ?_, hK _ ?_⟩
          · go_simp
            refine (MM.out _).mono ?_
            rintro e w' ⟨rfl, b⟩
            exact ⟨rfl, hW.trans (b.mono hW.size)⟩
          clear hK K
          simp only [Act.put, List.setIfInBounds_toArray, List.set_cons_zero, List.set_cons_succ]
          refine wpQuiet_step (fun K hK => ?_)
          rw [if_pos (by rfl)]
          refine ⟨.pointer (some ⟨gw, i * 4, none⟩), fun W' hW => ?_, hK _ ?_⟩
          · go_simp
          clear hK K
          simp only [Act.put, List.setIfInBounds_toArray, List.set_cons_zero, List.set_cons_succ]
          refine wpQuiet_nil ?_
          intro ws1 hW9
          clear z_F c_F0 c_F1 c_F2 c_F3 c_F4 c_F5 c_F6 c_F7 c_F8 c_F9 c_F10 c_F11 c_F12 c_F13 d0 d1 d2 d3 zd fd0 fd1 fd2 fd3 q0 q1 q2 q3 zq
          replace R_w := hid (R_w.out.keep hW9)
          replace R_x := hid (R_x.out.keep hW9)
          replace R_m := hid (R_m.out.keep hW9)
          replace X_F := X_F.keep hW9
          replace BW := hid (BW.out.trans (hW9.mono BW.out.size))
          clear hW9
          obtain ⟨d0, d1, d2, d3⟩ := R_w.out.cells (i := i) (v := wi) hi (by show (if i < i then _ else _) = _; rw [if_neg (Nat.lt_irrefl _)]; exact HWI.out)
          have zd := R_w.out.lt
          have fd0 := R_w.out.frozen (i * 4)
          have fd1 := R_w.out.frozen (i * 4 + 1)
          have fd2 := R_w.out.frozen (i * 4 + 2)
          have fd3 := R_w.out.frozen (i * 4 + 3)
          go_wp2
          obtain ⟨v6, hs9⟩ : ∃ q, ((((ws1.setCell ⟨gw, i * 4, none⟩ (.int .u64 (limb zi 0 : Int))).setCell ⟨gw, i * 4 + 1, none⟩ (.int .u64 (limb zi 1 : Int))).setCell ⟨gw, i * 4 + 2, none⟩ (.int .u64 (limb zi 2 : Int))).setCell ⟨gw, i * 4 + 3, none⟩ (.int .u64 (limb zi 3 : Int))) = q := ⟨_, rfl⟩
          have O9 : Only (fun k => k = gw) ws1 v6 := by rw [← hs9]; exact only_row _ _ _ _ _ _ _
          have S9 : RowF v6 w.heap.size 30 gw n cw (fun t => if t < (i + 1) then frm (fP b) (zco (fP b) ns t) else ((wgs (fP b) ns).map (frm (fP b))).getD t 0) := by rw [← hs9]; exact (R_w.out.store hi zi).congr (put_over (f := fun t => frm (fP b) (zco (fP b) ns t)) (g := fun t => ((wgs (fP b) ns).map (frm (fP b))).getD t 0) HZI.out)
          rw [hs9]
          clear hs9
          clear d0 d1 d2 d3 zd fd0 fd1 fd2 fd3
          replace X_F := X_F.only O9 (show ¬ (bF = gw) by omega)
          replace R_x := hid (R_x.out.other O9 (show ¬ (gx = gw) by omega))
          replace R_m := hid (R_m.out.other O9 (show ¬ (gm = gw) by omega))
          replace BW := hid (BW.out.trans (O9.below (fun k h => by cases h; exact z0_gw) BW.out.size))
          replace R_w := hid S9
          clear O9 S9
          go_roundw
          case rel => exact ⟨i + 1, by omega, by go_num, X_F, R_w.out, R_x.out, R_m.out, BW.out⟩
          case measure => simp [intOf]; omega
      · skip
        obtain rfl : n = i := by omega
        clear hi
        go_wp2
        refine bodyPost_ret (by simp only [results, Tryd.results14]; go_simp; try rfl) rfl ?_
        exact ⟨_, rfl, R_w.out.ownl (by rw [List.length_map, zcs_len, HL.out]) (fun i h => by rw [map_at (frm (fP b)) (zcs_at (show i < ns.length by rw [HL.out]; exact h))]; simp [h]), BW.out⟩
  · skip
    have H00 : Hid (n = 0) := hid (by omega)
    clear h0
    go_enter Tryd.func14, Tryd.ntmps14
    go_wp2_with fail
    obtain ⟨v1, hv9⟩ : ∃ v, (w.alloc (.cells #[.int .i64 (fID b), .int .u64 (limb (fP b) 0 : Int), .int .u64 (limb (fP b) 1 : Int), .int .u64 (limb (fP b) 2 : Int), .int .u64 (limb (fP b) 3 : Int), .int .u64 (fI b : Int), .int .u64 (limb (fO b) 0 : Int), .int .u64 (limb (fO b) 1 : Int), .int .u64 (limb (fO b) 2 : Int), .int .u64 (limb (fO b) 3 : Int), .int .u64 (limb (fS b) 0 : Int), .int .u64 (limb (fS b) 1 : Int), .int .u64 (limb (fS b) 2 : Int), .int .u64 (limb (fS b) 3 : Int)] 32)) = v := ⟨_, rfl⟩
    have hG9 : Below w.heap.size w v1 := by rw [← hv9]; go_grown
    have X_F : Blk v1 (w.heap.size) 32 [.int .i64 (fID b), .int .u64 (limb (fP b) 0 : Int), .int .u64 (limb (fP b) 1 : Int), .int .u64 (limb (fP b) 2 : Int), .int .u64 (limb (fP b) 3 : Int), .int .u64 (fI b : Int), .int .u64 (limb (fO b) 0 : Int), .int .u64 (limb (fO b) 1 : Int), .int .u64 (limb (fO b) 2 : Int), .int .u64 (limb (fO b) 3 : Int), .int .u64 (limb (fS b) 0 : Int), .int .u64 (limb (fS b) 1 : Int), .int .u64 (limb (fS b) 2 : Int), .int .u64 (limb (fS b) 3 : Int)] := by rw [← hv9]; exact Blk.new rfl
    obtain ⟨bF, hb9⟩ : ∃ k, w.heap.size = k := ⟨_, rfl⟩
    rw [hb9] at X_F
    have g_bF : w.heap.size ≤ bF := by rw [← hb9]; exact BW.out.size
    replace BW := hid (BW.out.trans (hG9.mono BW.out.size))
    clear hG9
    rw [hv9]
    try rw [hb9]
    clear hv9 hb9
    refine (WTC.out _ (HS.out.below BW.out)).mono ?_
    rintro e v2 ⟨vw, rfl, ho, b9⟩
    rw [List.length_map, wgs_len, HL.out] at ho
    obtain ⟨aw, cw, rfl, _, _, _⟩ := owns_form ho
    have HO := hid (owns_mono ho BW.out.size)
    clear ho
    replace X_F := X_F.keep b9
    replace BW := hid (BW.out.trans (b9.mono BW.out.size))
    clear b9
    have HO2 := hid HO.out
    clear HO
    have N_w := HO2
    clear HO2
    have z_F := X_F.lt
    have c_F0 := X_F.cell (i := 0) rfl
    have c_F1 := X_F.cell (i := 1) rfl
    have c_F2 := X_F.cell (i := 2) rfl
    have c_F3 := X_F.cell (i := 3) rfl
    have c_F4 := X_F.cell (i := 4) rfl
    have c_F5 := X_F.cell (i := 5) rfl
    have c_F6 := X_F.cell (i := 6) rfl
    have c_F7 := X_F.cell (i := 7) rfl
    have c_F8 := X_F.cell (i := 8) rfl
    have c_F9 := X_F.cell (i := 9) rfl
    have c_F10 := X_F.cell (i := 10) rfl
    have c_F11 := X_F.cell (i := 11) rfl
    have c_F12 := X_F.cell (i := 12) rfl
    have c_F13 := X_F.cell (i := 13) rfl
    go_wp2_with fail
    refine (PT.out _ (HS.out.below BW.out)).mono ?_
    rintro e v3 ⟨gx, rfl, hR9, b9⟩
    have lt9 := hR9.ge
    have q_F_gx : bF < gx := Nat.lt_of_lt_of_le X_F.lt lt9
    have z0_gx : w.heap.size ≤ gx := Nat.le_trans BW.out.size lt9
    have R_x := hid (hR9.mono BW.out.size)
    clear hR9 lt9
    clear z_F c_F0 c_F1 c_F2 c_F3 c_F4 c_F5 c_F6 c_F7 c_F8 c_F9 c_F10 c_F11 c_F12 c_F13
    replace N_w := hid (owns_keep N_w.out b9)
    replace X_F := X_F.keep b9
    replace BW := hid (BW.out.trans (b9.mono BW.out.size))
    clear b9
    have z_F := X_F.lt
    have c_F0 := X_F.cell (i := 0) rfl
    have c_F1 := X_F.cell (i := 1) rfl
    have c_F2 := X_F.cell (i := 2) rfl
    have c_F3 := X_F.cell (i := 3) rfl
    have c_F4 := X_F.cell (i := 4) rfl
    have c_F5 := X_F.cell (i := 5) rfl
    have c_F6 := X_F.cell (i := 6) rfl
    have c_F7 := X_F.cell (i := 7) rfl
    have c_F8 := X_F.cell (i := 8) rfl
    have c_F9 := X_F.cell (i := 9) rfl
    have c_F10 := X_F.cell (i := 10) rfl
    have c_F11 := X_F.cell (i := 11) rfl
    have c_F12 := X_F.cell (i := 12) rfl
    have c_F13 := X_F.cell (i := 13) rfl
    go_wp2_with fail
    refine (MAC.out _ _ (R_x.out.sl (xs := ns.map (frm (fP b))) (by rw [List.length_map, HL.out]) (fun i _ => (getD_frm _ _ _).symm) (small9 (forms9 b ns)))).mono ?_
    rintro e v4 ⟨gm, cm, rfl, hR9, b9⟩
    have lt9 := hR9.ge
    have q_F_gm : bF < gm := Nat.lt_of_lt_of_le X_F.lt lt9
    have q_x_gm : gx < gm := Nat.lt_of_lt_of_le R_x.out.lt lt9
    have z0_gm : w.heap.size ≤ gm := Nat.le_trans BW.out.size lt9
    have R_m := hid (hR9.mono BW.out.size)
    clear hR9 lt9
    clear z_F c_F0 c_F1 c_F2 c_F3 c_F4 c_F5 c_F6 c_F7 c_F8 c_F9 c_F10 c_F11 c_F12 c_F13
    replace R_x := hid (R_x.out.keep b9)
    replace N_w := hid (owns_keep N_w.out b9)
    replace X_F := X_F.keep b9
    replace BW := hid (BW.out.trans (b9.mono BW.out.size))
    clear b9
    have HO9 := N_w.out
    go_wp2
    go_loopw [33] (fun ix wr => ∃ i : Nat, i ≤ n ∧ ix = .int .i64 (i : Int) ∧ Blk wr (bF) 32 [.int .i64 (fID b), .int .u64 (limb (fP b) 0 : Int), .int .u64 (limb (fP b) 1 : Int), .int .u64 (limb (fP b) 2 : Int), .int .u64 (limb (fP b) 3 : Int), .int .u64 (fI b : Int), .int .u64 (limb (fO b) 0 : Int), .int .u64 (limb (fO b) 1 : Int), .int .u64 (limb (fO b) 2 : Int), .int .u64 (limb (fO b) 3 : Int), .int .u64 (limb (fS b) 0 : Int), .int .u64 (limb (fS b) 1 : Int), .int .u64 (limb (fS b) 2 : Int), .int .u64 (limb (fS b) 3 : Int)] ∧ RowF wr w.heap.size 30 gx n n (fun t => frm (fP b) (ns.getD t 0)) ∧ RowF wr w.heap.size 30 gm (n + 1) cm (fun i => ((flV (fP b) [1] ns).map (frm (fP b))).getD i 0) ∧ Below w.heap.size w wr ∧ wr.ownsRow w.heap.size 30 4 (.slice aw n cw) n (nums ((wgs (fP b) ns).map (frm (fP b))))) (fun ix _ => n - (intOf ix).toNat)
    case atStart => exact ⟨0, Nat.zero_le _, rfl, X_F, R_x.out, R_m.out, BW.out, HO9⟩
    case round =>
      clear X_F R_x R_m BW
      obtain ⟨i, hk_i, rfl, X_F, r9_x, r9_m, b9, hm_i⟩ := hrel
      obtain ⟨v5, hv9⟩ : ∃ v, v = wr := ⟨_, rfl⟩
      subst hv9
      have R_x := hid r9_x
      clear r9_x
      have R_m := hid r9_m
      clear r9_m
      have BW := hid b9
      clear b9
      have HM_i := hid hm_i
      clear hm_i
      by_cases hi : i < n
      · skip
        exact absurd hi (by have := H00.out; omega)
      · skip
        obtain rfl : n = i := by omega
        clear hi
        have HO := HM_i
        clear HM_i
        go_wp2
        refine bodyPost_ret (by simp only [results, Tryd.results14]; go_simp; try rfl) rfl ?_
        exact ⟨_, rfl, by rw [show (zcs (fP b) ns).map (frm (fP b)) = (wgs (fP b) ns).map (frm (fP b)) from (List.length_eq_zero_iff.1 (by rw [List.length_map, zcs_len, HL.out]; exact H00.out)).trans (List.length_eq_zero_iff.1 (by rw [List.length_map, wgs_len, HL.out]; exact H00.out)).symm]; exact HO.out, BW.out⟩
end Go.Proofs.YthdjjogdjabflaaDoor
