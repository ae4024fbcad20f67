/-
  The weights of points.
-/
import Derived.Test.YthdjjogdjabflaaDoorPts9
import Derived.Test.YthdjjogdjabflaaDoorBatchA
namespace Go.Proofs.YthdjjogdjabflaaDoor
open Go.RowKit

attribute [local go_sem] Oper.semAt_some
/-- It returns a new slice of the numbers xs, and a number. -/
def RetE (t : TypeId) (xs : List Nat) (c : Int) (w : World) : Ending → World → Prop := fun e w' => ∃ v, e = .returned (.tuple #[v, .int .i64 c]) ∧ w'.ownsRow w.heap.size t 4 v xs.length (nums xs) ∧ Below w.heap.size w w'
/-- The denominator of the point i, up to k. -/
noncomputable def wdn (p : Nat) (xs : List Nat) (i k : Nat) : Nat := den p (xs.getD i 0) (oth (xs.take k) i)
theorem wdn_zero (p : Nat) (xs : List Nat) (i : Nat) : wdn p xs i 0 = 1 := by unfold wdn; rw [oth_zero, den_nil]
theorem wdn_next {p : Nat} {xs : List Nat} {i k : Nat} (hk : k < xs.length) (hne : k ≠ i) : wdn p xs i (k + 1) = mulm p (wdn p xs i k) (subm p (xs.getD i 0) (xs.getD k 0)) := by unfold wdn; rw [oth_next hk hne, den_snoc]
theorem wdn_skip {p : Nat} {xs : List Nat} {i k : Nat} (hk : k < xs.length) (he : k = i) : wdn p xs i (k + 1) = wdn p xs i k := by unfold wdn; rw [oth_skip hk he]
theorem wdn_lt {p : Nat} (hp : 1 < p) (xs : List Nat) (i k : Nat) : wdn p xs i k < p := den_lt hp _ _
/-- All weights. -/
noncomputable def wgs (p : Nat) (xs : List Nat) : List Nat := (List.range xs.length).map (wgt p xs)
noncomputable def dns (p : Nat) (xs : List Nat) : List Nat := (List.range xs.length).map fun i => wdn p xs i xs.length
theorem wgs_len (p : Nat) (xs : List Nat) : (wgs p xs).length = xs.length := by simp [wgs]
theorem dns_len (p : Nat) (xs : List Nat) : (dns p xs).length = xs.length := by simp [dns]
theorem wgs_at {p : Nat} {xs : List Nat} {i : Nat} (h : i < xs.length) : (wgs p xs)[i]? = some (wgt p xs i) := by unfold wgs; rw [List.getElem?_map, List.getElem?_range h]; rfl
theorem dns_at {p : Nat} {xs : List Nat} {i : Nat} (h : i < xs.length) : (dns p xs)[i]? = some (wdn p xs i xs.length) := by unfold dns; rw [List.getElem?_map, List.getElem?_range h]; rfl
theorem dns_inv (p : Nat) (xs : List Nat) : (dns p xs).map (invm p) = wgs p xs := by
  unfold dns wgs
  rw [List.map_map]
  refine List.map_congr_left fun i _ => ?_
  show invm p (wdn p xs i xs.length) = wgt p xs i
  unfold wdn wgt
  rw [oth_all (Nat.le_refl _)]
theorem dns_lt {p : Nat} (hp : 1 < p) (xs : List Nat) : ∀ y ∈ dns p xs, y < p := fun y hy => by
  obtain ⟨i, _, rfl⟩ := List.mem_map.1 hy
  exact wdn_lt hp _ _ _
theorem wgs_lt {p : Nat} (hp : 1 < p) (xs : List Nat) : ∀ y ∈ wgs p xs, y < p := fun y hy => by
  obtain ⟨i, _, rfl⟩ := List.mem_map.1 hy
  exact invm_lt _ (by omega)
theorem map_at {l : List Nat} {i y : Nat} (f : Nat → Nat) (h : l[i]? = some y) : (l.map f).getD i 0 = f y := by
  rw [List.getD_eq_getElem?_getD, List.getElem?_map, h]; rfl
theorem put_skip {g : Nat → Nat} {i a c n : Nat} (h : c = a) : ∀ t, t < n → (fun u => if u = i then c else g u) t = (fun u => if u = i then a else g u) t := fun t _ => by subst h; rfl
set_option maxRecDepth 100000 in
set_option maxHeartbeats 2000000 in
theorem weights_bad (b : Bool) (v : Value) (xs : List Int) (w : World) (hS : IntSl w v xs) (hl : xs.length < 1000000) (hc : chkx xs ≠ 0) :
    Calls Tryd.prog 13 #[.pointer none, FV b, v] w (Ret (.tuple #[.slice none 0 0, .int .i64 (chkx xs)]) w) := by
  have BW := hid (Below.refl w.heap.size w)
  have HS := hid hS
  have CK := hid (fun (W : World) (h : IntSl W v xs) => lcheck_any v xs W h hl)
  obtain ⟨c, hc9⟩ : ∃ c, chkx xs = c := ⟨_, rfl⟩
  rw [hc9] at hc CK ⊢
  clear hc9
  have hd : (c != 0) = true := by simp [hc]
  go_enter Tryd.func13, Tryd.ntmps13
  go_wp2_with fail
  obtain ⟨v1, hv9⟩ : ∃ v, (w.alloc (.cells #[.int .i64 (fID b), .int .u64 (limb (fP b) 0 : Int), .int .u64 (limb (fP b) 1 : Int), .int .u64 (limb (fP b) 2 : Int), .int .u64 (limb (fP b) 3 : Int), .int .u64 (fI b : Int), .int .u64 (limb (fO b) 0 : Int), .int .u64 (limb (fO b) 1 : Int), .int .u64 (limb (fO b) 2 : Int), .int .u64 (limb (fO b) 3 : Int), .int .u64 (limb (fS b) 0 : Int), .int .u64 (limb (fS b) 1 : Int), .int .u64 (limb (fS b) 2 : Int), .int .u64 (limb (fS b) 3 : Int)] 32)) = v := ⟨_, rfl⟩
  have hG9 : Below w.heap.size w v1 := by rw [← hv9]; go_grown
  have X_F : Blk v1 (w.heap.size) 32 [.int .i64 (fID b), .int .u64 (limb (fP b) 0 : Int), .int .u64 (limb (fP b) 1 : Int), .int .u64 (limb (fP b) 2 : Int), .int .u64 (limb (fP b) 3 : Int), .int .u64 (fI b : Int), .int .u64 (limb (fO b) 0 : Int), .int .u64 (limb (fO b) 1 : Int), .int .u64 (limb (fO b) 2 : Int), .int .u64 (limb (fO b) 3 : Int), .int .u64 (limb (fS b) 0 : Int), .int .u64 (limb (fS b) 1 : Int), .int .u64 (limb (fS b) 2 : Int), .int .u64 (limb (fS b) 3 : Int)] := by rw [← hv9]; exact Blk.new rfl
  obtain ⟨bF, hb9⟩ : ∃ k, w.heap.size = k := ⟨_, rfl⟩
  rw [hb9] at X_F
  have g_bF : w.heap.size ≤ bF := by rw [← hb9]; exact BW.out.size
  replace BW := hid (BW.out.trans (hG9.mono BW.out.size))
  clear hG9
  rw [hv9]
  try rw [hb9]
  clear hv9 hb9
  refine (CK.out _ (HS.out.below BW.out)).mono ?_
  rintro e v2 ⟨rfl, b9⟩
  replace X_F := X_F.keep b9
  replace BW := hid (BW.out.trans (b9.mono BW.out.size))
  clear b9
  go_wp2
  refine bodyPost_ret (by simp only [results, Tryd.results13]; go_simp; try rfl) rfl ?_
  exact ⟨rfl, BW.out⟩
set_option maxRecDepth 100000 in
set_option maxHeartbeats 2000000 in
theorem weights_ok (b : Bool) (v : Value) (xs : List Int) (w : World) (hS : IntSl w v xs) (hl : xs.length < 1000000) (hc : chkx xs = 0) :
    Calls Tryd.prog 13 #[.pointer none, FV b, v] w (RetE 30 ((wgs (fP b) (pts xs)).map (frm (fP b))) 0 w) := by
  have BW := hid (Below.refl w.heap.size w)
  have HS := hid hS
  have CK := hid (fun (W : World) (h : IntSl W v xs) => lcheck_any v xs W h hl)
  rw [hc] at CK
  obtain ⟨hall, hnd⟩ := chkx_zero hc
  have PT := hid (fun (W : World) (h : IntSl W v xs) => points_any b v xs W h (hid hall) hl)
  have hlen := pts_len xs
  obtain ⟨ns, hns⟩ : ∃ ns, pts xs = ns := ⟨_, rfl⟩
  have hlt := pts_lt hall (show 255 < fP b by cases b <;> decide)
  rw [hns] at hlen PT hlt ⊢
  obtain ⟨n, hn⟩ : ∃ n, xs.length = n := ⟨_, rfl⟩
  rw [hn] at hlen hl PT
  clear hns hn hnd hall hc
  have HL := hid hlen
  have HLT := hid hlt
  clear hlen hlt
  unfold RetE
  rw [List.length_map, wgs_len, HL.out]
  go_enter Tryd.func13, Tryd.ntmps13
  go_wp2_with fail
  obtain ⟨v1, hv9⟩ : ∃ v, (w.alloc (.cells #[.int .i64 (fID b), .int .u64 (limb (fP b) 0 : Int), .int .u64 (limb (fP b) 1 : Int), .int .u64 (limb (fP b) 2 : Int), .int .u64 (limb (fP b) 3 : Int), .int .u64 (fI b : Int), .int .u64 (limb (fO b) 0 : Int), .int .u64 (limb (fO b) 1 : Int), .int .u64 (limb (fO b) 2 : Int), .int .u64 (limb (fO b) 3 : Int), .int .u64 (limb (fS b) 0 : Int), .int .u64 (limb (fS b) 1 : Int), .int .u64 (limb (fS b) 2 : Int), .int .u64 (limb (fS b) 3 : Int)] 32)) = v := ⟨_, rfl⟩
  have hG9 : Below w.heap.size w v1 := by rw [← hv9]; go_grown
  have X_F : Blk v1 (w.heap.size) 32 [.int .i64 (fID b), .int .u64 (limb (fP b) 0 : Int), .int .u64 (limb (fP b) 1 : Int), .int .u64 (limb (fP b) 2 : Int), .int .u64 (limb (fP b) 3 : Int), .int .u64 (fI b : Int), .int .u64 (limb (fO b) 0 : Int), .int .u64 (limb (fO b) 1 : Int), .int .u64 (limb (fO b) 2 : Int), .int .u64 (limb (fO b) 3 : Int), .int .u64 (limb (fS b) 0 : Int), .int .u64 (limb (fS b) 1 : Int), .int .u64 (limb (fS b) 2 : Int), .int .u64 (limb (fS b) 3 : Int)] := by rw [← hv9]; exact Blk.new rfl
  obtain ⟨bF, hb9⟩ : ∃ k, w.heap.size = k := ⟨_, rfl⟩
  rw [hb9] at X_F
  have g_bF : w.heap.size ≤ bF := by rw [← hb9]; exact BW.out.size
  replace BW := hid (BW.out.trans (hG9.mono BW.out.size))
  clear hG9
  rw [hv9]
  try rw [hb9]
  clear hv9 hb9
  refine (CK.out _ (HS.out.below BW.out)).mono ?_
  rintro e v2 ⟨rfl, b9⟩
  replace X_F := X_F.keep b9
  replace BW := hid (BW.out.trans (b9.mono BW.out.size))
  clear b9
  have z_F := X_F.lt
  have c_F0 := X_F.cell (i := 0) rfl
  have c_F1 := X_F.cell (i := 1) rfl
  have c_F2 := X_F.cell (i := 2) rfl
  have c_F3 := X_F.cell (i := 3) rfl
  have c_F4 := X_F.cell (i := 4) rfl
  have c_F5 := X_F.cell (i := 5) rfl
  have c_F6 := X_F.cell (i := 6) rfl
  have c_F7 := X_F.cell (i := 7) rfl
  have c_F8 := X_F.cell (i := 8) rfl
  have c_F9 := X_F.cell (i := 9) rfl
  have c_F10 := X_F.cell (i := 10) rfl
  have c_F11 := X_F.cell (i := 11) rfl
  have c_F12 := X_F.cell (i := 12) rfl
  have c_F13 := X_F.cell (i := 13) rfl
  go_wp2_with fail
  refine (PT.out _ (HS.out.below BW.out)).mono ?_
  rintro e v3 ⟨gx, rfl, hR9, b9⟩
  have lt9 := hR9.ge
  have q_F_gx : bF < gx := Nat.lt_of_lt_of_le X_F.lt lt9
  have z0_gx : w.heap.size ≤ gx := Nat.le_trans BW.out.size lt9
  have R_x := hid (hR9.mono BW.out.size)
  clear hR9 lt9
  clear z_F c_F0 c_F1 c_F2 c_F3 c_F4 c_F5 c_F6 c_F7 c_F8 c_F9 c_F10 c_F11 c_F12 c_F13
  replace X_F := X_F.keep b9
  replace BW := hid (BW.out.trans (b9.mono BW.out.size))
  clear b9
  obtain ⟨wq_d, hmk_d, hR_d, hgq_d⟩ := run_made v3 n hl
  go_wp2
  have b9 : Below v3.heap.size v3 wq_d := Below.grown (Below.refl _ _) hgq_d (Nat.le_refl _) (fun j hj => by cases hj)
  obtain ⟨gd, hg9⟩ : ∃ q, v3.heap.size = q := ⟨_, rfl⟩
  have lt9 : v3.heap.size ≤ gd := by omega
  have q_F_gd : bF < gd := Nat.lt_of_lt_of_le X_F.lt lt9
  have q_x_gd : gx < gd := Nat.lt_of_lt_of_le R_x.out.lt lt9
  have z0_gd : w.heap.size ≤ gd := Nat.le_trans BW.out.size lt9
  have R_d := hid (hR_d.mono BW.out.size)
  rw [hg9] at R_d
  try rw [hg9]
  clear hR_d hgq_d hmk_d hg9 lt9
  replace R_x := hid (R_x.out.keep b9)
  replace X_F := X_F.keep b9
  replace BW := hid (BW.out.trans (b9.mono BW.out.size))
  clear b9
  go_loopw [26] (fun ix wr => ∃ i : Nat, i ≤ n ∧ ix = .int .i64 (i : Int) ∧ Blk wr (bF) 32 [.int .i64 (fID b), .int .u64 (limb (fP b) 0 : Int), .int .u64 (limb (fP b) 1 : Int), .int .u64 (limb (fP b) 2 : Int), .int .u64 (limb (fP b) 3 : Int), .int .u64 (fI b : Int), .int .u64 (limb (fO b) 0 : Int), .int .u64 (limb (fO b) 1 : Int), .int .u64 (limb (fO b) 2 : Int), .int .u64 (limb (fO b) 3 : Int), .int .u64 (limb (fS b) 0 : Int), .int .u64 (limb (fS b) 1 : Int), .int .u64 (limb (fS b) 2 : Int), .int .u64 (limb (fS b) 3 : Int)] ∧ RowF wr w.heap.size 30 gx n n (fun t => frm (fP b) (ns.getD t 0)) ∧ RowF wr w.heap.size 30 gd n n (fun t => if t < i then frm (fP b) (wdn (fP b) ns t n) else 0) ∧ Below w.heap.size w wr) (fun ix _ => n - (intOf ix).toNat)
  case atStart => exact ⟨0, Nat.zero_le _, rfl, X_F, R_x.out, (R_d.out.congr put_none), BW.out⟩
  case round =>
    clear X_F R_x R_d BW
    obtain ⟨i, hk_i, rfl, X_F, r9_x, r9_d, b9⟩ := hrel
    obtain ⟨v5, hv9⟩ : ∃ v, v = wr := ⟨_, rfl⟩
    subst hv9
    have R_x := hid r9_x
    clear r9_x
    have R_d := hid r9_d
    clear r9_d
    have BW := hid b9
    clear b9
    by_cases hi : i < n
    · skip
      have hi0 : (0 : Int) ≤ (i : Int) := by omega
      have hin : (i : Int) < (n : Int) := by omega
      have z_F := X_F.lt
      have c_F0 := X_F.cell (i := 0) rfl
      have c_F1 := X_F.cell (i := 1) rfl
      have c_F2 := X_F.cell (i := 2) rfl
      have c_F3 := X_F.cell (i := 3) rfl
      have c_F4 := X_F.cell (i := 4) rfl
      have c_F5 := X_F.cell (i := 5) rfl
      have c_F6 := X_F.cell (i := 6) rfl
      have c_F7 := X_F.cell (i := 7) rfl
      have c_F8 := X_F.cell (i := 8) rfl
      have c_F9 := X_F.cell (i := 9) rfl
      have c_F10 := X_F.cell (i := 10) rfl
      have c_F11 := X_F.cell (i := 11) rfl
      have c_F12 := X_F.cell (i := 12) rfl
      have c_F13 := X_F.cell (i := 13) rfl
      obtain ⟨r0, r1, r2, r3⟩ := R_d.out.cells (i := i) (v := 0) hi (by simp)
      have zr := R_d.out.lt
      have fr0 := R_d.out.frozen (i * 4)
      have fr1 := R_d.out.frozen (i * 4 + 1)
      have fr2 := R_d.out.frozen (i * 4 + 2)
      have fr3 := R_d.out.frozen (i * 4 + 3)
      go_wp2
      obtain ⟨v6, hs9⟩ : ∃ q, ((((v5.setCell ⟨gd, i * 4, none⟩ (.int .u64 (limb (fO b) 0 : Int))).setCell ⟨gd, i * 4 + 1, none⟩ (.int .u64 (limb (fO b) 1 : Int))).setCell ⟨gd, i * 4 + 2, none⟩ (.int .u64 (limb (fO b) 2 : Int))).setCell ⟨gd, i * 4 + 3, none⟩ (.int .u64 (limb (fO b) 3 : Int))) = q := ⟨_, rfl⟩
      have O9 : Only (fun k => k = gd) v5 v6 := by rw [← hs9]; exact only_row _ _ _ _ _ _ _
      have S9 : RowF v6 w.heap.size 30 gd n n (fun t => if t = i then fO b else (if t < i then frm (fP b) (wdn (fP b) ns t n) else 0)) := by rw [← hs9]; exact (R_d.out.store hi (fO b)).congr (fun _ _ => rfl)
      rw [hs9]
      clear hs9
      clear z_F c_F0 c_F1 c_F2 c_F3 c_F4 c_F5 c_F6 c_F7 c_F8 c_F9 c_F10 c_F11 c_F12 c_F13 r0 r1 r2 r3 zr fr0 fr1 fr2 fr3
      replace X_F := X_F.only O9 (show ¬ (bF = gd) by omega)
      replace R_x := hid (R_x.out.other O9 (show ¬ (gx = gd) by omega))
      replace BW := hid (BW.out.trans (O9.below (fun k h => by cases h; exact z0_gd) BW.out.size))
      replace R_d := hid S9
      clear O9 S9
      go_loopw [36] (fun ix wr => ∃ k : Nat, k ≤ n ∧ ix = .int .i64 (k : Int) ∧ Blk wr (bF) 32 [.int .i64 (fID b), .int .u64 (limb (fP b) 0 : Int), .int .u64 (limb (fP b) 1 : Int), .int .u64 (limb (fP b) 2 : Int), .int .u64 (limb (fP b) 3 : Int), .int .u64 (fI b : Int), .int .u64 (limb (fO b) 0 : Int), .int .u64 (limb (fO b) 1 : Int), .int .u64 (limb (fO b) 2 : Int), .int .u64 (limb (fO b) 3 : Int), .int .u64 (limb (fS b) 0 : Int), .int .u64 (limb (fS b) 1 : Int), .int .u64 (limb (fS b) 2 : Int), .int .u64 (limb (fS b) 3 : Int)] ∧ RowF wr w.heap.size 30 gx n n (fun t => frm (fP b) (ns.getD t 0)) ∧ RowF wr w.heap.size 30 gd n n (fun t => if t = i then frm (fP b) (wdn (fP b) ns i k) else (if t < i then frm (fP b) (wdn (fP b) ns t n) else 0)) ∧ Below w.heap.size w wr) (fun ix _ => n - (intOf ix).toNat)
      case atStart => exact ⟨0, Nat.zero_le _, rfl, X_F, R_x.out, (R_d.out.congr (put_skip (by rw [wdn_zero, fO_eq]))), BW.out⟩
      case round =>
        clear X_F R_x R_d BW
        obtain ⟨k, hk_k, rfl, X_F, r9_x, r9_d, b9⟩ := hrel
        obtain ⟨v7, hv9⟩ : ∃ v, v = wr := ⟨_, rfl⟩
        subst hv9
        have R_x := hid r9_x
        clear r9_x
        have R_d := hid r9_d
        clear r9_d
        have BW := hid b9
        clear b9
        by_cases hk : k < n
        · skip
          have hk0 : (0 : Int) ≤ (k : Int) := by omega
          have hkn : (k : Int) < (n : Int) := by omega
          by_cases e : k = i
          · skip
            have hd : ((k : Int) != (i : Int)) = false := by simp [e]
            have ES := hid (wdn_skip (p := fP b) (xs := ns) (by rw [HL.out]; exact hk) e)
            clear e
            go_wp2
            go_roundw
            case rel => exact ⟨k + 1, by omega, by go_num, X_F, R_x.out, R_d.out.congr (put_skip (by rw [ES.out])), BW.out⟩
            case measure => simp [intOf]; omega
          · skip
            have hd : ((k : Int) != (i : Int)) = true := by simp; omega
            have EN := hid (wdn_next (p := fP b) (xs := ns) (by rw [HL.out]; exact hk) e)
            clear e
            have hp2 := fP_two b
            have HXI := hid (HLT.out _ (getD_mem (show i < ns.length by rw [HL.out]; exact hi)))
            have HXK := hid (HLT.out _ (getD_mem (show k < ns.length by rw [HL.out]; exact hk)))
            have HQI := hid (rfl : frm (fP b) (ns.getD i 0) = frm (fP b) (ns.getD i 0))
            have ESB := hid (frm_subm (show 0 < fP b by omega) (ns.getD i 0) (Nat.le_of_lt HXK.out))
            have EMU := hid (frm_mulm (fOK b).2.2.2.1 (wdn (fP b) ns i k) (subm (fP b) (ns.getD i 0) (ns.getD k 0)))
            have M1 := hid (fun W : World => msub_any b (frm (fP b) (ns.getD i 0)) (frm (fP b) (ns.getD k 0)) (frm_lt _ (by omega)) (frm_lt _ (by omega)) W)
            rw [ESB.out] at M1
            have M2 := hid (fun W : World => mmul_any (fID b) (fP b) (fI b) (fO b) (fS b) (frm (fP b) (wdn (fP b) ns i k)) (frm (fP b) (subm (fP b) (ns.getD i 0) (ns.getD k 0))) (fOK b) (Nat.lt_trans (frm_lt _ (by omega)) (fP_lt b)) (Nat.lt_trans (frm_lt _ (by omega)) (fP_lt b)) (Nat.mul_lt_mul_of_lt_of_lt (Nat.lt_trans (frm_lt _ (by omega)) (fP_lt b)) (frm_lt _ (by omega))) W)
            rw [EMU.out, ← EN.out] at M2
            obtain ⟨xi, hxi⟩ : ∃ z, frm (fP b) (ns.getD i 0) = z := ⟨_, rfl⟩
            obtain ⟨xk, hxk⟩ : ∃ z, frm (fP b) (ns.getD k 0) = z := ⟨_, rfl⟩
            obtain ⟨dk, hdk⟩ : ∃ z, frm (fP b) (wdn (fP b) ns i k) = z := ⟨_, rfl⟩
            obtain ⟨df, hdf⟩ : ∃ z, frm (fP b) (subm (fP b) (ns.getD i 0) (ns.getD k 0)) = z := ⟨_, rfl⟩
            obtain ⟨dn, hdn⟩ : ∃ z, frm (fP b) (wdn (fP b) ns i (k + 1)) = z := ⟨_, rfl⟩
            rw [hxi, hxk, hdf] at M1
            rw [hdk, hdf, hdn] at M2
            have HXi := hid hxi
            have HXk := hid hxk
            have HDk := hid hdk
            have HDn := hid hdn
            clear hxi hxk hdk hdf hdn
            have z_F := X_F.lt
            have c_F0 := X_F.cell (i := 0) rfl
            have c_F1 := X_F.cell (i := 1) rfl
            have c_F2 := X_F.cell (i := 2) rfl
            have c_F3 := X_F.cell (i := 3) rfl
            have c_F4 := X_F.cell (i := 4) rfl
            have c_F5 := X_F.cell (i := 5) rfl
            have c_F6 := X_F.cell (i := 6) rfl
            have c_F7 := X_F.cell (i := 7) rfl
            have c_F8 := X_F.cell (i := 8) rfl
            have c_F9 := X_F.cell (i := 9) rfl
            have c_F10 := X_F.cell (i := 10) rfl
            have c_F11 := X_F.cell (i := 11) rfl
            have c_F12 := X_F.cell (i := 12) rfl
            have c_F13 := X_F.cell (i := 13) rfl
            obtain ⟨d0, d1, d2, d3⟩ := R_d.out.cells (i := i) (v := dk) hi (by simp only [if_true]; exact HDk.out)
            have zd := R_d.out.lt
            have fd0 := R_d.out.frozen (i * 4)
            have fd1 := R_d.out.frozen (i * 4 + 1)
            have fd2 := R_d.out.frozen (i * 4 + 2)
            have fd3 := R_d.out.frozen (i * 4 + 3)
            obtain ⟨p0, p1, p2, p3⟩ := R_x.out.cells (i := i) (v := xi) hi HXi.out
            have zp := R_x.out.lt
            obtain ⟨q0, q1, q2, q3⟩ := R_x.out.cells (i := k) (v := xk) hk HXk.out
            have zq := R_x.out.lt
            go_wp2_with (go_at_call 39; refine (note_nil _ _ _ _).mono ?_; rintro e w' ⟨rfl, rfl⟩)
            refine wp_region_soft (C := fun W' => Below v7.heap.size v7 W') 19 (by kernel_rfl) (by kernel_rfl) ((Below.refl _ _).drew) ?_
            simp only [List.take_succ_cons, List.take_zero, List.drop_succ_cons, List.drop_zero]
            refine wpQuiet_step (fun K hK => ?_)
            rw [if_pos (by rfl)]
            refine ⟨.slice (some ⟨gd, 0, none⟩) n n, fun W' hW => ?_, hK _ ?_⟩
            · go_simp
            clear hK K
            simp only [Act.put, List.setIfInBounds_toArray, List.set_cons_zero, List.set_cons_succ]
            refine wpQuiet_step (fun K hK => ?_)
            rw [if_pos (by rfl)]
            refine ⟨.int .i64 (i : Int), fun W' hW => ?_, hK _ ?_⟩
            · go_simp
            clear hK K
            simp only [Act.put, List.setIfInBounds_toArray, List.set_cons_zero, List.set_cons_succ]
            refine wpQuiet_step (fun K hK => ?_)
            rw [if_pos (by rfl)]
            refine ⟨FV b, fun W' hW => ?_, hK _ ?_⟩
            · have e_0 := (hW.cell (p := ⟨bF, 0, none⟩) z_F).trans c_F0
              have e_1 := (hW.cell (p := ⟨bF, 1, none⟩) z_F).trans c_F1
              have e_2 := (hW.cell (p := ⟨bF, 2, none⟩) z_F).trans c_F2
              have e_3 := (hW.cell (p := ⟨bF, 3, none⟩) z_F).trans c_F3
              have e_4 := (hW.cell (p := ⟨bF, 4, none⟩) z_F).trans c_F4
              have e_5 := (hW.cell (p := ⟨bF, 5, none⟩) z_F).trans c_F5
              have e_6 := (hW.cell (p := ⟨bF, 6, none⟩) z_F).trans c_F6
              have e_7 := (hW.cell (p := ⟨bF, 7, none⟩) z_F).trans c_F7
              have e_8 := (hW.cell (p := ⟨bF, 8, none⟩) z_F).trans c_F8
              have e_9 := (hW.cell (p := ⟨bF, 9, none⟩) z_F).trans c_F9
              have e_10 := (hW.cell (p := ⟨bF, 10, none⟩) z_F).trans c_F10
              have e_11 := (hW.cell (p := ⟨bF, 11, none⟩) z_F).trans c_F11
              have e_12 := (hW.cell (p := ⟨bF, 12, none⟩) z_F).trans c_F12
              have e_13 := (hW.cell (p := ⟨bF, 13, none⟩) z_F).trans c_F13
              go_simp
            clear hK K
            simp only [Act.put, List.setIfInBounds_toArray, List.set_cons_zero, List.set_cons_succ]
            refine wpQuiet_step (fun K hK => ?_)
            rw [if_pos (by rfl)]
            refine ⟨.slice (some ⟨gd, 0, none⟩) n n, fun W' hW => ?_, hK _ ?_⟩
            · go_simp
            clear hK K
            simp only [Act.put, List.setIfInBounds_toArray, List.set_cons_zero, List.set_cons_succ]
            refine wpQuiet_step (fun K hK => ?_)
            rw [if_pos (by rfl)]
            refine ⟨.int .i64 (i : Int), fun W' hW => ?_, hK _ ?_⟩
            · go_simp
            clear hK K
            simp only [Act.put, List.setIfInBounds_toArray, List.set_cons_zero, List.set_cons_succ]
            refine wpQuiet_step (fun K hK => ?_)
            rw [if_pos (by rfl)]
            refine ⟨.pointer (some ⟨gd, i * 4, none⟩), fun W' hW => ?_, hK _ ?_⟩
            · go_simp
            clear hK K
            simp only [Act.put, List.setIfInBounds_toArray, List.set_cons_zero, List.set_cons_succ]
            refine wpQuiet_step (fun K hK => ?_)
            rw [if_pos (by rfl)]
            refine ⟨vec dk, fun W' hW => ?_, hK _ ?_⟩
            · have e_0 := (hW.cell (p := ⟨gd, i * 4, none⟩) zd).trans d0
              have e_1 := (hW.cell (p := ⟨gd, i * 4 + 1, none⟩) zd).trans d1
              have e_2 := (hW.cell (p := ⟨gd, i * 4 + 2, none⟩) zd).trans d2
              have e_3 := (hW.cell (p := ⟨gd, i * 4 + 3, none⟩) zd).trans d3
              go_simp
            clear hK K
            simp only [Act.put, List.setIfInBounds_toArray, List.set_cons_zero, List.set_cons_succ]
            refine wpQuiet_step (fun K hK => ?_)
            rw [if_pos (by rfl)]
            refine ⟨FV b, fun W' hW => ?_, hK _ ?_⟩
            · have e_0 := (hW.cell (p := ⟨bF, 0, none⟩) z_F).trans c_F0
              have e_1 := (hW.cell (p := ⟨bF, 1, none⟩) z_F).trans c_F1
              have e_2 := (hW.cell (p := ⟨bF, 2, none⟩) z_F).trans c_F2
              have e_3 := (hW.cell (p := ⟨bF, 3, none⟩) z_F).trans c_F3
              have e_4 := (hW.cell (p := ⟨bF, 4, none⟩) z_F).trans c_F4
              have e_5 := (hW.cell (p := ⟨bF, 5, none⟩) z_F).trans c_F5
              have e_6 := (hW.cell (p := ⟨bF, 6, none⟩) z_F).trans c_F6
              have e_7 := (hW.cell (p := ⟨bF, 7, none⟩) z_F).trans c_F7
              have e_8 := (hW.cell (p := ⟨bF, 8, none⟩) z_F).trans c_F8
              have e_9 := (hW.cell (p := ⟨bF, 9, none⟩) z_F).trans c_F9
              have e_10 := (hW.cell (p := ⟨bF, 10, none⟩) z_F).trans c_F10
              have e_11 := (hW.cell (p := ⟨bF, 11, none⟩) z_F).trans c_F11
              have e_12 := (hW.cell (p := ⟨bF, 12, none⟩) z_F).trans c_F12
              have e_13 := (hW.cell (p := ⟨bF, 13, none⟩) z_F).trans c_F13
              go_simp
            clear hK K
            simp only [Act.put, List.setIfInBounds_toArray, List.set_cons_zero, List.set_cons_succ]
            refine wpQuiet_step (fun K hK => ?_)
            rw [if_pos (by rfl)]
            refine ⟨.slice (some ⟨gx, 0, none⟩) n n, fun W' hW => ?_, hK _ ?_⟩
            · go_simp
            clear hK K
            simp only [Act.put, List.setIfInBounds_toArray, List.set_cons_zero, List.set_cons_succ]
            refine wpQuiet_step (fun K hK => ?_)
            rw [if_pos (by rfl)]
            refine ⟨.int .i64 (i : Int), fun W' hW => ?_, hK _ ?_⟩
            · go_simp
            clear hK K
            simp only [Act.put, List.setIfInBounds_toArray, List.set_cons_zero, List.set_cons_succ]
            refine wpQuiet_step (fun K hK => ?_)
            rw [if_pos (by rfl)]
            refine ⟨.pointer (some ⟨gx, i * 4, none⟩), fun W' hW => ?_, hK _ ?_⟩
            · go_simp
            clear hK K
            simp only [Act.put, List.setIfInBounds_toArray, List.set_cons_zero, List.set_cons_succ]
            refine wpQuiet_step (fun K hK => ?_)
            rw [if_pos (by rfl)]
            refine ⟨vec xi, fun W' hW => ?_, hK _ ?_⟩
            · have e_0 := (hW.cell (p := ⟨gx, i * 4, none⟩) zp).trans p0
              have e_1 := (hW.cell (p := ⟨gx, i * 4 + 1, none⟩) zp).trans p1
              have e_2 := (hW.cell (p := ⟨gx, i * 4 + 2, none⟩) zp).trans p2
              have e_3 := (hW.cell (p := ⟨gx, i * 4 + 3, none⟩) zp).trans p3
              go_simp
            clear hK K
            simp only [Act.put, List.setIfInBounds_toArray, List.set_cons_zero, List.set_cons_succ]
            refine wpQuiet_step (fun K hK => ?_)
            rw [if_pos (by rfl)]
            refine ⟨.slice (some ⟨gx, 0, none⟩) n n, fun W' hW => ?_, hK _ ?_⟩
            · go_simp
            clear hK K
            simp only [Act.put, List.setIfInBounds_toArray, List.set_cons_zero, List.set_cons_succ]
            refine wpQuiet_step (fun K hK => ?_)
            rw [if_pos (by rfl)]
            refine ⟨.int .i64 (k : Int), fun W' hW => ?_, hK _ ?_⟩
            · go_simp
            clear hK K
            simp only [Act.put, List.setIfInBounds_toArray, List.set_cons_zero, List.set_cons_succ]
            refine wpQuiet_step (fun K hK => ?_)
            rw [if_pos (by rfl)]
            refine ⟨.pointer (some ⟨gx, k * 4, none⟩), fun W' hW => ?_, hK _ ?_⟩
            · go_simp
            clear hK K
            simp only [Act.put, List.setIfInBounds_toArray, List.set_cons_zero, List.set_cons_succ]
            refine wpQuiet_step (fun K hK => ?_)
            rw [if_pos (by rfl)]
            refine ⟨vec xk, fun W' hW => ?_, hK _ ?_⟩
            · have e_0 := (hW.cell (p := ⟨gx, k * 4, none⟩) zq).trans q0
              have e_1 := (hW.cell (p := ⟨gx, k * 4 + 1, none⟩) zq).trans q1
              have e_2 := (hW.cell (p := ⟨gx, k * 4 + 2, none⟩) zq).trans q2
              have e_3 := (hW.cell (p := ⟨gx, k * 4 + 3, none⟩) zq).trans q3
              go_simp
            clear hK K
            simp only [Act.put, List.setIfInBounds_toArray, List.set_cons_zero, List.set_cons_succ]
            refine wpQuiet_step (fun K hK => ?_)
            rw [if_pos (by rfl)]
            refine ⟨vec df, fun W' hW => ?_, hK _ ?_⟩
            · go_simp
              refine (M1.out _).mono ?_
              rintro e w' ⟨rfl, b⟩
              exact ⟨rfl, hW.trans (b.mono hW.size)⟩
            clear hK K
            simp only [Act.put, List.setIfInBounds_toArray, List.set_cons_zero, List.set_cons_succ]
            refine wpQuiet_step (fun K hK => ?_)
            rw [if_pos (by rfl)]
            refine ⟨vec dn, fun W' hW => ?_, hK _ ?_⟩
            · go_simp
              refine (M2.out _).mono ?_
              rintro e w' ⟨rfl, b⟩
              exact ⟨rfl, hW.trans (b.mono hW.size)⟩
            clear hK K
            simp only [Act.put, List.setIfInBounds_toArray, List.set_cons_zero, List.set_cons_succ]
            refine wpQuiet_step (fun K hK => ?_)
            rw [if_pos (by rfl)]
            refine ⟨.pointer (some ⟨gd, i * 4, none⟩), fun W' hW => ?_, hK _ ?_⟩
            · go_simp
            clear hK K
            simp only [Act.put, List.setIfInBounds_toArray, List.set_cons_zero, List.set_cons_succ]
            refine wpQuiet_nil ?_
            intro ws0 hW9
            replace R_x := hid (R_x.out.keep hW9)
            replace R_d := hid (R_d.out.keep hW9)
            clear z_F c_F0 c_F1 c_F2 c_F3 c_F4 c_F5 c_F6 c_F7 c_F8 c_F9 c_F10 c_F11 c_F12 c_F13 d0 d1 d2 d3 zd fd0 fd1 fd2 fd3 p0 p1 p2 p3 zp q0 q1 q2 q3 zq
            replace X_F := X_F.keep hW9
            replace BW := hid (BW.out.trans (hW9.mono BW.out.size))
            clear hW9
            obtain ⟨d0, d1, d2, d3⟩ := R_d.out.cells (i := i) (v := dk) hi (by simp only [if_true]; exact HDk.out)
            have zd := R_d.out.lt
            have fd0 := R_d.out.frozen (i * 4)
            have fd1 := R_d.out.frozen (i * 4 + 1)
            have fd2 := R_d.out.frozen (i * 4 + 2)
            have fd3 := R_d.out.frozen (i * 4 + 3)
            go_wp2
            obtain ⟨v8, hs9⟩ : ∃ q, ((((ws0.setCell ⟨gd, i * 4, none⟩ (.int .u64 (limb dn 0 : Int))).setCell ⟨gd, i * 4 + 1, none⟩ (.int .u64 (limb dn 1 : Int))).setCell ⟨gd, i * 4 + 2, none⟩ (.int .u64 (limb dn 2 : Int))).setCell ⟨gd, i * 4 + 3, none⟩ (.int .u64 (limb dn 3 : Int))) = q := ⟨_, rfl⟩
            have O9 : Only (fun k => k = gd) ws0 v8 := by rw [← hs9]; exact only_row _ _ _ _ _ _ _
            have S9 : RowF v8 w.heap.size 30 gd n n (fun t => if t = i then frm (fP b) (wdn (fP b) ns i (k + 1)) else (if t < i then frm (fP b) (wdn (fP b) ns t n) else 0)) := by rw [← hs9]; exact (R_d.out.store hi dn).congr (fun u _ => by rw [← HDn.out]; by_cases h : u = i <;> simp [h])
            rw [hs9]
            clear hs9
            clear d0 d1 d2 d3 zd fd0 fd1 fd2 fd3
            replace X_F := X_F.only O9 (show ¬ (bF = gd) by omega)
            replace R_x := hid (R_x.out.other O9 (show ¬ (gx = gd) by omega))
            replace BW := hid (BW.out.trans (O9.below (fun k h => by cases h; exact z0_gd) BW.out.size))
            replace R_d := hid S9
            clear O9 S9
            go_roundw
            case rel => exact ⟨k + 1, by omega, by go_num, X_F, R_x.out, R_d.out, BW.out⟩
            case measure => simp [intOf]; omega
        · skip
          obtain rfl : n = k := by omega
          clear hk
          go_wp2
          go_roundw
          case rel => exact ⟨i + 1, by omega, by go_num, X_F, R_x.out, R_d.out.congr (put_next (f := fun t => frm (fP b) (wdn (fP b) ns t n)) rfl), BW.out⟩
          case measure => simp [intOf]; omega
    · skip
      obtain rfl : n = i := by omega
      clear hi
      have z_F := X_F.lt
      have c_F0 := X_F.cell (i := 0) rfl
      have c_F1 := X_F.cell (i := 1) rfl
      have c_F2 := X_F.cell (i := 2) rfl
      have c_F3 := X_F.cell (i := 3) rfl
      have c_F4 := X_F.cell (i := 4) rfl
      have c_F5 := X_F.cell (i := 5) rfl
      have c_F6 := X_F.cell (i := 6) rfl
      have c_F7 := X_F.cell (i := 7) rfl
      have c_F8 := X_F.cell (i := 8) rfl
      have c_F9 := X_F.cell (i := 9) rfl
      have c_F10 := X_F.cell (i := 10) rfl
      have c_F11 := X_F.cell (i := 11) rfl
      have c_F12 := X_F.cell (i := 12) rfl
      have c_F13 := X_F.cell (i := 13) rfl
      have hp2 := fP_two b
      have NS : NumSl v5 (.slice (some ⟨gd, 0, none⟩) n n) ((dns (fP b) ns).map (frm (fP b))) := R_d.out.sl (by rw [List.length_map, dns_len, HL.out]) (fun i h => by rw [map_at (frm (fP b)) (dns_at (show i < ns.length by rw [HL.out]; exact h)), HL.out]; simp [h]) (fun y hy => by obtain ⟨z, _, rfl⟩ := List.mem_map.1 hy; exact Nat.lt_trans (frm_lt _ (by omega)) (fP_lt b))
      have BA := batch_any (fID b) (fP b) (fI b) (fS b) (.slice (some ⟨gd, 0, none⟩) n n) (dns (fP b) ns) v5 (hid (fOK b)) (hid (fer_b b)) NS (hid (dns_lt (by omega) ns)) (by rw [dns_len, HL.out]; exact hl)
      rw [← fO_eq, dns_inv, dns_len, HL.out] at BA
      have HBA := hid BA
      clear BA NS
      go_wp2_with fail
      refine HBA.out.mono ?_
      rintro e wz ⟨vz, rfl, ho, b9⟩
      have HO := hid (owns_mono ho BW.out.size)
      replace BW := hid (BW.out.trans (b9.mono BW.out.size))
      clear ho b9 HBA
      clear z_F c_F0 c_F1 c_F2 c_F3 c_F4 c_F5 c_F6 c_F7 c_F8 c_F9 c_F10 c_F11 c_F12 c_F13
      go_wp2
      refine bodyPost_ret (by simp only [results, Tryd.results13]; go_simp; try rfl) rfl ?_
      exact ⟨vz, rfl, HO.out, BW.out⟩
end Go.Proofs.YthdjjogdjabflaaDoor
