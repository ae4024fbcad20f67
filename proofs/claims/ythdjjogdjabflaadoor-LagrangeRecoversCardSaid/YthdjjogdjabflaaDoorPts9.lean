/-
  The elements of points.
-/
import Derived.Test.YthdjjogdjabflaaDoorSub9
import Derived.Test.YthdjjogdjabflaaDoorRowF
import Derived.Test.YthdjjogdjabflaaDoorLChk
import Derived.Deep.QuietTactic
import Derived.Deep.RegionHeld3
import Derived.Deep.DeepCutAuto
namespace Go.Proofs.YthdjjogdjabflaaDoor
open Go.RowKit

attribute [local go_sem] Oper.semAt_some
/-- A store at i into a row that held a value there. -/
theorem put_same {f : Nat → Nat} {i a r n : Nat} : ∀ t, t < n → (fun u => if u = i then r else f u) t = (fun u => if u = i then r else (if u = i then a else f u)) t := fun t _ => by
  by_cases h : t = i <;> simp [h]
/-- The first k are done: one more. -/
theorem put_next {f : Nat → Nat} {k r n : Nat} (h : f k = r) : ∀ t, t < n → (fun u => if u < k + 1 then f u else 0) t = (fun u => if u = k then r else (if u < k then f u else 0)) t := fun t _ => by
  by_cases e : t = k
  · subst e; simp [h]
  · by_cases l : t < k
    · simp [e, l]; intro h; omega
    · simp [e, l]; intro h; omega
theorem put_none {f : Nat → Nat} {n : Nat} : ∀ t, t < n → (fun u => if u < 0 then f u else 0) t = (fun _ => 0) t := fun t _ => by simp
theorem put_all {f : Nat → Nat} {n : Nat} : ∀ t, t < n → f t = (fun u => if u < n then f u else 0) t := fun t h => by simp [h]
set_option maxRecDepth 100000 in
set_option maxHeartbeats 2000000 in
theorem points_any (b : Bool) (v : Value) (xs : List Int) (w : World) (hS : IntSl w v xs) (hx : Hid (∀ x ∈ xs, 1 ≤ x ∧ x ≤ 255)) (hl : xs.length < 1000000) :
    Calls Tryd.prog 38 #[FV b, v] w (RetRow 30 xs.length (fun t => frm (fP b) ((pts xs).getD t 0)) w) := by
  have BW := hid (Below.refl w.heap.size w)
  have HS := hid hS
  obtain ⟨a, cap, rfl, _⟩ := hS
  obtain ⟨n, hn⟩ : ∃ n, xs.length = n := ⟨_, rfl⟩
  have HN := hid hn
  rw [hn] at hl HS ⊢
  clear hn
  go_enter Tryd.func38, Tryd.ntmps38
  go_upto_region 1 with (fail)
  obtain ⟨v1, hv9⟩ : ∃ v, (w.alloc (.cells #[.int .i64 (fID b), .int .u64 (limb (fP b) 0 : Int), .int .u64 (limb (fP b) 1 : Int), .int .u64 (limb (fP b) 2 : Int), .int .u64 (limb (fP b) 3 : Int), .int .u64 (fI b : Int), .int .u64 (limb (fO b) 0 : Int), .int .u64 (limb (fO b) 1 : Int), .int .u64 (limb (fO b) 2 : Int), .int .u64 (limb (fO b) 3 : Int), .int .u64 (limb (fS b) 0 : Int), .int .u64 (limb (fS b) 1 : Int), .int .u64 (limb (fS b) 2 : Int), .int .u64 (limb (fS b) 3 : Int)] 32)) = v := ⟨_, rfl⟩
  have hG9 : Below w.heap.size w v1 := by rw [← hv9]; go_grown
  have X_F : Blk v1 (w.heap.size) 32 [.int .i64 (fID b), .int .u64 (limb (fP b) 0 : Int), .int .u64 (limb (fP b) 1 : Int), .int .u64 (limb (fP b) 2 : Int), .int .u64 (limb (fP b) 3 : Int), .int .u64 (fI b : Int), .int .u64 (limb (fO b) 0 : Int), .int .u64 (limb (fO b) 1 : Int), .int .u64 (limb (fO b) 2 : Int), .int .u64 (limb (fO b) 3 : Int), .int .u64 (limb (fS b) 0 : Int), .int .u64 (limb (fS b) 1 : Int), .int .u64 (limb (fS b) 2 : Int), .int .u64 (limb (fS b) 3 : Int)] := by rw [← hv9]; exact Blk.new rfl
  obtain ⟨bF, hb9⟩ : ∃ k, w.heap.size = k := ⟨_, rfl⟩
  rw [hb9] at X_F
  have g_bF : w.heap.size ≤ bF := by rw [← hb9]; exact BW.out.size
  replace BW := hid (BW.out.trans (hG9.mono BW.out.size))
  clear hG9
  rw [hv9]
  try rw [hb9]
  clear hv9 hb9
  obtain ⟨wq_o, hmk_o, hR_o, hgq_o⟩ := run_made v1 n hl
  go_wp2
  have b9 : Below v1.heap.size v1 wq_o := Below.grown (Below.refl _ _) hgq_o (Nat.le_refl _) (fun j hj => by cases hj)
  obtain ⟨go, hg9⟩ : ∃ q, v1.heap.size = q := ⟨_, rfl⟩
  have lt9 : v1.heap.size ≤ go := by omega
  have q_F_go : bF < go := Nat.lt_of_lt_of_le X_F.lt lt9
  have z0_go : w.heap.size ≤ go := Nat.le_trans BW.out.size lt9
  have R_o := hid (hR_o.mono BW.out.size)
  rw [hg9] at R_o
  try rw [hg9]
  clear hR_o hgq_o hmk_o hg9 lt9
  replace X_F := X_F.keep b9
  replace BW := hid (BW.out.trans (b9.mono BW.out.size))
  clear b9
  go_loopw [13] (fun ix wr => ∃ k : Nat, k ≤ n ∧ ix = .int .i64 (k : Int) ∧ Blk wr (bF) 32 [.int .i64 (fID b), .int .u64 (limb (fP b) 0 : Int), .int .u64 (limb (fP b) 1 : Int), .int .u64 (limb (fP b) 2 : Int), .int .u64 (limb (fP b) 3 : Int), .int .u64 (fI b : Int), .int .u64 (limb (fO b) 0 : Int), .int .u64 (limb (fO b) 1 : Int), .int .u64 (limb (fO b) 2 : Int), .int .u64 (limb (fO b) 3 : Int), .int .u64 (limb (fS b) 0 : Int), .int .u64 (limb (fS b) 1 : Int), .int .u64 (limb (fS b) 2 : Int), .int .u64 (limb (fS b) 3 : Int)] ∧ RowF wr w.heap.size 30 go n n (fun t => if t < k then frm (fP b) ((pts xs).getD t 0) else 0) ∧ Below w.heap.size w wr) (fun ix _ => n - (intOf ix).toNat)
  case atStart => exact ⟨0, Nat.zero_le _, rfl, X_F, (R_o.out.congr put_none), BW.out⟩
  case round =>
    clear X_F R_o BW
    obtain ⟨k, hk_k, rfl, X_F, r9_o, b9⟩ := hrel
    obtain ⟨v3, hv9⟩ : ∃ v, v = wr := ⟨_, rfl⟩
    subst hv9
    have R_o := hid r9_o
    clear r9_o
    have BW := hid b9
    clear b9
    by_cases hlt : k < n
    · skip
      obtain ⟨x, hx9⟩ : ∃ x, xs[k]? = some x := ⟨xs[k]'(by rw [HN.out]; exact hlt), List.getElem?_eq_getElem _⟩
      obtain ⟨h1, h2⟩ := hx.out x (List.mem_of_getElem? hx9)
      have HP := hid (pts_at hx9)
      obtain ⟨g, off, rfl, hg, d0⟩ := (HS.out.below BW.out).at hx9
      clear hx9
      have hk0 : (0 : Int) ≤ (k : Int) := by omega
      have hkn : (k : Int) < (n : Int) := by omega
      obtain ⟨y, hy⟩ : ∃ y, frm (fP b) x.toNat = y := ⟨_, rfl⟩
      have HY := hid hy
      have M := hid (fun W : World => topt_any b x h1 h2 W)
      rw [hy] at M
      clear hy
      have z_F := X_F.lt
      have c_F0 := X_F.cell (i := 0) rfl
      have c_F1 := X_F.cell (i := 1) rfl
      have c_F2 := X_F.cell (i := 2) rfl
      have c_F3 := X_F.cell (i := 3) rfl
      have c_F4 := X_F.cell (i := 4) rfl
      have c_F5 := X_F.cell (i := 5) rfl
      have c_F6 := X_F.cell (i := 6) rfl
      have c_F7 := X_F.cell (i := 7) rfl
      have c_F8 := X_F.cell (i := 8) rfl
      have c_F9 := X_F.cell (i := 9) rfl
      have c_F10 := X_F.cell (i := 10) rfl
      have c_F11 := X_F.cell (i := 11) rfl
      have c_F12 := X_F.cell (i := 12) rfl
      have c_F13 := X_F.cell (i := 13) rfl
      go_wp2_with fail
      refine (M.out _).mono ?_
      rintro e v4 ⟨rfl, b9⟩
      replace R_o := hid (R_o.out.keep b9)
      clear z_F c_F0 c_F1 c_F2 c_F3 c_F4 c_F5 c_F6 c_F7 c_F8 c_F9 c_F10 c_F11 c_F12 c_F13
      replace X_F := X_F.keep b9
      replace BW := hid (BW.out.trans (b9.mono BW.out.size))
      clear b9
      obtain ⟨r0, r1, r2, r3⟩ := R_o.out.cells (i := k) (v := 0) hlt (by simp)
      have zr := R_o.out.lt
      have fr0 := R_o.out.frozen (k * 4)
      have fr1 := R_o.out.frozen (k * 4 + 1)
      have fr2 := R_o.out.frozen (k * 4 + 2)
      have fr3 := R_o.out.frozen (k * 4 + 3)
      have hk0 : (0 : Int) ≤ (k : Int) := by omega
      have hkn : (k : Int) < (n : Int) := by omega
      go_wp2
      obtain ⟨v5, hs9⟩ : ∃ q, ((((v4.setCell ⟨go, k * 4, none⟩ (.int .u64 (limb y 0 : Int))).setCell ⟨go, k * 4 + 1, none⟩ (.int .u64 (limb y 1 : Int))).setCell ⟨go, k * 4 + 2, none⟩ (.int .u64 (limb y 2 : Int))).setCell ⟨go, k * 4 + 3, none⟩ (.int .u64 (limb y 3 : Int))) = q := ⟨_, rfl⟩
      have O9 : Only (fun k => k = go) v4 v5 := by rw [← hs9]; exact only_row _ _ _ _ _ _ _
      have S9 : RowF v5 w.heap.size 30 go n n (fun t => if t < k + 1 then frm (fP b) ((pts xs).getD t 0) else 0) := by rw [← hs9]; exact (R_o.out.store hlt y).congr (put_next (by rw [HP.out]; exact HY.out))
      rw [hs9]
      clear hs9
      clear r0 r1 r2 r3 zr fr0 fr1 fr2 fr3
      replace X_F := X_F.only O9 (show ¬ (bF = go) by omega)
      replace BW := hid (BW.out.trans (O9.below (fun k h => by cases h; exact z0_go) BW.out.size))
      replace R_o := hid S9
      clear O9 S9
      go_roundw
      case rel => exact ⟨k + 1, by omega, by go_num, X_F, R_o.out, BW.out⟩
      case measure => simp [intOf]; omega
    · skip
      obtain rfl : n = k := by omega
      clear hlt
      go_wp2
      refine bodyPost_ret (by simp only [results, Tryd.results38]; go_simp; try rfl) rfl ?_
      exact ⟨go, rfl, R_o.out.congr put_all, BW.out⟩
end Go.Proofs.YthdjjogdjabflaaDoor
