/-
  All: whether several lists of values fit.
-/
import Derived.Test.YtogenbggjodcnaaDoorBel10
import Derived.Test.YtogenbggjodcnaaDoorSls
import Derived.Deep.RegionHeld3
namespace Go.Proofs.YtogenbggjodcnaaDoor
open Go.RowKit

attribute [local go_sem] Oper.semAt_some
/-- The conjunction of the first masks. -/
def andk (f : Nat → Nat) : Nat → Nat
  | 0 => 18446744073709551615
  | q + 1 => andk f q &&& f q
theorem andk_lt (f : Nat → Nat) : ∀ q, andk f q < B64
  | 0 => by unfold andk B64; decide
  | q + 1 => Nat.lt_of_le_of_lt Nat.and_le_left (andk_lt f q)
theorem Blk.set1 {w : World} {b : Nat} {t : TypeId} {x : Value} (h : Blk w b t [x]) (y : Value) : Blk (w.setCell ⟨b, 0, none⟩ y) b t [y] := h.set 0 y
theorem bmk_lt (cs : List Nat) (k : Int) : bmk cs k < B64 := by unfold bmk B64; rw [veil_eq]; split <;> omega
set_option maxRecDepth 100000 in
set_option maxHeartbeats 4000000 in
theorem all1 (b : Bool) (i n l sc yc pt pf px py pk pa am bm : Nat) (sa ya : Option Addr) (k : Int) (xs : List Int) (rs : List (Value × List Nat)) (r : Value × List Nat) (vs : List Nat) (w : World)
    (X_T : Blk w pt 53 [.pointer none]) (X_F : Blk w pf 31 [.int .i64 (fID b), .int .u64 (limb (fP b) 0 : Int), .int .u64 (limb (fP b) 1 : Int), .int .u64 (limb (fP b) 2 : Int), .int .u64 (limb (fP b) 3 : Int), .int .u64 (fI b : Int), .int .u64 (limb (fO b) 0 : Int), .int .u64 (limb (fO b) 1 : Int), .int .u64 (limb (fO b) 2 : Int), .int .u64 (limb (fO b) 3 : Int), .int .u64 (limb (fS b) 0 : Int), .int .u64 (limb (fS b) 1 : Int), .int .u64 (limb (fS b) 2 : Int), .int .u64 (limb (fS b) 3 : Int)]) (X_X : Blk w px 22 [.slice sa n sc]) (X_Y : Blk w py 44 [.slice ya l yc]) (X_K : Blk w pk 3 [.int .i64 k]) (X_A : Blk w pa 27 [.int .u64 (am : Int)])
    (hS : IntSl w (.slice sa n sc) xs) (hY : SlsSl w (.slice ya l yc) rs) (hr : rs[i]? = some r) (hv : r.2 = vs.map (frm (fP b))) (hvl : vs.length = n) (hn : xs.length = n) (hl : n < 10000) (hi : i < l) (hll : l < 1000000) (hc : chkx xs = 0) (ham : am < B64) (hbm : bmk (itp (fP b) (pts xs) vs n) k = bm) :
    Calls Tryd.prog 63 #[.int .i64 (i : Int), .pointer (some ⟨pt, 0, none⟩), .pointer (some ⟨pf, 0, none⟩), .pointer (some ⟨px, 0, none⟩), .pointer (some ⟨py, 0, none⟩), .pointer (some ⟨pk, 0, none⟩), .pointer (some ⟨pa, 0, none⟩)] w (fun e w' => e = .returned (.tuple #[]) ∧ Only (fun k => k = pa) w w' ∧ Blk w' pa 27 [.int .u64 ((am &&& bm : Nat) : Int)]) := by
  have BW := hid (Only.refl (fun k => k = pa) w)
  obtain ⟨rv, rl⟩ := r
  have hv9 : rl = vs.map (frm (fP b)) := hv
  subst hv9
  obtain ⟨g, off, rfl, hg, d0, hN⟩ := hY.at hr
  have FC := hid (fun (W : World) (h : IntSl W (.slice sa n sc) xs) (h2 : NumSl W rv (vs.map (frm (fP b)))) => fits_ok b (.slice sa n sc) rv xs vs k W h h2 (by omega) hc (by rw [hvl, hn]))
  rw [hn, hbm] at FC
  have HS := hid hS
  have HN := hid hN
  have hb64 : bm < B64 := by rw [← hbm]; exact bmk_lt _ _
  have hand := bits_and_nat am bm ham hb64
  have hi0 : (0 : Int) ≤ (i : Int) := by omega
  have hil : (i : Int) < (l : Int) := by omega
  simp only at d0
  have D0 := hid d0
  clear hY hr hv hvl hn hc hbm hS hN ham hb64 d0
  go_enter Tryd.func63, Tryd.ntmps63
  have z_T := X_T.lt
  have c_T0 := X_T.cell (i := 0) rfl
  go_upto_region 1 with (go_at_call 64; refine (note_nil _ _ _ _).mono ?_; rintro e w' ⟨rfl, rfl⟩)
  clear z_T c_T0
  have d0 := D0.out
  have z_T := X_T.lt
  have c_T0 := X_T.cell (i := 0) rfl
  have z_F := X_F.lt
  have c_F0 := X_F.cell (i := 0) rfl
  have c_F1 := X_F.cell (i := 1) rfl
  have c_F2 := X_F.cell (i := 2) rfl
  have c_F3 := X_F.cell (i := 3) rfl
  have c_F4 := X_F.cell (i := 4) rfl
  have c_F5 := X_F.cell (i := 5) rfl
  have c_F6 := X_F.cell (i := 6) rfl
  have c_F7 := X_F.cell (i := 7) rfl
  have c_F8 := X_F.cell (i := 8) rfl
  have c_F9 := X_F.cell (i := 9) rfl
  have c_F10 := X_F.cell (i := 10) rfl
  have c_F11 := X_F.cell (i := 11) rfl
  have c_F12 := X_F.cell (i := 12) rfl
  have c_F13 := X_F.cell (i := 13) rfl
  have z_X := X_X.lt
  have c_X0 := X_X.cell (i := 0) rfl
  have z_Y := X_Y.lt
  have c_Y0 := X_Y.cell (i := 0) rfl
  have z_K := X_K.lt
  have c_K0 := X_K.cell (i := 0) rfl
  go_wp2_with fail
  go_region_held3 (fun w' => ∀ b o, b < w.heap.size → w'.cell? ⟨b, o, none⟩ = w.cell? ⟨b, o, none⟩) ((intro b o h; first | with_reducible exact c1 b o h | with_reducible exact cell_drew | with_reducible exact cell_drew.trans (cell_alloc h) | (with_reducible refine (cell_alloc (by (try simp); omega)).trans ?_; first | with_reducible exact c1 b o h | with_reducible exact cell_drew) | with_reducible exact (below_set4 H1.out (by omega) _ _ _ _).cell (p := ⟨b, o, none⟩) h)) (first | (go_at_call 17; refine (FC.out _ (HS.out.below (by first | with_reducible exact Below.drew (Below.refl _ _) | with_reducible exact Below.drew ((Below.refl _ _).alloc (Nat.le_refl _) _))) (HN.out.below (by first | with_reducible exact Below.drew (Below.refl _ _) | with_reducible exact Below.drew ((Below.refl _ _).alloc (Nat.le_refl _) _)))).mono ?_; rintro e ra1 ⟨rfl, b9⟩; have H1 : Hid (Below w.heap.size w ra1) := hid (Below.drew (Below.refl _ w)).trans b9; clear b9; have c1 := bcell H1.out; have z1 := H1.out.size))
  have hH9 := H1.out
  clear z_T c_T0 z_F c_F0 c_F1 c_F2 c_F3 c_F4 c_F5 c_F6 c_F7 c_F8 c_F9 c_F10 c_F11 c_F12 c_F13 z_X c_X0 z_Y c_Y0 z_K c_K0
  replace X_T := X_T.keep hH9
  replace X_F := X_F.keep hH9
  replace X_X := X_X.keep hH9
  replace X_Y := X_Y.keep hH9
  replace X_K := X_K.keep hH9
  replace X_A := X_A.keep hH9
  replace BW := hid (BW.out.call hH9)
  clear hH9
  clear H1 c1 z1
  clear d0
  have z_A := X_A.lt
  have c_A0 := X_A.cell (i := 0) rfl
  have f_A0 := X_A.frozen 0
  go_wp2
  try rw [hand]
  go_end0
  exact ⟨rfl, BW.out.setCell (p := ⟨pa, 0, none⟩) (.inl rfl) _, X_A.set1 _⟩
set_option maxRecDepth 100000 in
set_option maxHeartbeats 2000000 in
theorem all_bad (b : Bool) (v u : Value) (xs : List Int) (rs : List (Value × List Nat)) (k : Int) (w : World) (hS : IntSl w v xs) (hY : SlsSl w u rs) (hl : xs.length < 10000) (hll : rs.length < 1000000) (hc : chkx xs ≠ 0) :
    Calls Tryd.prog 21 #[.pointer none, FV b, v, u, .int .i64 k] w (Ret (.tuple #[.int .u64 0, .int .i64 (chkx xs)]) w) := by
  have BW := hid (Below.refl w.heap.size w)
  have HS := hid hS
  obtain ⟨sa, sc, rfl, _⟩ := hS
  obtain ⟨n, hn⟩ : ∃ n, xs.length = n := ⟨_, rfl⟩
  rw [hn] at HS hl ⊢
  have HY := hid hY
  obtain ⟨ya, yc, rfl, _, _⟩ := hY
  obtain ⟨l, hl9⟩ : ∃ n, rs.length = n := ⟨_, rfl⟩
  rw [hl9] at HY hll ⊢
  have HL := hid hl9
  have CK := hid (fun (W : World) (h : IntSl W (.slice sa n sc) xs) => lcheck_any (.slice sa n sc) xs W h (by omega))
  obtain ⟨c, hc9⟩ : ∃ c, chkx xs = c := ⟨_, rfl⟩
  rw [hc9] at hc CK ⊢
  clear hc9 hn hl9
  have hd : (c != 0) = true := by simp [hc]
  go_enter Tryd.func21, Tryd.ntmps21
  go_wp2_with fail
  obtain ⟨v1, hv9⟩ : ∃ v, (((((w.alloc (.cells #[.pointer none] 53)).alloc (.cells #[.int .i64 (fID b), .int .u64 (limb (fP b) 0 : Int), .int .u64 (limb (fP b) 1 : Int), .int .u64 (limb (fP b) 2 : Int), .int .u64 (limb (fP b) 3 : Int), .int .u64 (fI b : Int), .int .u64 (limb (fO b) 0 : Int), .int .u64 (limb (fO b) 1 : Int), .int .u64 (limb (fO b) 2 : Int), .int .u64 (limb (fO b) 3 : Int), .int .u64 (limb (fS b) 0 : Int), .int .u64 (limb (fS b) 1 : Int), .int .u64 (limb (fS b) 2 : Int), .int .u64 (limb (fS b) 3 : Int)] 31)).alloc (.cells #[.slice sa n sc] 22)).alloc (.cells #[.slice ya l yc] 44)).alloc (.cells #[.int .i64 k] 3)) = v := ⟨_, rfl⟩
  have hG9 : Below w.heap.size w v1 := by rw [← hv9]; go_grown
  have X_T : Blk v1 (w.heap.size) 53 [.pointer none] := by rw [← hv9]; exact Blk.alloc (Blk.alloc (Blk.alloc (Blk.alloc (Blk.new rfl) _) _) _) _
  have X_F : Blk v1 (w.heap.size + 1) 31 [.int .i64 (fID b), .int .u64 (limb (fP b) 0 : Int), .int .u64 (limb (fP b) 1 : Int), .int .u64 (limb (fP b) 2 : Int), .int .u64 (limb (fP b) 3 : Int), .int .u64 (fI b : Int), .int .u64 (limb (fO b) 0 : Int), .int .u64 (limb (fO b) 1 : Int), .int .u64 (limb (fO b) 2 : Int), .int .u64 (limb (fO b) 3 : Int), .int .u64 (limb (fS b) 0 : Int), .int .u64 (limb (fS b) 1 : Int), .int .u64 (limb (fS b) 2 : Int), .int .u64 (limb (fS b) 3 : Int)] := by rw [← hv9]; exact Blk.alloc (Blk.alloc (Blk.alloc (Blk.new (by simp)) _) _) _
  have X_X : Blk v1 (w.heap.size + 1 + 1) 22 [.slice sa n sc] := by rw [← hv9]; exact Blk.alloc (Blk.alloc (Blk.new (by simp)) _) _
  have X_Y : Blk v1 (w.heap.size + 1 + 1 + 1) 44 [.slice ya l yc] := by rw [← hv9]; exact Blk.alloc (Blk.new (by simp)) _
  have X_K : Blk v1 (w.heap.size + 1 + 1 + 1 + 1) 3 [.int .i64 k] := by rw [← hv9]; exact Blk.new (by simp)
  obtain ⟨bT, hb9⟩ : ∃ k, w.heap.size = k := ⟨_, rfl⟩
  rw [hb9] at X_T
  rw [hb9] at X_F
  rw [hb9] at X_X
  rw [hb9] at X_Y
  rw [hb9] at X_K
  have g_bT : w.heap.size ≤ bT := by rw [← hb9]; exact BW.out.size
  replace BW := hid (BW.out.trans (hG9.mono BW.out.size))
  clear hG9
  rw [hv9]
  try rw [hb9]
  clear hv9 hb9
  refine (CK.out _ (HS.out.below BW.out)).mono ?_
  rintro e v2 ⟨rfl, b9⟩
  replace X_T := X_T.keep b9
  replace X_F := X_F.keep b9
  replace X_X := X_X.keep b9
  replace X_Y := X_Y.keep b9
  replace X_K := X_K.keep b9
  replace BW := hid (BW.out.trans (b9.mono BW.out.size))
  clear b9
  go_wp2
  refine bodyPost_ret (by simp only [results, Tryd.results21]; go_simp; try rfl) rfl ?_
  exact ⟨rfl, BW.out⟩
set_option maxRecDepth 100000 in
set_option maxHeartbeats 2000000 in
theorem all_len (b : Bool) (v u : Value) (xs : List Int) (rs : List (Value × List Nat)) (k : Int) (w : World) (hS : IntSl w v xs) (hY : SlsSl w u rs) (hl : xs.length < 10000) (hll : rs.length < 1000000) (hc : chkx xs = 0) (hd : ∃ r ∈ rs, r.2.length ≠ xs.length) :
    Calls Tryd.prog 21 #[.pointer none, FV b, v, u, .int .i64 k] w (Ret (.tuple #[.int .u64 0, .int .i64 8]) w) := by
  have BW := hid (Below.refl w.heap.size w)
  have HS := hid hS
  obtain ⟨sa, sc, rfl, _⟩ := hS
  obtain ⟨n, hn⟩ : ∃ n, xs.length = n := ⟨_, rfl⟩
  rw [hn] at HS hl ⊢
  have HY := hid hY
  obtain ⟨ya, yc, rfl, _, _⟩ := hY
  obtain ⟨l, hl9⟩ : ∃ n, rs.length = n := ⟨_, rfl⟩
  rw [hl9] at HY hll ⊢
  have HL := hid hl9
  have CK := hid (fun (W : World) (h : IntSl W (.slice sa n sc) xs) => lcheck_any (.slice sa n sc) xs W h (by omega))
  rw [hc] at CK
  rw [hn] at hd
  have HD := hid hd
  clear hd hc hn hl9
  go_enter Tryd.func21, Tryd.ntmps21
  go_wp2_with fail
  obtain ⟨v1, hv9⟩ : ∃ v, (((((w.alloc (.cells #[.pointer none] 53)).alloc (.cells #[.int .i64 (fID b), .int .u64 (limb (fP b) 0 : Int), .int .u64 (limb (fP b) 1 : Int), .int .u64 (limb (fP b) 2 : Int), .int .u64 (limb (fP b) 3 : Int), .int .u64 (fI b : Int), .int .u64 (limb (fO b) 0 : Int), .int .u64 (limb (fO b) 1 : Int), .int .u64 (limb (fO b) 2 : Int), .int .u64 (limb (fO b) 3 : Int), .int .u64 (limb (fS b) 0 : Int), .int .u64 (limb (fS b) 1 : Int), .int .u64 (limb (fS b) 2 : Int), .int .u64 (limb (fS b) 3 : Int)] 31)).alloc (.cells #[.slice sa n sc] 22)).alloc (.cells #[.slice ya l yc] 44)).alloc (.cells #[.int .i64 k] 3)) = v := ⟨_, rfl⟩
  have hG9 : Below w.heap.size w v1 := by rw [← hv9]; go_grown
  have X_T : Blk v1 (w.heap.size) 53 [.pointer none] := by rw [← hv9]; exact Blk.alloc (Blk.alloc (Blk.alloc (Blk.alloc (Blk.new rfl) _) _) _) _
  have X_F : Blk v1 (w.heap.size + 1) 31 [.int .i64 (fID b), .int .u64 (limb (fP b) 0 : Int), .int .u64 (limb (fP b) 1 : Int), .int .u64 (limb (fP b) 2 : Int), .int .u64 (limb (fP b) 3 : Int), .int .u64 (fI b : Int), .int .u64 (limb (fO b) 0 : Int), .int .u64 (limb (fO b) 1 : Int), .int .u64 (limb (fO b) 2 : Int), .int .u64 (limb (fO b) 3 : Int), .int .u64 (limb (fS b) 0 : Int), .int .u64 (limb (fS b) 1 : Int), .int .u64 (limb (fS b) 2 : Int), .int .u64 (limb (fS b) 3 : Int)] := by rw [← hv9]; exact Blk.alloc (Blk.alloc (Blk.alloc (Blk.new (by simp)) _) _) _
  have X_X : Blk v1 (w.heap.size + 1 + 1) 22 [.slice sa n sc] := by rw [← hv9]; exact Blk.alloc (Blk.alloc (Blk.new (by simp)) _) _
  have X_Y : Blk v1 (w.heap.size + 1 + 1 + 1) 44 [.slice ya l yc] := by rw [← hv9]; exact Blk.alloc (Blk.new (by simp)) _
  have X_K : Blk v1 (w.heap.size + 1 + 1 + 1 + 1) 3 [.int .i64 k] := by rw [← hv9]; exact Blk.new (by simp)
  obtain ⟨bT, hb9⟩ : ∃ k, w.heap.size = k := ⟨_, rfl⟩
  rw [hb9] at X_T
  rw [hb9] at X_F
  rw [hb9] at X_X
  rw [hb9] at X_Y
  rw [hb9] at X_K
  have g_bT : w.heap.size ≤ bT := by rw [← hb9]; exact BW.out.size
  replace BW := hid (BW.out.trans (hG9.mono BW.out.size))
  clear hG9
  rw [hv9]
  try rw [hb9]
  clear hv9 hb9
  refine (CK.out _ (HS.out.below BW.out)).mono ?_
  rintro e v2 ⟨rfl, b9⟩
  replace X_T := X_T.keep b9
  replace X_F := X_F.keep b9
  replace X_X := X_X.keep b9
  replace X_Y := X_Y.keep b9
  replace X_K := X_K.keep b9
  replace BW := hid (BW.out.trans (b9.mono BW.out.size))
  clear b9
  have z_Y := X_Y.lt
  have c_Y0 := X_Y.cell (i := 0) rfl
  go_wp2
  clear z_Y c_Y0
  go_loopw [25] (fun ix wr => ∃ q : Nat, q ≤ l ∧ ix = .int .i64 (q : Int) ∧ Blk wr (bT) 53 [.pointer none] ∧ Blk wr (bT + 1) 31 [.int .i64 (fID b), .int .u64 (limb (fP b) 0 : Int), .int .u64 (limb (fP b) 1 : Int), .int .u64 (limb (fP b) 2 : Int), .int .u64 (limb (fP b) 3 : Int), .int .u64 (fI b : Int), .int .u64 (limb (fO b) 0 : Int), .int .u64 (limb (fO b) 1 : Int), .int .u64 (limb (fO b) 2 : Int), .int .u64 (limb (fO b) 3 : Int), .int .u64 (limb (fS b) 0 : Int), .int .u64 (limb (fS b) 1 : Int), .int .u64 (limb (fS b) 2 : Int), .int .u64 (limb (fS b) 3 : Int)] ∧ Blk wr (bT + 1 + 1) 22 [.slice sa n sc] ∧ Blk wr (bT + 1 + 1 + 1) 44 [.slice ya l yc] ∧ Blk wr (bT + 1 + 1 + 1 + 1) 3 [.int .i64 k] ∧ Below w.heap.size w wr ∧ ∀ j, j < q → ∀ r, rs[j]? = some r → r.2.length = n) (fun ix _ => l - (intOf ix).toNat)
  case atStart => exact ⟨0, Nat.zero_le _, rfl, X_T, X_F, X_X, X_Y, X_K, BW.out, fun j h => absurd h (Nat.not_lt_zero _)⟩
  case round =>
    clear X_T X_F X_X X_Y X_K BW
    obtain ⟨q, hk_q, rfl, X_T, X_F, X_X, X_Y, X_K, b9, hm_q⟩ := hrel
    obtain ⟨v3, hv9⟩ : ∃ v, v = wr := ⟨_, rfl⟩
    subst hv9
    have BW := hid b9
    clear b9
    have HM_q := hid hm_q
    clear hm_q
    by_cases hq : q < l
    · skip
      have HJ := HM_q
      clear HM_q
      obtain ⟨⟨rv, rl⟩, hr⟩ : ∃ x, rs[q]? = some x := ⟨rs[q]'(by rw [HL.out]; exact hq), List.getElem?_eq_getElem _⟩
      obtain ⟨g, off, rfl, hg, d0, hN⟩ := (HY.out.below BW.out).at hr
      simp only at d0 hN
      obtain ⟨ra, rc, rfl, _, _⟩ := id hN
      have hq0 : (0 : Int) ≤ (q : Int) := by omega
      have hql : (q : Int) < (l : Int) := by omega
      obtain ⟨m, hm⟩ : ∃ m, rl.length = m := ⟨_, rfl⟩
      rw [hm] at d0 hN
      by_cases e : m = n
      · skip
        subst e
        have hd : ((m : Int) != (m : Int)) = false := by simp
        clear hN
        have z_X := X_X.lt
        have c_X0 := X_X.cell (i := 0) rfl
        go_wp2
        go_roundw
        case rel => exact ⟨q + 1, by omega, by go_num, X_T, X_F, X_X, X_Y, X_K, BW.out, fun j hj r hr9 => by
                        by_cases e9 : j = q
                        · subst e9; rw [hr] at hr9; cases hr9; exact hm
                        · exact HJ.out j (by omega) r hr9⟩
        case measure => simp [intOf]; omega
      · skip
        have hd : ((m : Int) != (n : Int)) = true := by simp; omega
        clear hN
        have z_X := X_X.lt
        have c_X0 := X_X.cell (i := 0) rfl
        go_wp2
        refine bodyPost_ret (by simp only [results, Tryd.results21]; go_simp; try rfl) rfl ?_
        exact ⟨rfl, BW.out⟩
    · skip
      obtain rfl : l = q := by omega
      clear hq
      obtain ⟨r, hr, hne⟩ := HD.out
      obtain ⟨j, hj⟩ := List.mem_iff_getElem?.1 hr
      exact absurd (HM_q.out j (by rw [← HL.out]; exact (List.getElem?_eq_some_iff.1 hj).1) r hj) hne
set_option maxRecDepth 100000 in
set_option maxHeartbeats 4000000 in
theorem all_ok (b : Bool) (v u : Value) (xs : List Int) (rs : List (Value × List Nat)) (k : Int) (w : World) (hS : IntSl w v xs) (hY : SlsSl w u rs) (hl : xs.length < 10000) (hll : rs.length < 1000000) (hc : chkx xs = 0) (fv : Nat → Nat) (hfv : ∀ j r, rs[j]? = some r → ∃ vs : List Nat, r.2 = vs.map (frm (fP b)) ∧ vs.length = xs.length ∧ bmk (itp (fP b) (pts xs) vs xs.length) k = fv j) :
    Calls Tryd.prog 21 #[.pointer none, FV b, v, u, .int .i64 k] w (Ret (.tuple #[.int .u64 (andk fv rs.length : Int), .int .i64 0]) w) := by
  have BW := hid (Below.refl w.heap.size w)
  have HS := hid hS
  obtain ⟨sa, sc, rfl, _⟩ := hS
  obtain ⟨n, hn⟩ : ∃ n, xs.length = n := ⟨_, rfl⟩
  rw [hn] at HS hl ⊢
  have HY := hid hY
  obtain ⟨ya, yc, rfl, _, _⟩ := hY
  obtain ⟨l, hl9⟩ : ∃ n, rs.length = n := ⟨_, rfl⟩
  rw [hl9] at HY hll ⊢
  have HL := hid hl9
  have CK := hid (fun (W : World) (h : IntSl W (.slice sa n sc) xs) => lcheck_any (.slice sa n sc) xs W h (by omega))
  rw [hc] at CK
  rw [hn] at hfv
  have HFV := hid hfv
  have HC := hid hc
  have HN := hid hn
  have hd : ((n : Int) != (n : Int)) = false := by simp
  clear hfv hc hn hl9
  have FBC := hid (fun W : World => (fromBit_any 1 (by decide) W).mono (R' := Ret (.int .u64 (msk 1 : Int)) W) (by rintro e w' ⟨rfl, rfl⟩; exact ⟨rfl, Below.refl _ _⟩))
  rw [show (msk 1 : Int) = 18446744073709551615 by rw [msk_eq]; rfl] at FBC
  go_enter Tryd.func21, Tryd.ntmps21
  go_wp2_with fail
  obtain ⟨v1, hv9⟩ : ∃ v, (((((w.alloc (.cells #[.pointer none] 53)).alloc (.cells #[.int .i64 (fID b), .int .u64 (limb (fP b) 0 : Int), .int .u64 (limb (fP b) 1 : Int), .int .u64 (limb (fP b) 2 : Int), .int .u64 (limb (fP b) 3 : Int), .int .u64 (fI b : Int), .int .u64 (limb (fO b) 0 : Int), .int .u64 (limb (fO b) 1 : Int), .int .u64 (limb (fO b) 2 : Int), .int .u64 (limb (fO b) 3 : Int), .int .u64 (limb (fS b) 0 : Int), .int .u64 (limb (fS b) 1 : Int), .int .u64 (limb (fS b) 2 : Int), .int .u64 (limb (fS b) 3 : Int)] 31)).alloc (.cells #[.slice sa n sc] 22)).alloc (.cells #[.slice ya l yc] 44)).alloc (.cells #[.int .i64 k] 3)) = v := ⟨_, rfl⟩
  have hG9 : Below w.heap.size w v1 := by rw [← hv9]; go_grown
  have X_T : Blk v1 (w.heap.size) 53 [.pointer none] := by rw [← hv9]; exact Blk.alloc (Blk.alloc (Blk.alloc (Blk.alloc (Blk.new rfl) _) _) _) _
  have X_F : Blk v1 (w.heap.size + 1) 31 [.int .i64 (fID b), .int .u64 (limb (fP b) 0 : Int), .int .u64 (limb (fP b) 1 : Int), .int .u64 (limb (fP b) 2 : Int), .int .u64 (limb (fP b) 3 : Int), .int .u64 (fI b : Int), .int .u64 (limb (fO b) 0 : Int), .int .u64 (limb (fO b) 1 : Int), .int .u64 (limb (fO b) 2 : Int), .int .u64 (limb (fO b) 3 : Int), .int .u64 (limb (fS b) 0 : Int), .int .u64 (limb (fS b) 1 : Int), .int .u64 (limb (fS b) 2 : Int), .int .u64 (limb (fS b) 3 : Int)] := by rw [← hv9]; exact Blk.alloc (Blk.alloc (Blk.alloc (Blk.new (by simp)) _) _) _
  have X_X : Blk v1 (w.heap.size + 1 + 1) 22 [.slice sa n sc] := by rw [← hv9]; exact Blk.alloc (Blk.alloc (Blk.new (by simp)) _) _
  have X_Y : Blk v1 (w.heap.size + 1 + 1 + 1) 44 [.slice ya l yc] := by rw [← hv9]; exact Blk.alloc (Blk.new (by simp)) _
  have X_K : Blk v1 (w.heap.size + 1 + 1 + 1 + 1) 3 [.int .i64 k] := by rw [← hv9]; exact Blk.new (by simp)
  obtain ⟨bT, hb9⟩ : ∃ k, w.heap.size = k := ⟨_, rfl⟩
  rw [hb9] at X_T
  rw [hb9] at X_F
  rw [hb9] at X_X
  rw [hb9] at X_Y
  rw [hb9] at X_K
  have g_bT : w.heap.size ≤ bT := by rw [← hb9]; exact BW.out.size
  replace BW := hid (BW.out.trans (hG9.mono BW.out.size))
  clear hG9
  rw [hv9]
  try rw [hb9]
  clear hv9 hb9
  refine (CK.out _ (HS.out.below BW.out)).mono ?_
  rintro e v2 ⟨rfl, b9⟩
  replace X_T := X_T.keep b9
  replace X_F := X_F.keep b9
  replace X_X := X_X.keep b9
  replace X_Y := X_Y.keep b9
  replace X_K := X_K.keep b9
  replace BW := hid (BW.out.trans (b9.mono BW.out.size))
  clear b9
  have z_Y := X_Y.lt
  have c_Y0 := X_Y.cell (i := 0) rfl
  go_wp2
  clear z_Y c_Y0
  go_loopw [25] (fun ix wr => ∃ q : Nat, q ≤ l ∧ ix = .int .i64 (q : Int) ∧ Blk wr (bT) 53 [.pointer none] ∧ Blk wr (bT + 1) 31 [.int .i64 (fID b), .int .u64 (limb (fP b) 0 : Int), .int .u64 (limb (fP b) 1 : Int), .int .u64 (limb (fP b) 2 : Int), .int .u64 (limb (fP b) 3 : Int), .int .u64 (fI b : Int), .int .u64 (limb (fO b) 0 : Int), .int .u64 (limb (fO b) 1 : Int), .int .u64 (limb (fO b) 2 : Int), .int .u64 (limb (fO b) 3 : Int), .int .u64 (limb (fS b) 0 : Int), .int .u64 (limb (fS b) 1 : Int), .int .u64 (limb (fS b) 2 : Int), .int .u64 (limb (fS b) 3 : Int)] ∧ Blk wr (bT + 1 + 1) 22 [.slice sa n sc] ∧ Blk wr (bT + 1 + 1 + 1) 44 [.slice ya l yc] ∧ Blk wr (bT + 1 + 1 + 1 + 1) 3 [.int .i64 k] ∧ Below w.heap.size w wr) (fun ix _ => l - (intOf ix).toNat)
  case atStart => exact ⟨0, Nat.zero_le _, rfl, X_T, X_F, X_X, X_Y, X_K, BW.out⟩
  case round =>
    clear X_T X_F X_X X_Y X_K BW
    obtain ⟨q, hk_q, rfl, X_T, X_F, X_X, X_Y, X_K, b9⟩ := hrel
    obtain ⟨v3, hv9⟩ : ∃ v, v = wr := ⟨_, rfl⟩
    subst hv9
    have BW := hid b9
    clear b9
    by_cases hq : q < l
    · skip
      obtain ⟨⟨rv, rl⟩, hr⟩ : ∃ x, rs[q]? = some x := ⟨rs[q]'(by rw [HL.out]; exact hq), List.getElem?_eq_getElem _⟩
      obtain ⟨g, off, rfl, hg, d0, hN⟩ := (HY.out.below BW.out).at hr
      simp only at d0 hN
      obtain ⟨ra, rc, rfl, _, _⟩ := id hN
      have hq0 : (0 : Int) ≤ (q : Int) := by omega
      have hql : (q : Int) < (l : Int) := by omega
      obtain ⟨vs, hvs, hvl, _⟩ := HFV.out q _ hr
      simp only at hvs
      have hm : rl.length = n := by rw [hvs, List.length_map, hvl]
      rw [hm] at d0
      clear hN hvs hvl hm
      have z_X := X_X.lt
      have c_X0 := X_X.cell (i := 0) rfl
      go_wp2
      go_roundw
      case rel => exact ⟨q + 1, by omega, by go_num, X_T, X_F, X_X, X_Y, X_K, BW.out⟩
      case measure => simp [intOf]; omega
    · skip
      obtain rfl : l = q := by omega
      clear hq
      go_wp2_with fail
      refine (FBC.out _).mono ?_
      rintro e v4 ⟨rfl, b9⟩
      replace X_T := X_T.keep b9
      replace X_F := X_F.keep b9
      replace X_X := X_X.keep b9
      replace X_Y := X_Y.keep b9
      replace X_K := X_K.keep b9
      replace BW := hid (BW.out.trans (b9.mono BW.out.size))
      clear b9
      have z_Y := X_Y.lt
      have c_Y0 := X_Y.cell (i := 0) rfl
      go_wp2
      obtain ⟨v5, hv9⟩ : ∃ v, (v4.alloc (.cells #[.int .u64 18446744073709551615] 27)) = v := ⟨_, rfl⟩
      have hG9 : Below v4.heap.size v4 v5 := by rw [← hv9]; go_grown
      have X_A : Blk v5 (v4.heap.size) 27 [.int .u64 18446744073709551615] := by rw [← hv9]; exact Blk.new rfl
      obtain ⟨bA, hb9⟩ : ∃ k, v4.heap.size = k := ⟨_, rfl⟩
      rw [hb9] at X_A
      have g_bA : w.heap.size ≤ bA := by rw [← hb9]; exact BW.out.size
      have q_T_bA : bT < bA := by rw [← hb9]; exact X_T.lt
      have q_F_bA : bT + 1 < bA := by rw [← hb9]; exact X_F.lt
      have q_X_bA : bT + 1 + 1 < bA := by rw [← hb9]; exact X_X.lt
      have q_Y_bA : bT + 1 + 1 + 1 < bA := by rw [← hb9]; exact X_Y.lt
      have q_K_bA : bT + 1 + 1 + 1 + 1 < bA := by rw [← hb9]; exact X_K.lt
      clear z_Y c_Y0
      replace X_T := X_T.keep hG9
      replace X_F := X_F.keep hG9
      replace X_X := X_X.keep hG9
      replace X_Y := X_Y.keep hG9
      replace X_K := X_K.keep hG9
      replace BW := hid (BW.out.trans (hG9.mono BW.out.size))
      clear hG9
      rw [hv9]
      try rw [hb9]
      clear hv9 hb9
      go_loopw [39] (fun ix wr => ∃ q : Nat, q ≤ l ∧ ix = .int .i64 (q : Int) ∧ Blk wr (bT) 53 [.pointer none] ∧ Blk wr (bT + 1) 31 [.int .i64 (fID b), .int .u64 (limb (fP b) 0 : Int), .int .u64 (limb (fP b) 1 : Int), .int .u64 (limb (fP b) 2 : Int), .int .u64 (limb (fP b) 3 : Int), .int .u64 (fI b : Int), .int .u64 (limb (fO b) 0 : Int), .int .u64 (limb (fO b) 1 : Int), .int .u64 (limb (fO b) 2 : Int), .int .u64 (limb (fO b) 3 : Int), .int .u64 (limb (fS b) 0 : Int), .int .u64 (limb (fS b) 1 : Int), .int .u64 (limb (fS b) 2 : Int), .int .u64 (limb (fS b) 3 : Int)] ∧ Blk wr (bT + 1 + 1) 22 [.slice sa n sc] ∧ Blk wr (bT + 1 + 1 + 1) 44 [.slice ya l yc] ∧ Blk wr (bT + 1 + 1 + 1 + 1) 3 [.int .i64 k] ∧ Blk wr (bA) 27 [.int .u64 (andk fv q : Int)] ∧ Below w.heap.size w wr) (fun ix _ => l - (intOf ix).toNat)
      case atStart => exact ⟨0, Nat.zero_le _, rfl, X_T, X_F, X_X, X_Y, X_K, X_A, BW.out⟩
      case round =>
        clear X_T X_F X_X X_Y X_K X_A BW
        obtain ⟨q, hk_q, rfl, X_T, X_F, X_X, X_Y, X_K, X_A, b9⟩ := hrel
        obtain ⟨v6, hv9⟩ : ∃ v, v = wr := ⟨_, rfl⟩
        subst hv9
        have BW := hid b9
        clear b9
        by_cases hq : q < l
        · skip
          obtain ⟨⟨rv, rl⟩, hr⟩ : ∃ x, rs[q]? = some x := ⟨rs[q]'(by rw [HL.out]; exact hq), List.getElem?_eq_getElem _⟩
          obtain ⟨vs, hvs, hvl, hbm⟩ := HFV.out q _ hr
          go_wp2_with fail
          refine (all1 b q n l sc yc _ _ _ _ _ _ _ _ sa ya k xs rs (rv, rl) vs _ X_T X_F X_X X_Y X_K X_A (HS.out.below BW.out) (HY.out.below BW.out) hr hvs hvl HN.out hl hq hll HC.out (andk_lt fv q) hbm).mono ?_
          rintro e v7 ⟨rfl, O9, A9⟩
          clear hr hvs hvl hbm
          replace X_T := X_T.only O9 (show ¬ (bT = bA) by omega)
          replace X_F := X_F.only O9 (show ¬ (bT + 1 = bA) by omega)
          replace X_X := X_X.only O9 (show ¬ (bT + 1 + 1 = bA) by omega)
          replace X_Y := X_Y.only O9 (show ¬ (bT + 1 + 1 + 1 = bA) by omega)
          replace X_K := X_K.only O9 (show ¬ (bT + 1 + 1 + 1 + 1 = bA) by omega)
          replace BW := hid (BW.out.trans (O9.below (fun k h => by cases h; omega) BW.out.size))
          replace X_A := A9
          clear O9 A9
          go_wp2
          go_roundw
          case rel => exact ⟨q + 1, by omega, by go_num, X_T, X_F, X_X, X_Y, X_K, X_A, BW.out⟩
          case measure => simp [intOf]; omega
        · skip
          obtain rfl : l = q := by omega
          clear hq
          have z_A := X_A.lt
          have c_A0 := X_A.cell (i := 0) rfl
          go_wp2
          refine bodyPost_ret (by simp only [results, Tryd.results21]; go_simp; try rfl) rfl ?_
          exact ⟨rfl, BW.out⟩
end Go.Proofs.YtogenbggjodcnaaDoor
