/-
  The polynomials of another secret.
-/
import Derived.Test.YtogenbggjodcnaaDoorVChk22
import Derived.Test.YtogenbggjodcnaaDoorShift22
import Derived.Test.YtogenbggjodcnaaDoorCSplit
import Derived.Test.YtogenbggjodcnaaDoorRowsK
namespace Go.Proofs.YtogenbggjodcnaaDoor
open Go.RowKit

attribute [local go_sem] Oper.semAt_some
theorem chkP_n {f t s n : Int} (h : chkP f t s n = 0) : (1 ≤ t ∧ t ≤ 255) ∧ 0 ≤ n ∧ n ≤ 65535 := by
  unfold chkP at h
  by_cases h1 : knownF f
  · by_cases h2 : 1 ≤ s ∧ s ≤ 255
    · by_cases h3 : 1 ≤ t ∧ t ≤ s
      · by_cases h4 : 0 ≤ n ∧ n ≤ 65535
        · exact ⟨by omega, h4⟩
        · simp [h1, h2, h3, h4] at h
      · simp [h1, h2, h3] at h
    · simp [h1, h2] at h
  · simp [h1] at h
theorem fld_b (b : Bool) : fldOf (fID b) = FV b ∧ errF (fID b) = 0 ∧ knownF (fID b) := by
  cases b
  · exact ⟨rfl, rfl, .inl rfl⟩
  · exact ⟨rfl, rfl, .inr rfl⟩
/-- The polynomials that are wanted. -/
noncomputable def exV (b : Bool) (ns : List Nat) (vss : List (List Nat)) (zs : List Nat) : List (List Nat) := (List.range vss.length).map fun i => shfV (fP b) ns (vss.getD i []) (zs.getD i 0)
theorem exV_len (b : Bool) (ns : List Nat) (vss : List (List Nat)) (zs : List Nat) : (exV b ns vss zs).length = vss.length := by simp [exV]
theorem exV_get {b : Bool} {ns : List Nat} {vss : List (List Nat)} {zs : List Nat} {i : Nat} {l : List Nat} {y : Nat} (h : vss[i]? = some l) (hy : zs[i]? = some y) : (exV b ns vss zs)[i]? = some (shfV (fP b) ns l y) := by
  unfold exV
  rw [List.getElem?_map, List.getElem?_range (List.getElem?_eq_some_iff.1 h).1]
  show some (shfV (fP b) ns (vss.getD i []) (zs.getD i 0)) = _
  rw [List.getD_eq_getElem?_getD, List.getD_eq_getElem?_getD, h, hy]; rfl
theorem rs_row {b : Bool} {rs : List (Value × List Nat)} {vss : List (List Nat)} (h2 : rs.map (·.2) = vss.map (fun l => l.map (frm (fP b)))) {j : Nat} {r : Value × List Nat} (hr : rs[j]? = some r) : ∃ l, vss[j]? = some l ∧ r.2 = l.map (frm (fP b)) := by
  have h := congrArg (fun l => l[j]?) h2
  simp only [List.getElem?_map, hr] at h
  cases e : vss[j]? with
  | none => rw [e] at h; cases h
  | some l => rw [e] at h; exact ⟨l, rfl, Option.some.inj h⟩
theorem num31_lt {l : List Nat} (h : Byt l) (hl : l.length ≤ 31) (b : Bool) : num l < fP b := by
  have h2 : num l < 2 ^ 248 := by
    have hw := wd_lt h
    have h7 : wd l 24 8 < 2 ^ 56 := by
      have e := wd_stop (l := l) (o := 24) (m := 7) (by omega) 1
      have := wd_pow h 24 7
      rw [show (7 + 1 : Nat) = 8 from rfl] at e
      rw [e]; exact Nat.lt_of_lt_of_le this (by decide)
    have a0 := hw 0 (k := 8) (by decide)
    have a1 := hw 8 (k := 8) (by decide)
    have a2 := hw 16 (k := 8) (by decide)
    rw [num_eq]
    unfold val4 B64 at *
    omega
  exact Nat.lt_of_lt_of_le h2 (by cases b <;> decide)
/-- It returns a slice of slices of the forms of polynomials, and a number. -/
def RetPs (b : Bool) (es : List (List Nat)) (c : Int) (w : World) : Ending → World → Prop := fun e w' => ∃ z rs, e = .returned (.tuple #[z, .int .i64 c]) ∧ SlsSl w' z rs ∧ rs.map (·.2) = es.map (fun l => l.map (frm (fP b))) ∧ Below w.heap.size w w'
set_option maxRecDepth 100000 in
set_option maxHeartbeats 4000000 in
theorem explain_bad (f : Int) (t s n : Int) (v u x : Value) (xs : List Int) (rs : List (Value × List Nat)) (ls : List Nat) (w : World) (hT : Tab w) (hS : IntSl w v xs) (hY : SlsSl w u rs) (hB : ByteSl w x ls) (hl : xs.length < 10000) (hr : rs.length < 10000) (hc : vchk f t s n xs rs ls.length ≠ 0) :
    Calls Tryd.prog 46 #[.agg #[.int .i64 f, .int .i64 t, .int .i64 s, .int .i64 n], v, u, x] w (Ret (.tuple #[.slice none 0 0, .int .i64 (vchk f t s n xs rs ls.length)]) w) := by
  have BW := hid (Below.refl w.heap.size w)
  have T := hid hT
  have HS := hid hS
  obtain ⟨sa, sc, rfl, _⟩ := hS
  have HY := hid hY
  obtain ⟨ya, yc, rfl, _, _⟩ := hY
  have HB := hid hB
  obtain ⟨ba, bc, rfl, _, _⟩ := hB
  obtain ⟨q, hq⟩ : ∃ n, xs.length = n := ⟨_, rfl⟩
  obtain ⟨l, hl9⟩ : ∃ n, rs.length = n := ⟨_, rfl⟩
  obtain ⟨d, hd9⟩ : ∃ n, ls.length = n := ⟨_, rfl⟩
  have HQ := hid hq
  have HL := hid hl9
  have HD := hid hd9
  have VC := hid (fun (W : World) (h : Tab W) (h1 : IntSl W (.slice sa xs.length sc) xs) (h2 : SlsSl W (.slice ya rs.length yc) rs) (h3 : ByteSl W (.slice ba ls.length bc) ls) => vcheck_any f t s n (.slice sa xs.length sc) (.slice ya rs.length yc) (.slice ba ls.length bc) xs rs ls W h h1 h2 h3 hl hr)
  obtain ⟨c, hc9⟩ : ∃ z, vchk f t s n xs rs ls.length = z := ⟨_, rfl⟩
  rw [hc9] at hc VC ⊢
  rw [hq, hl9, hd9] at VC
  rw [hq] at HS
  rw [hl9] at HY
  rw [hd9] at HB
  rw [hq, hl9, hd9]
  have hdd : (c != 0) = true := by simp [hc]
  clear hT hc hc9 hq hl9 hd9
  go_enter Tryd.func46, Tryd.ntmps46
  go_wp2_with fail
  obtain ⟨v1, hv9⟩ : ∃ v, (w.alloc (.cells #[.int .i64 f, .int .i64 t, .int .i64 s, .int .i64 n] 75)) = v := ⟨_, rfl⟩
  have hG9 : Below w.heap.size w v1 := by rw [← hv9]; go_grown
  have X_P : Blk v1 (w.heap.size) 75 [.int .i64 f, .int .i64 t, .int .i64 s, .int .i64 n] := by rw [← hv9]; exact Blk.new rfl
  obtain ⟨bP, hb9⟩ : ∃ k, w.heap.size = k := ⟨_, rfl⟩
  rw [hb9] at X_P
  have g_bP : w.heap.size ≤ bP := by rw [← hb9]; exact BW.out.size
  replace T := hid (T.out.keep hG9)
  replace BW := hid (BW.out.trans (hG9.mono BW.out.size))
  clear hG9
  rw [hv9]
  try rw [hb9]
  clear hv9 hb9
  refine (VC.out _ T.out (HS.out.below BW.out) (HY.out.below BW.out) (HB.out.below BW.out)).mono ?_
  rintro e v2 ⟨rfl, b9⟩
  replace X_P := X_P.keep b9
  replace T := hid (T.out.keep b9)
  replace BW := hid (BW.out.trans (b9.mono BW.out.size))
  clear b9
  go_wp2
  refine bodyPost_ret (by simp only [results, Tryd.results46]; go_simp; try rfl) rfl ?_
  exact ⟨rfl, BW.out⟩
set_option maxRecDepth 100000 in
set_option maxHeartbeats 8000000 in
theorem explain_ok (b : Bool) (vss : List (List Nat)) (t s n : Int) (v u x : Value) (xs : List Int) (rs : List (Value × List Nat)) (ls : List Nat) (w : World) (hT : Tab w) (hS : IntSl w v xs) (hY : SlsSl w u rs) (hB : ByteSl w x ls) (hl : xs.length < 10000) (hr : rs.length < 10000) (hc : vchk (fID b) t s n xs rs ls.length = 0) (h2 : rs.map (·.2) = vss.map (fun l => l.map (frm (fP b)))) (hlt : ∀ l ∈ vss, ∀ z ∈ l, z < fP b) :
    Calls Tryd.prog 46 #[.agg #[.int .i64 (fID b), .int .i64 t, .int .i64 s, .int .i64 n], v, u, x] w (RetPs b (exV b (pts xs) vss (chn ls)) 0 w) := by
  have BW := hid (Below.refl w.heap.size w)
  have T := hid hT
  have HS := hid hS
  obtain ⟨sa, sc, rfl, _⟩ := hS
  have HY := hid hY
  obtain ⟨ya, yc, rfl, _, _⟩ := hY
  have HB := hid hB
  obtain ⟨ba, bc, rfl, _, _⟩ := hB
  obtain ⟨q, hq⟩ : ∃ n, xs.length = n := ⟨_, rfl⟩
  obtain ⟨l, hl9⟩ : ∃ n, rs.length = n := ⟨_, rfl⟩
  obtain ⟨d, hd9⟩ : ∃ n, ls.length = n := ⟨_, rfl⟩
  have HQ := hid hq
  have HL := hid hl9
  have HD := hid hd9
  obtain ⟨hz1, hz2, hz3, hz4, hz5, hz6⟩ := vchk_zero hc
  have HT6 := hid hz6
  have HTT := hid (chkP_n hz1).1
  have HBT := hid HB.out.byt
  have hd65 : ls.length ≤ 65535 := by have := chkP_n hz1; omega
  have HH2 := hid h2
  have HLT := hid hlt
  have VC := hid (fun (W : World) (h : Tab W) (h1 : IntSl W (.slice sa xs.length sc) xs) (h2 : SlsSl W (.slice ya rs.length yc) rs) (h3 : ByteSl W (.slice ba ls.length bc) ls) => vcheck_any (fID b) t s n (.slice sa xs.length sc) (.slice ya rs.length yc) (.slice ba ls.length bc) xs rs ls W h h1 h2 h3 hl hr)
  rw [hc] at VC
  have GC := hid (fun (W : World) (h : Tab W) => get_any (fID b) W h)
  rw [(fld_b b).1, (fld_b b).2.1] at GC
  have SC := hid (fun (W : World) (h : ByteSl W (.slice ba ls.length bc) ls) => csplit_any b (.slice ba ls.length bc) ls hd65 W h)
  have hcl : (chn ls).length = l := by rw [chn_len, ← hl9, hz5, ← hz4, cntC_nat hd65]
  have HCL := hid hcl
  have HPX := hid hz2
  have hqt : (q : Int) < t := by rw [← hq]; exact hz3
  rw [hq, hl9, hd9] at VC
  rw [hd9] at SC
  rw [hq] at HS hl
  rw [hl9] at HY hr
  rw [hd9] at HB
  rw [hq, hl9, hd9]
  clear hT hc hq hd9 hz1 hz2 hz3 hz4 hz5 hz6 h2 hlt hcl
  go_enter Tryd.func46, Tryd.ntmps46
  go_wp2_with fail
  obtain ⟨v1, hv9⟩ : ∃ v, (w.alloc (.cells #[.int .i64 (fID b), .int .i64 t, .int .i64 s, .int .i64 n] 75)) = v := ⟨_, rfl⟩
  have hG9 : Below w.heap.size w v1 := by rw [← hv9]; go_grown
  have X_P : Blk v1 (w.heap.size) 75 [.int .i64 (fID b), .int .i64 t, .int .i64 s, .int .i64 n] := by rw [← hv9]; exact Blk.new rfl
  obtain ⟨bP, hb9⟩ : ∃ k, w.heap.size = k := ⟨_, rfl⟩
  rw [hb9] at X_P
  have g_bP : w.heap.size ≤ bP := by rw [← hb9]; exact BW.out.size
  replace T := hid (T.out.keep hG9)
  replace BW := hid (BW.out.trans (hG9.mono BW.out.size))
  clear hG9
  rw [hv9]
  try rw [hb9]
  clear hv9 hb9
  refine (VC.out _ T.out (HS.out.below BW.out) (HY.out.below BW.out) (HB.out.below BW.out)).mono ?_
  rintro e v2 ⟨rfl, b9⟩
  replace X_P := X_P.keep b9
  replace T := hid (T.out.keep b9)
  replace BW := hid (BW.out.trans (b9.mono BW.out.size))
  clear b9
  have z_P := X_P.lt
  have c_P0 := X_P.cell (i := 0) rfl
  have c_P1 := X_P.cell (i := 1) rfl
  have c_P2 := X_P.cell (i := 2) rfl
  have c_P3 := X_P.cell (i := 3) rfl
  go_wp2_with fail
  refine (GC.out _ T.out).mono ?_
  rintro e v3 ⟨rfl, b9⟩
  clear z_P c_P0 c_P1 c_P2 c_P3
  replace X_P := X_P.keep b9
  replace T := hid (T.out.keep b9)
  replace BW := hid (BW.out.trans (b9.mono BW.out.size))
  clear b9
  go_wp2_with fail
  obtain ⟨v4, hv9⟩ : ∃ v, (v3.alloc (.cells #[.int .i64 (fID b), .int .u64 (limb (fP b) 0 : Int), .int .u64 (limb (fP b) 1 : Int), .int .u64 (limb (fP b) 2 : Int), .int .u64 (limb (fP b) 3 : Int), .int .u64 (fI b : Int), .int .u64 (limb (fO b) 0 : Int), .int .u64 (limb (fO b) 1 : Int), .int .u64 (limb (fO b) 2 : Int), .int .u64 (limb (fO b) 3 : Int), .int .u64 (limb (fS b) 0 : Int), .int .u64 (limb (fS b) 1 : Int), .int .u64 (limb (fS b) 2 : Int), .int .u64 (limb (fS b) 3 : Int)] 31)) = v := ⟨_, rfl⟩
  have hG9 : Below v3.heap.size v3 v4 := by rw [← hv9]; go_grown
  have X_F : Blk v4 (v3.heap.size) 31 [.int .i64 (fID b), .int .u64 (limb (fP b) 0 : Int), .int .u64 (limb (fP b) 1 : Int), .int .u64 (limb (fP b) 2 : Int), .int .u64 (limb (fP b) 3 : Int), .int .u64 (fI b : Int), .int .u64 (limb (fO b) 0 : Int), .int .u64 (limb (fO b) 1 : Int), .int .u64 (limb (fO b) 2 : Int), .int .u64 (limb (fO b) 3 : Int), .int .u64 (limb (fS b) 0 : Int), .int .u64 (limb (fS b) 1 : Int), .int .u64 (limb (fS b) 2 : Int), .int .u64 (limb (fS b) 3 : Int)] := by rw [← hv9]; exact Blk.new rfl
  obtain ⟨bF, hb9⟩ : ∃ k, v3.heap.size = k := ⟨_, rfl⟩
  rw [hb9] at X_F
  have g_bF : w.heap.size ≤ bF := by rw [← hb9]; exact BW.out.size
  have q_P_bF : bP < bF := by rw [← hb9]; exact X_P.lt
  replace X_P := X_P.keep hG9
  replace T := hid (T.out.keep hG9)
  replace BW := hid (BW.out.trans (hG9.mono BW.out.size))
  clear hG9
  rw [hv9]
  try rw [hb9]
  clear hv9 hb9
  refine (SC.out _ (HB.out.below BW.out)).mono ?_
  rintro e v5 ⟨vq, rfl, ho9, b9⟩
  obtain ⟨aq, cq, rfl, _, _, _⟩ := owns_form ho9
  rw [List.length_map, HCL.out] at ho9
  have N_q := hid (owns_mono ho9 (base' := w.heap.size) (by have := BW.out.size; omega))
  rw [List.length_map, HCL.out]
  clear ho9
  replace X_P := X_P.keep b9
  replace X_F := X_F.keep b9
  replace T := hid (T.out.keep b9)
  replace BW := hid (BW.out.trans (b9.mono BW.out.size))
  clear b9
  clear X_P
  obtain ⟨wo, zs0, hmk, hOo, hgo⟩ := run_mades v5 l (by omega)
  go_wp2_with fail
  have b9 : Below v5.heap.size v5 wo := Below.grown (Below.refl _ _) hgo (Nat.le_refl _) (fun j hj => by cases hj)
  obtain ⟨go, hg9⟩ : ∃ q, v5.heap.size = q := ⟨_, rfl⟩
  have lt9 : v5.heap.size ≤ go := by omega
  have q_F_go : bF < go := Nat.lt_of_lt_of_le X_F.lt lt9
  have zgo : w.heap.size ≤ go := Nat.le_trans BW.out.size lt9
  have N_o := hid (owns_mono hOo (base' := w.heap.size) BW.out.size)
  rw [hg9] at N_o
  try rw [hg9]
  clear hOo hgo hmk lt9 hg9
  replace N_q := hid (owns_keep N_q.out b9)
  replace X_F := X_F.keep b9
  replace T := hid (T.out.keep b9)
  replace BW := hid (BW.out.trans (b9.mono BW.out.size))
  clear b9
  clear T
  go_loopw [46] (fun ix wr => ∃ k : Nat, k ≤ l ∧ ix = .int .i64 (k : Int) ∧ Blk wr (bF) 31 [.int .i64 (fID b), .int .u64 (limb (fP b) 0 : Int), .int .u64 (limb (fP b) 1 : Int), .int .u64 (limb (fP b) 2 : Int), .int .u64 (limb (fP b) 3 : Int), .int .u64 (fI b : Int), .int .u64 (limb (fO b) 0 : Int), .int .u64 (limb (fO b) 1 : Int), .int .u64 (limb (fO b) 2 : Int), .int .u64 (limb (fO b) 3 : Int), .int .u64 (limb (fS b) 0 : Int), .int .u64 (limb (fS b) 1 : Int), .int .u64 (limb (fS b) 2 : Int), .int .u64 (limb (fS b) 3 : Int)] ∧ wr.ownsRow w.heap.size 29 4 (.slice aq l cq) l (nums ((chn ls).map (frm (fP b)))) ∧ Below w.heap.size w wr ∧ ∃ zs rs2, wr.ownsRow w.heap.size 34 1 (.slice (some ⟨go, 0, none⟩) l l) l zs ∧ zs.take k = rs2.map (·.1) ∧ RowsOk wr w.heap.size rs2 ∧ rs2.map (·.2) = ((exV b (pts xs) vss (chn ls)).take k).map (fun l => l.map (frm (fP b)))) (fun ix _ => l - (intOf ix).toNat)
  case atStart => exact ⟨0, Nat.zero_le _, rfl, X_F, N_q.out, BW.out, zs0, [], N_o.out, rfl, (fun r hr => by cases hr), rfl⟩
  case round =>
    clear X_F N_q BW
    obtain ⟨k, hk_k, rfl, X_F, n9_q, b9, hm_k⟩ := hrel
    obtain ⟨v6, hv9⟩ : ∃ v, v = wr := ⟨_, rfl⟩
    subst hv9
    have N_q := hid n9_q
    clear n9_q
    have BW := hid b9
    clear b9
    have HM_k := hid hm_k
    clear hm_k
    by_cases hk : k < l
    · skip
      obtain ⟨zs, rs2, hO, hzt, hRO, hr2⟩ := HM_k.out
      have N_o := hid hO
      have R_O := hid hRO
      have HZT := hid hzt
      have HR2 := hid hr2
      clear HM_k hO hRO hzt hr2
      obtain ⟨y, hy⟩ : ∃ y, (chn ls)[k]? = some y := ⟨(chn ls)[k]'(by rw [HCL.out]; exact hk), List.getElem?_eq_getElem _⟩
      obtain ⟨⟨rv, rl⟩, hr9⟩ : ∃ x, rs[k]? = some x := ⟨rs[k]'(by rw [HL.out]; exact hk), List.getElem?_eq_getElem _⟩
      obtain ⟨lk, hlk, hrl⟩ := rs_row HH2.out hr9
      simp only at hrl
      subst hrl
      obtain ⟨g, off, hya, hg0, d0, hN0⟩ := HY.out.at hr9
      subst hya
      simp only at d0 hN0
      have hg : g < v6.heap.size := Nat.lt_of_lt_of_le hg0 BW.out.size
      replace d0 := (BW.out.cell (p := ⟨g, off + k, none⟩) hg0).trans d0
      have HN0 := hid (hN0.below BW.out)
      obtain ⟨ra, rc, rfl, _, _⟩ := id hN0
      have hlen : (lk.length : Int) = t := by have h := HT6.out _ (List.mem_of_getElem? hr9); simpa using h
      have htt := HTT.out
      rw [List.length_map] at d0 HN0
      obtain ⟨m, hm⟩ : ∃ m, lk.length = m := ⟨_, rfl⟩
      have hyl : y < fP b := by
        have h : k < (ls.length + 30) / 31 := by have := HCL.out; rw [chn_len] at this; omega
        rw [chn_get h] at hy
        cases hy
        exact num31_lt ((HBT.out.drop _).take _) (by simp; omega) b
      have SHC := hid (fun (W : World) (h1 : IntSl W (.slice sa q sc) xs) (h2 : NumSl W (.slice ra lk.length rc) (lk.map (frm (fP b)))) => shift_ok b (.slice sa q sc) (.slice ra lk.length rc) xs lk y W h1 (by rw [HQ.out]; exact hl) h2 (HLT.out lk (List.mem_of_getElem? hlk)) hyl HPX.out (by rw [HQ.out]; omega) (by omega))
      have HEX := hid (exV_get (b := b) (ns := pts xs) hlk hy)
      rw [hm] at d0 HN0 SHC
      obtain ⟨sk, hsk⟩ : ∃ z, shfV (fP b) (pts xs) lk y = z := ⟨_, rfl⟩
      rw [hsk] at SHC HEX
      obtain ⟨fk, hfk⟩ : ∃ z, sk.map (frm (fP b)) = z := ⟨_, rfl⟩
      rw [hfk] at SHC
      have HFK := hid hfk
      obtain ⟨n2, hn2⟩ : ∃ z, fk.length = z := ⟨_, rfl⟩
      have HN2 := hid hn2
      obtain ⟨gx, ox, hga, hgx, x0, x1, x2, x3⟩ := (nums_own (xs := ((chn ls).map (frm (fP b)))) (by rw [List.length_map, HCL.out]; exact N_q.out) (small9 (forms9 b _))).at4 (k := k) (y := frm (fP b) y) (by rw [List.getElem?_map, hy]; rfl)
      subst hga
      obtain ⟨yf, hyf⟩ : ∃ z, frm (fP b) y = z := ⟨_, rfl⟩
      rw [hyf] at SHC x0 x1 x2 x3
      have hk0 : (0 : Int) ≤ (k : Int) := by omega
      have hkl : (k : Int) < (l : Int) := by omega
      have HD0 := hid d0
      have HG := hid hg
      have hgg : ¬ (g = go) := by omega
      have HGG := hid hgg
      clear hy hr9 hlk hN0 hlen htt hm hyl hsk hfk hn2 hyf d0 hg hgg hg0
      have HBU := hid (Below.refl v6.heap.size v6)
      go_upto_region 12 with (fail)
      clear x0 x1 x2 x3 hgx
      obtain ⟨v7, hv9⟩ : ∃ v, (v6.alloc (.cells #[.int .u64 (limb yf 0 : Int), .int .u64 (limb yf 1 : Int), .int .u64 (limb yf 2 : Int), .int .u64 (limb yf 3 : Int)] 29)) = v := ⟨_, rfl⟩
      have hG9 : Below v6.heap.size v6 v7 := by rw [← hv9]; go_grown
      have X_x : Blk v7 (v6.heap.size) 29 [.int .u64 (limb yf 0 : Int), .int .u64 (limb yf 1 : Int), .int .u64 (limb yf 2 : Int), .int .u64 (limb yf 3 : Int)] := by rw [← hv9]; exact Blk.new rfl
      obtain ⟨bx, hb9⟩ : ∃ k, v6.heap.size = k := ⟨_, rfl⟩
      rw [hb9] at X_x
      have g_bx : w.heap.size ≤ bx := by rw [← hb9]; exact BW.out.size
      have q_F_bx : bF < bx := by rw [← hb9]; exact X_F.lt
      have q_q_x := fun k hk => (N_q.out.lt k hk).2
      rw [hb9] at q_q_x
      have q_o_x := fun k hk => (N_o.out.lt k hk).2
      rw [hb9] at q_o_x
      replace N_q := hid (owns_keep N_q.out hG9)
      replace N_o := hid (owns_keep N_o.out hG9)
      replace X_F := X_F.keep hG9
      replace HBU := hid (HBU.out.trans (hG9.mono HBU.out.size))
      replace BW := hid (BW.out.trans (hG9.mono BW.out.size))
      clear hG9
      rw [hv9]
      try rw [hb9]
      clear hv9 hb9
      have d0 := HD0.out
      have hg0 := HG.out
      have hgg := HGG.out
      have hzz9 := HBU.out.size
      have hbz9 := HBU.out
      have z_F := X_F.lt
      have c_F0 := X_F.cell (i := 0) rfl
      have c_F1 := X_F.cell (i := 1) rfl
      have c_F2 := X_F.cell (i := 2) rfl
      have c_F3 := X_F.cell (i := 3) rfl
      have c_F4 := X_F.cell (i := 4) rfl
      have c_F5 := X_F.cell (i := 5) rfl
      have c_F6 := X_F.cell (i := 6) rfl
      have c_F7 := X_F.cell (i := 7) rfl
      have c_F8 := X_F.cell (i := 8) rfl
      have c_F9 := X_F.cell (i := 9) rfl
      have c_F10 := X_F.cell (i := 10) rfl
      have c_F11 := X_F.cell (i := 11) rfl
      have c_F12 := X_F.cell (i := 12) rfl
      have c_F13 := X_F.cell (i := 13) rfl
      have z_x := X_x.lt
      have c_x0 := X_x.cell (i := 0) rfl
      have c_x1 := X_x.cell (i := 1) rfl
      have c_x2 := X_x.cell (i := 2) rfl
      have c_x3 := X_x.cell (i := 3) rfl
      have hg : g < v7.heap.size := Nat.lt_of_lt_of_le hg0 hzz9
      have d0 := (hbz9.cell (p := ⟨g, off + k, none⟩) hg0).trans d0
      have hF_go : ¬ (bF = go) := by omega
      have hx_go : ¬ (bx = go) := by have := q_o_x go rfl; omega
      try refine wp_region_noPanic ?_
      refine wp_region_held_drew (S := (fun w' => ∀ b o, b < v7.heap.size → ¬ b = go → w'.cell? ⟨b, o, none⟩ = v7.cell? ⟨b, o, none⟩)) (by kernel_rfl) (fun b o h _ => cell_drew) (fun hHeld => ?_)
      have H9 := (Below.refl v7.heap.size v7).drew
      refine wpAnyH_take (i := 0) (oi := _) (v := .slice (some ⟨go, 0, none⟩) l l) rfl (by kernel_rfl) (by kernel_rfl) (by kernel_rfl) (fun _ _ _ h => h) (Or.inl ⟨by rfl, ?_⟩) (by assumption) ?_
      · intro w hSw; (try dsimp only at hSw); go_simp
      try simp only [Act.put, List.setIfInBounds_toArray, List.set_cons_zero, List.set_cons_succ]
      refine wpAnyH_take (i := 1) (oi := _) (v := .int .i64 (k : Int)) rfl (by kernel_rfl) (by kernel_rfl) (by kernel_rfl) (fun _ _ _ h => h) (Or.inl ⟨by rfl, ?_⟩) (by assumption) ?_
      · intro w hSw; (try dsimp only at hSw); go_simp
      try simp only [Act.put, List.setIfInBounds_toArray, List.set_cons_zero, List.set_cons_succ]
      refine wpAnyH_take (i := 2) (oi := _) (v := .agg #[.int .i64 (fID b), .int .u64 (limb (fP b) 0 : Int), .int .u64 (limb (fP b) 1 : Int), .int .u64 (limb (fP b) 2 : Int), .int .u64 (limb (fP b) 3 : Int), .int .u64 (fI b : Int), .int .u64 (limb (fO b) 0 : Int), .int .u64 (limb (fO b) 1 : Int), .int .u64 (limb (fO b) 2 : Int), .int .u64 (limb (fO b) 3 : Int), .int .u64 (limb (fS b) 0 : Int), .int .u64 (limb (fS b) 1 : Int), .int .u64 (limb (fS b) 2 : Int), .int .u64 (limb (fS b) 3 : Int)]) rfl (by kernel_rfl) (by kernel_rfl) (by kernel_rfl) (fun _ _ _ h => h) (Or.inl ⟨by rfl, ?_⟩) (by assumption) ?_
      · intro w hSw; (try dsimp only at hSw); go_simp
      try simp only [Act.put, List.setIfInBounds_toArray, List.set_cons_zero, List.set_cons_succ]
      refine wpAnyH_take (i := 3) (oi := _) (v := .slice sa q sc) rfl (by kernel_rfl) (by kernel_rfl) (by kernel_rfl) (fun _ _ _ h => h) (Or.inl ⟨by rfl, ?_⟩) (by assumption) ?_
      · intro w hSw; (try dsimp only at hSw); go_simp
      try simp only [Act.put, List.setIfInBounds_toArray, List.set_cons_zero, List.set_cons_succ]
      refine wpAnyH_take (i := 4) (oi := _) (v := .slice (some ⟨g, off, none⟩) l yc) rfl (by kernel_rfl) (by kernel_rfl) (by kernel_rfl) (fun _ _ _ h => h) (Or.inl ⟨by rfl, ?_⟩) (by assumption) ?_
      · intro w hSw; (try dsimp only at hSw); go_simp
      try simp only [Act.put, List.setIfInBounds_toArray, List.set_cons_zero, List.set_cons_succ]
      refine wpAnyH_take (i := 5) (oi := _) (v := .int .i64 (k : Int)) rfl (by kernel_rfl) (by kernel_rfl) (by kernel_rfl) (fun _ _ _ h => h) (Or.inl ⟨by rfl, ?_⟩) (by assumption) ?_
      · intro w hSw; (try dsimp only at hSw); go_simp
      try simp only [Act.put, List.setIfInBounds_toArray, List.set_cons_zero, List.set_cons_succ]
      refine wpAnyH_take (i := 6) (oi := _) (v := .pointer (some ⟨g, off + k, none⟩)) rfl (by kernel_rfl) (by kernel_rfl) (by kernel_rfl) (fun _ _ _ h => h) (Or.inl ⟨by rfl, ?_⟩) (by assumption) ?_
      · intro w hSw; (try dsimp only at hSw); go_simp
      try simp only [Act.put, List.setIfInBounds_toArray, List.set_cons_zero, List.set_cons_succ]
      refine wpAnyH_take (i := 7) (oi := _) (v := .slice ra m rc) rfl (by kernel_rfl) (by kernel_rfl) (by kernel_rfl) (fun _ _ _ h => h) (Or.inl ⟨by rfl, ?_⟩) (by assumption) ?_
      · intro w9 hSw
        (try dsimp only at hSw)
        have e_0 := (hSw g (off + k) hg hgg).trans d0
        go_simp
      try simp only [Act.put, List.setIfInBounds_toArray, List.set_cons_zero, List.set_cons_succ]
      refine wpAnyH_take (i := 8) (oi := _) (v := vec yf) rfl (by kernel_rfl) (by kernel_rfl) (by kernel_rfl) (fun _ _ _ h => h) (Or.inl ⟨by rfl, ?_⟩) (by assumption) ?_
      · intro w hSw; (try dsimp only at hSw); go_simp
      try simp only [Act.put, List.setIfInBounds_toArray, List.set_cons_zero, List.set_cons_succ]
      clear hHeld
      refine wpAnyH_ready (rs := [9]) (by kernel_rfl) (by simp) ?_
      refine AllReadyH.cons (o := _) rfl (fun K hK => ?_) ?_
      · skip
        go_simp
        go_at_call 40
        refine (SHC.out _ ((HS.out.below BW.out).below H9) ((HN0.out.below HBU.out).below H9)).mono ?_
        rintro e qra1 ⟨vr, rfl, ho9, b9⟩
        replace H9 := H9.trans (b9.mono H9.size)
        obtain ⟨ar, cr, rfl, _, _, _⟩ := owns_form ho9
        rw [HN2.out] at ho9 ⊢
        replace ho9 := hid (owns_mono ho9 (base' := w.heap.size) (show w.heap.size ≤ v7.heap.size from BW.out.size))
        clear b9
        try go_wp2_with fail
        refine hK.out _ _ (fun b o h _ => H9.cell (p := ⟨b, o, none⟩) h) (fun hHeld => ?_)
        clear hK K
        try simp only [Act.put, List.setIfInBounds_toArray, List.set_cons_zero, List.set_cons_succ]
        refine wpAnyH_take (i := 10) (oi := _) (v := .tuple #[.slice ar n2 cr, .int .i64 0]) rfl (by kernel_rfl) (by kernel_rfl) (by kernel_rfl) (fun _ _ _ h => h) (Or.inl ⟨by rfl, ?_⟩) (by assumption) ?_
        · intro w hSw; (try dsimp only at hSw); go_simp
        try simp only [Act.put, List.setIfInBounds_toArray, List.set_cons_zero, List.set_cons_succ]
        refine wpAnyH_take (i := 11) (oi := _) (v := .slice ar n2 cr) rfl (by kernel_rfl) (by kernel_rfl) (by kernel_rfl) (fun _ _ _ h => h) (Or.inl ⟨by rfl, ?_⟩) (by assumption) ?_
        · intro w hSw; (try dsimp only at hSw); go_simp
        try simp only [Act.put, List.setIfInBounds_toArray, List.set_cons_zero, List.set_cons_succ]
        refine wpAnyH_take (i := 12) (oi := _) (v := .int .i64 0) rfl (by kernel_rfl) (by kernel_rfl) (by kernel_rfl) (fun _ _ _ h => h) (Or.inl ⟨by rfl, ?_⟩) (by assumption) ?_
        · intro w hSw; (try dsimp only at hSw); go_simp
        try simp only [Act.put, List.setIfInBounds_toArray, List.set_cons_zero, List.set_cons_succ]
        refine wpAnyH_take (i := 13) (oi := _) (v := .pointer (some ⟨go, k, none⟩)) rfl (by kernel_rfl) (by kernel_rfl) (by kernel_rfl) (fun _ _ _ h => h) (Or.inl ⟨by rfl, ?_⟩) (by assumption) ?_
        · intro w hSw; (try dsimp only at hSw); go_simp
        try simp only [Act.put, List.setIfInBounds_toArray, List.set_cons_zero, List.set_cons_succ]
        clear hHeld
        refine wpAnyH_ready (rs := [14]) (by kernel_rfl) (by simp) ?_
        refine AllReadyH.cons (o := _) rfl (fun K hK => ?_) ?_
        · skip
          have s_o := owns_keep N_o.out H9
          have s_z := owns_len s_o
          obtain ⟨z9, hz9⟩ : ∃ z, zs[k]? = some z := ⟨zs[k]'(by rw [s_z]; exact hk), List.getElem?_eq_getElem _⟩
          have s_c := s_o.cellAt k (by omega)
          rw [hz9] at s_c
          have s_f := s_o.frozenAt k
          have s_l : go < qra1.heap.size := World.block_lt_of_cell? _ _ s_c
          go_simp
          clear s_c s_f s_l hz9
          obtain ⟨qra2, e9⟩ : ∃ q, (qra1.setCell ⟨go, k, none⟩ (.slice ar n2 cr)) = q := ⟨_, rfl⟩
          rw [e9]
          have O9 : Only (fun q => q = go) qra1 qra2 := by rw [← e9]; exact (Only.refl (fun q => q = go) qra1).setCell (p := ⟨go, k, none⟩) (.inl rfl) _
          have S9 : qra2.ownsRow w.heap.size 34 1 (.slice (some ⟨go, 0, none⟩) l l) l (zs.set k (.slice ar n2 cr)) := by rw [← e9]; exact (s_o.stored k _).1
          have hVr := H9
          clear e9
          refine hK.out _ _ (fun b o h hne => (O9.cellEq o (Nat.lt_of_lt_of_le h H9.size) hne).trans (H9.cell (p := ⟨b, o, none⟩) h)) (fun hHeld => ?_)
          clear hK K
          try simp only [Act.put, List.setIfInBounds_toArray, List.set_cons_zero, List.set_cons_succ]
          refine wpAnyH_take (i := 15) (oi := _) (v := .int .i64 0) rfl (by kernel_rfl) (by kernel_rfl) (by kernel_rfl) (fun _ _ _ h => h) (Or.inl ⟨by rfl, ?_⟩) (by assumption) ?_
          · intro w hSw; (try dsimp only at hSw); go_simp
          try simp only [Act.put, List.setIfInBounds_toArray, List.set_cons_zero, List.set_cons_succ]
          clear hHeld
          refine wpAnyH_done (by kernel_rfl) ?_ _
          try refine NoPanic.normal ?_
          clear z_F c_F0 c_F1 c_F2 c_F3 c_F4 c_F5 c_F6 c_F7 c_F8 c_F9 c_F10 c_F11 c_F12 c_F13 z_x c_x0 c_x1 c_x2 c_x3
          replace N_q := hid (owns_keep N_q.out H9)
          replace N_o := hid (owns_keep N_o.out H9)
          replace X_F := X_F.keep H9
          replace X_x := X_x.keep H9
          replace HBU := hid (HBU.out.trans (H9.mono HBU.out.size))
          replace BW := hid (BW.out.trans (H9.mono BW.out.size))
          clear H9
          replace X_F := X_F.only O9 (show ¬ (bF = go) by omega)
          have M_q := owns_only N_q.out O9 (own_apart N_q.out N_o.out)
          have M_R := ((R_O.out.below HBU.out).store N_o.out O9).snoc (r := (.slice ar n2 cr, fk)) (by
            have h := owns_only ho9.out O9 (own_apart ho9.out N_o.out)
            show World.ownsRow _ _ _ _ (.slice ar n2 cr) fk.length (nums fk)
            rw [HN2.out]; exact h)
          replace BW := hid (BW.out.trans (O9.below (fun j h => by cases h; exact zgo) BW.out.size))
          clear X_x
          go_wp2
          go_roundw
          case rel => exact ⟨k + 1, by omega, by go_num, X_F, M_q, BW.out, _, rs2 ++ [(.slice ar n2 cr, fk)], S9, by rw [List.map_append]; exact take_set HZT.out (by rw [owns_len N_o.out]; exact hk), M_R, by rw [List.map_append, HR2.out, take_next HEX.out, List.map_append, ← HFK.out]; rfl⟩
          case measure => simp [intOf]; omega
        exact AllReadyH.nil
      exact AllReadyH.nil
    · skip
      obtain rfl : l = k := by omega
      clear hk
      obtain ⟨zs, rs2, hO, hzt, hRO, hr2⟩ := HM_k.out
      have hvl : vss.length = l := by have h := congrArg List.length HH2.out; simp only [List.length_map] at h; rw [← h]; exact HL.out
      rw [List.take_of_length_le (by rw [owns_len hO]; exact Nat.le_refl _)] at hzt
      rw [List.take_of_length_le (by rw [exV_len, hvl]; exact Nat.le_refl _)] at hr2
      have hrl : rs2.length = l := by have h := congrArg List.length hzt; rw [List.length_map, owns_len hO] at h; exact h.symm
      have hp9 : ∀ r ∈ rs2, ∀ y ∈ r.2, y < B256 := fun r hr y hy => by
        have h : r.2 ∈ rs2.map (·.2) := List.mem_map_of_mem hr
        rw [hr2] at h
        obtain ⟨l9, _, e⟩ := List.mem_map.1 h
        rw [← e] at hy
        exact small9 (forms9 b l9) y hy
      have HSL := hid (hRO.sls (v := .slice (some ⟨go, 0, none⟩) l l) (by rw [hrl, ← hzt]; exact hO) hp9)
      have HR9 := hid hr2
      clear HM_k hO hzt hRO hr2 hvl hrl hp9
      go_wp2
      refine bodyPost_ret (by simp only [results, Tryd.results46]; go_simp; try rfl) rfl ?_
      exact ⟨_, rs2, rfl, HSL.out, HR9.out, BW.out⟩
end Go.Proofs.YtogenbggjodcnaaDoor
