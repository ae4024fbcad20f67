/-
  PolyDivides: the quotient times the linear polynomial plus the remainder is the polynomial.
-/
import Derived.Test.YtfaicnileghjiaaDoorPolyLaw1
import Derived.Test.YtfaicnileghjiaaDoorSl08
import Derived.Test.YtfaicnileghjiaaDoorRefSub
import Derived.Test.YtfaicnileghjiaaDoorPolys
import Derived.Test.YtfaicnileghjiaaDoorKit
import Derived.Test.YtfaicnileghjiaaDoorRefV
import Derived.Deep.RegionHeld3
import Derived.Deep.DeepCutAuto
namespace Go.Proofs.YtfaicnileghjiaaDoor
open Go.RowKit

/-- A slice of numbers in memory that the call has made. -/
def NewSl (u w : World) (v : Value) (xs : List Nat) : Prop := NumSl w v xs ∧ ∀ a n c, v = .slice a n c → ∀ ad, a = some ad → u.heap.size ≤ ad.block
theorem NewSl.own {t : TypeId} {n : Nat} {zs : List Nat} {u w : World} {v : Value} (h : w.ownsRow u.heap.size t 4 v n (nums zs)) (hn : zs.length = n) (hz : ∀ z ∈ zs, z < B256) : NewSl u w v zs := by
  obtain ⟨a, c, rfl, _, hb, _⟩ := owns_form h
  refine ⟨nums_own (by rw [hn]; exact h) hz, fun a' n' c' e ad he => ?_⟩
  cases e
  obtain ⟨g, rfl, hg, _⟩ := hb ad he
  exact hg
theorem NewSl.set4 {u w : World} {v : Value} {xs : List Nat} (h : NewSl u w v xs) {c : Nat} (hc : c < u.heap.size) (v0 v1 v2 v3 : Value) : NumSl ((((w.setCell ⟨c, 0, none⟩ v0).setCell ⟨c, 1, none⟩ v1).setCell ⟨c, 2, none⟩ v2).setCell ⟨c, 3, none⟩ v3) v xs := by
  obtain ⟨⟨a, cap, rfl, hl, hr⟩, h2⟩ := h
  exact NumSl.only ⟨a, cap, rfl, hl, hr⟩ (only_set4 w c v0 v1 v2 v3) (fun ad e k => by have := h2 _ _ _ rfl ad e; omega)
theorem NewSl.alloc {u w : World} {v : Value} {xs : List Nat} (h : NewSl u w v xs) (o : Obj) : NumSl (w.alloc o) v xs := h.1.below ((Below.refl _ _).alloc (Nat.le_refl _) _)
def RetQN (r : Nat) (qs : List Nat) (w : World) : Ending → World → Prop := fun e w' => ∃ q, e = .returned (.tuple #[q, vec r]) ∧ NewSl w w' q qs ∧ Below w.heap.size w w'
theorem eq_same_v4 (a b c d : Int) (w : World) : (Op.equalIn 10000 24 (.agg #[.int .u64 a, .int .u64 b, .int .u64 c, .int .u64 d]) (.agg #[.int .u64 a, .int .u64 b, .int .u64 c, .int .u64 d])).run Tryd.prog w = .ok true w := by
  rw [run_eq_vec]; simp
theorem nums_two {s : Nat} : nums [s, 1] = limbs s ++ [.int .u64 1, .int .u64 0, .int .u64 0, .int .u64 0] := by
  have h := vec_one
  simp only [vec, Value.agg.injEq, Array.mk.injEq] at h
  show limbs s ++ (limbs 1 ++ []) = _
  rw [List.append_nil]
  exact congrArg _ h.symm
set_option maxRecDepth 100000 in
set_option maxHeartbeats 4000000 in
theorem divides_law (b : Bool) (v : Value) (ls : List Nat) (a : Nat) (w : World) (hT : Tab w) (hS : NumSl w v ls) (ha : a < B256) :
    Calls Tryd.prog 4 #[.bool b, v, vec a] w (Ret (.bool true) w) := by
  have BW := hid (Below.refl w.heap.size w)
  have T := hid hT
  have N_ls := hid hS
  obtain ⟨sa, cap, rfl, hx1, hx2⟩ := hS
  clear hT hx1 hx2
  obtain ⟨n, hn⟩ : ∃ n, ls.length = n := ⟨_, rfl⟩
  rw [hn] at N_ls ⊢
  by_cases h12 : 12 < n
  · skip
    go_enter Tryd.func4, Tryd.ntmps4
    go_wp2_with fail
    obtain ⟨v1, hv9⟩ : ∃ v, (w.alloc (.cells #[.int .u64 (limb a 0 : Int), .int .u64 (limb a 1 : Int), .int .u64 (limb a 2 : Int), .int .u64 (limb a 3 : Int)] 24)) = v := ⟨_, rfl⟩
    have hG9 : Below w.heap.size w v1 := by rw [← hv9]; go_grown
    have X_A : Blk v1 (w.heap.size) 24 [.int .u64 (limb a 0 : Int), .int .u64 (limb a 1 : Int), .int .u64 (limb a 2 : Int), .int .u64 (limb a 3 : Int)] := by rw [← hv9]; exact Blk.new (by simp)
    obtain ⟨bA, hb9⟩ : ∃ k, w.heap.size = k := ⟨_, rfl⟩
    rw [hb9] at X_A
    have g_bA : w.heap.size ≤ bA := by rw [← hb9]; exact BW.out.size
    replace N_ls := hid (N_ls.out.below hG9)
    replace T := hid (T.out.keep hG9)
    replace BW := hid (BW.out.trans (hG9.mono BW.out.size))
    clear hG9
    rw [hv9]
    try rw [hb9]
    clear hv9 hb9
    refine (alive_any _ T.out).mono ?_
    rintro e v2 ⟨rfl, b9⟩
    replace X_A := X_A.keep b9
    replace N_ls := hid (N_ls.out.below b9)
    replace T := hid (T.out.keep b9)
    replace BW := hid (BW.out.trans (b9.mono BW.out.size))
    clear b9
    go_wp2
    go_ret
    exact ⟨rfl, BW.out⟩
  go_enter Tryd.func4, Tryd.ntmps4
  go_wp2_with fail
  obtain ⟨v1, hv9⟩ : ∃ v, (w.alloc (.cells #[.int .u64 (limb a 0 : Int), .int .u64 (limb a 1 : Int), .int .u64 (limb a 2 : Int), .int .u64 (limb a 3 : Int)] 24)) = v := ⟨_, rfl⟩
  have hG9 : Below w.heap.size w v1 := by rw [← hv9]; go_grown
  have X_A : Blk v1 (w.heap.size) 24 [.int .u64 (limb a 0 : Int), .int .u64 (limb a 1 : Int), .int .u64 (limb a 2 : Int), .int .u64 (limb a 3 : Int)] := by rw [← hv9]; exact Blk.new (by simp)
  obtain ⟨bA, hb9⟩ : ∃ k, w.heap.size = k := ⟨_, rfl⟩
  rw [hb9] at X_A
  have g_bA : w.heap.size ≤ bA := by rw [← hb9]; exact BW.out.size
  replace N_ls := hid (N_ls.out.below hG9)
  replace T := hid (T.out.keep hG9)
  replace BW := hid (BW.out.trans (hG9.mono BW.out.size))
  clear hG9
  rw [hv9]
  try rw [hb9]
  clear hv9 hb9
  refine (lget_any b _ T.out).mono ?_
  rintro e v2 ⟨rfl, b9⟩
  replace X_A := X_A.keep b9
  replace N_ls := hid (N_ls.out.below b9)
  replace T := hid (T.out.keep b9)
  replace BW := hid (BW.out.trans (b9.mono BW.out.size))
  clear b9
  have zl : ls.length < 1000000 := by omega
  go_wp2_with fail
  obtain ⟨v3, hv9⟩ : ∃ v, ((v2.alloc (.cells #[.int .i64 (fID b), .int .u64 (limb (fP b) 0 : Int), .int .u64 (limb (fP b) 1 : Int), .int .u64 (limb (fP b) 2 : Int), .int .u64 (limb (fP b) 3 : Int), .int .u64 (fI b : Int), .int .u64 (limb (fO b) 0 : Int), .int .u64 (limb (fO b) 1 : Int), .int .u64 (limb (fO b) 2 : Int), .int .u64 (limb (fO b) 3 : Int), .int .u64 (limb (fS b) 0 : Int), .int .u64 (limb (fS b) 1 : Int), .int .u64 (limb (fS b) 2 : Int), .int .u64 (limb (fS b) 3 : Int)] 28)).alloc (.cells #[.int .u64 (limb (fP b) 0 : Int), .int .u64 (limb (fP b) 1 : Int), .int .u64 (limb (fP b) 2 : Int), .int .u64 (limb (fP b) 3 : Int)] 24)) = v := ⟨_, rfl⟩
  have hG9 : Below v2.heap.size v2 v3 := by rw [← hv9]; go_grown
  have X_F : Blk v3 (v2.heap.size) 28 [.int .i64 (fID b), .int .u64 (limb (fP b) 0 : Int), .int .u64 (limb (fP b) 1 : Int), .int .u64 (limb (fP b) 2 : Int), .int .u64 (limb (fP b) 3 : Int), .int .u64 (fI b : Int), .int .u64 (limb (fO b) 0 : Int), .int .u64 (limb (fO b) 1 : Int), .int .u64 (limb (fO b) 2 : Int), .int .u64 (limb (fO b) 3 : Int), .int .u64 (limb (fS b) 0 : Int), .int .u64 (limb (fS b) 1 : Int), .int .u64 (limb (fS b) 2 : Int), .int .u64 (limb (fS b) 3 : Int)] := by rw [← hv9]; exact Blk.alloc (Blk.new (by simp)) _
  have X_P : Blk v3 (v2.heap.size + 1) 24 [.int .u64 (limb (fP b) 0 : Int), .int .u64 (limb (fP b) 1 : Int), .int .u64 (limb (fP b) 2 : Int), .int .u64 (limb (fP b) 3 : Int)] := by rw [← hv9]; exact Blk.new (by simp)
  obtain ⟨bF, hb9⟩ : ∃ k, v2.heap.size = k := ⟨_, rfl⟩
  rw [hb9] at X_F
  rw [hb9] at X_P
  have g_bF : w.heap.size ≤ bF := by rw [← hb9]; exact BW.out.size
  have q_A_bF : bA < bF := by rw [← hb9]; exact X_A.lt
  replace X_A := X_A.keep hG9
  replace N_ls := hid (N_ls.out.below hG9)
  replace T := hid (T.out.keep hG9)
  replace BW := hid (BW.out.trans (hG9.mono BW.out.size))
  clear hG9
  rw [hv9]
  try rw [hb9]
  clear hv9 hb9
  refine (values_any (fP b) _ ls _ (fP_lt b) (by have := fP_two b; omega) N_ls.out zl).mono ?_
  rintro e v4 ⟨u1, u2, rfl, hv, hc, b9⟩
  replace X_A := X_A.keep b9
  replace X_F := X_F.keep b9
  replace X_P := X_P.keep b9
  replace N_ls := hid (N_ls.out.below b9)
  replace T := hid (T.out.keep b9)
  replace BW := hid (BW.out.trans (b9.mono BW.out.size))
  clear b9
  obtain ⟨vs, hvs⟩ : ∃ vs, ls.map (mulm (fP b) 1) = vs := ⟨_, rfl⟩
  have hlv : vs.length = n := by rw [← hvs, List.length_map, hn]
  have vlt : ∀ y ∈ vs, y < fP b := by
    intro y hy; rw [← hvs] at hy; obtain ⟨z, _, rfl⟩ := List.mem_map.1 hy
    exact mulm_lt _ _ (by have := fP_two b; omega)
  rw [hvs, show ls.length = vs.length by omega] at hv hc
  have N_vs := hid (nums_own hv (fun y hy => Nat.lt_trans (vlt y hy) (fP_lt b)))
  have N_cs := hid (nums_own (xs := vs.map (frm (fP b))) (by rw [List.length_map]; exact hc) (fun y hy => Nat.lt_trans (formsb_lt b vs y hy) (fP_lt b)))
  have HV := hid vlt
  clear vlt hvs hv hc zl N_ls
  have hs9 := N_vs.out
  obtain ⟨a1, c1, rfl, hx1, hr1⟩ := hs9
  have hs9 := N_cs.out
  obtain ⟨a2, c2, rfl, hx2, hr2⟩ := hs9
  rw [List.length_map] at N_cs ⊢
  rw [hlv] at N_vs N_cs ⊢
  have HR1 := hid hr1
  clear hr1 hr2 hx1 hx2
  have z_P := X_P.lt
  have c_P0 := X_P.cell (i := 0) rfl
  have c_P1 := X_P.cell (i := 1) rfl
  have c_P2 := X_P.cell (i := 2) rfl
  have c_P3 := X_P.cell (i := 3) rfl
  have z_A := X_A.lt
  have c_A0 := X_A.cell (i := 0) rfl
  have c_A1 := X_A.cell (i := 1) rfl
  have c_A2 := X_A.cell (i := 2) rfl
  have c_A3 := X_A.cell (i := 3) rfl
  go_wp2_with fail
  refine (rmod_any (fP b) a (fP_lt b) (by have := fP_two b; omega) ha _).mono ?_
  rintro e v5 ⟨rfl, b9⟩
  clear z_P c_P0 c_P1 c_P2 c_P3 z_A c_A0 c_A1 c_A2 c_A3
  replace X_A := X_A.keep b9
  replace X_F := X_F.keep b9
  replace X_P := X_P.keep b9
  replace N_vs := hid (N_vs.out.below b9)
  replace N_cs := hid (N_cs.out.below b9)
  replace T := hid (T.out.keep b9)
  replace BW := hid (BW.out.trans (b9.mono BW.out.size))
  clear b9
  have xlt : mulm (fP b) 1 a < fP b := mulm_lt _ _ (by have := fP_two b; omega)
  obtain ⟨x, hx⟩ : ∃ x, mulm (fP b) 1 a = x := ⟨_, rfl⟩
  rw [hx] at xlt ⊢
  have HX := hid xlt
  clear xlt hx
  clear X_A
  have FX := hid (fun W : World => lform_any (fP b) x (fP_lt b) (by have := fP_two b; omega) (Nat.lt_trans HX.out (fP_lt b)) W)
  have QC := hid (show ∀ (W : World) (_h : NumSl W (.slice a2 n c2) (vs.map (frm (fP b)))), Calls Tryd.prog 16 #[.pointer none, fld (fID b) (fP b) (fI b) (fO b) (fS b), .slice a2 n c2, vec (frm (fP b) x)] W (RetQN (frm (fP b) (evm (fP b) x vs)) ((quoV (fP b) x vs).map (frm (fP b))) W) from fun W h => (quotient_any (fID b) (fP b) (fI b) (fO b) (fS b) (frm (fP b) x) (.slice a2 n c2) (vs.map (frm (fP b))) W (hid (fOK b)) (hid (frm_lt x (by have := fP_two b; omega))) h (formsb_lt b vs) (by rw [List.length_map]; omega)).mono fun e w' ⟨q, he, ho, hb⟩ => ⟨q, by rw [he, horP_forms (fP_inv b)], NewSl.own (by rw [← quo_forms (fP_inv b)]; exact ho) (by rw [← quo_forms (fP_inv b), quo_len]) (fun z hz => Nat.lt_trans (forms_lt _ (by have := fP_two b; omega) z hz) (fP_lt b)), hb⟩)
  have REC := hid (fun (W : World) (h : NumSl W (.slice a1 n c1) vs) => reval_any (fP b) x (.slice a1 n c1) vs W (fP_lt b) (by have := fP_two b; omega) HX.out h HV.out (by omega))
  have HE := hid (evm_lt (p := fP b) x vs (by have := fP_two b; omega))
  have VLC := hid (fun (z : Nat) (hz : z < fP b) (W : World) => rvalue_any (fP b) (frm (fP b) z) (fP_lt b) (fP_odd b) (fP_inv b) (frm_lt z (by have := fP_two b; omega)) W)
  have VLR := hid (VLC.out (evm (fP b) x vs) (evm_lt x vs (by have := fP_two b; omega)))
  rw [valm_frm (fP_inv b) (evm_lt x vs (by have := fP_two b; omega))] at VLR
  have SBC := hid (fun W : World => rsubm_any (fP b) 0 x (fP_lt b) (by have := fP_two b; omega) HX.out W)
  rw [← vec_zero] at SBC
  have HQ : Hid (∀ y ∈ quoV (fP b) x vs, y < fP b) := hid (fun y hy => by rw [quoV_cl] at hy; exact cl_lt (by have := fP_two b; omega) _ y hy)
  have hql : (quoV (fP b) x vs).length = n - 1 := by rw [quoV_len, hlv]
  have FE := hid (fun W : World => lform_any (fP b) (evm (fP b) x vs) (fP_lt b) (by have := fP_two b; omega) (Nat.lt_trans HE.out (fP_lt b)) W)
  have hback := back_vals (p := fP b) (x := x) (vs := vs) (by have := fP_two b; omega) HX.out HV.out
  have HS := hid (subm_lt (p := fP b) 0 x (by have := fP_two b; omega))
  obtain ⟨qs, hqs⟩ : ∃ qs, quoV (fP b) x vs = qs := ⟨_, rfl⟩
  obtain ⟨e, he⟩ : ∃ e, evm (fP b) x vs = e := ⟨_, rfl⟩
  obtain ⟨ng, hng⟩ : ∃ g, subm (fP b) 0 x = g := ⟨_, rfl⟩
  rw [hqs] at QC hback HQ hql
  rw [he] at QC REC HE VLR FE hback
  rw [hng] at SBC hback HS
  obtain ⟨fx, hfx⟩ : ∃ y, frm (fP b) x = y := ⟨_, rfl⟩
  rw [hfx] at FX QC
  obtain ⟨r, hr⟩ : ∃ y, frm (fP b) e = y := ⟨_, rfl⟩
  rw [hr] at QC VLR FE
  have HBACK := hid hback
  clear hqs he hng hfx hr hback
  go_upto_region 6 with (fail)
  obtain ⟨v6, hv9⟩ : ∃ v, (v5.alloc (.cells #[.int .u64 (limb x 0 : Int), .int .u64 (limb x 1 : Int), .int .u64 (limb x 2 : Int), .int .u64 (limb x 3 : Int)] 24)) = v := ⟨_, rfl⟩
  have hG9 : Below v5.heap.size v5 v6 := by rw [← hv9]; go_grown
  have X_X : Blk v6 (v5.heap.size) 24 [.int .u64 (limb x 0 : Int), .int .u64 (limb x 1 : Int), .int .u64 (limb x 2 : Int), .int .u64 (limb x 3 : Int)] := by rw [← hv9]; exact Blk.new (by simp)
  obtain ⟨bX, hb9⟩ : ∃ k, v5.heap.size = k := ⟨_, rfl⟩
  rw [hb9] at X_X
  have g_bX : w.heap.size ≤ bX := by rw [← hb9]; exact BW.out.size
  have q_F_bX : bF < bX := by rw [← hb9]; exact X_F.lt
  have q_P_bX : bF + 1 < bX := by rw [← hb9]; exact X_P.lt
  replace X_F := X_F.keep hG9
  replace X_P := X_P.keep hG9
  replace N_vs := hid (N_vs.out.below hG9)
  replace N_cs := hid (N_cs.out.below hG9)
  replace T := hid (T.out.keep hG9)
  replace BW := hid (BW.out.trans (hG9.mono BW.out.size))
  clear hG9
  rw [hv9]
  try rw [hb9]
  clear hv9 hb9

  have z_F := X_F.lt
  have c_F0 := X_F.cell (i := 0) rfl
  have c_F1 := X_F.cell (i := 1) rfl
  have c_F2 := X_F.cell (i := 2) rfl
  have c_F3 := X_F.cell (i := 3) rfl
  have c_F4 := X_F.cell (i := 4) rfl
  have c_F5 := X_F.cell (i := 5) rfl
  have c_F6 := X_F.cell (i := 6) rfl
  have c_F7 := X_F.cell (i := 7) rfl
  have c_F8 := X_F.cell (i := 8) rfl
  have c_F9 := X_F.cell (i := 9) rfl
  have c_F10 := X_F.cell (i := 10) rfl
  have c_F11 := X_F.cell (i := 11) rfl
  have c_F12 := X_F.cell (i := 12) rfl
  have c_F13 := X_F.cell (i := 13) rfl
  have z_P := X_P.lt
  have c_P0 := X_P.cell (i := 0) rfl
  have c_P1 := X_P.cell (i := 1) rfl
  have c_P2 := X_P.cell (i := 2) rfl
  have c_P3 := X_P.cell (i := 3) rfl
  have z_X := X_X.lt
  have c_X0 := X_X.cell (i := 0) rfl
  have c_X1 := X_X.cell (i := 1) rfl
  have c_X2 := X_X.cell (i := 2) rfl
  have c_X3 := X_X.cell (i := 3) rfl
  go_cut [12, 13] (fun q t wx => ∃ br, t = .pointer (some ⟨br, 0, none⟩) ∧ Blk wx br 26 [.int .u64 (limb r 0 : Int), .int .u64 (limb r 1 : Int), .int .u64 (limb r 2 : Int), .int .u64 (limb r 3 : Int)] ∧ NumSl wx q (qs.map (frm (fP b))) ∧ Below v6.heap.size v6 wx)
  case first =>
    go_region_held3 (fun w' => ∀ b o, b < v6.heap.size → w'.cell? ⟨b, o, none⟩ = v6.cell? ⟨b, o, none⟩) ((intro b o h; first | with_reducible exact c2 b o h | with_reducible exact c1 b o h | with_reducible exact cell_drew | with_reducible exact cell_drew.trans (cell_alloc h) | (with_reducible refine (cell_alloc (by (try simp); omega)).trans ?_; first | with_reducible exact c2 b o h | with_reducible exact c1 b o h | with_reducible exact cell_drew) | with_reducible exact (below_set4 H2.out (by omega) _ _ _ _).cell (p := ⟨b, o, none⟩) h | with_reducible exact (below_set4 H1.out (by omega) _ _ _ _).cell (p := ⟨b, o, none⟩) h)) (first | (go_at_call 16; refine (QC.out _ (N_cs.out.below (by first | with_reducible exact H1.out | with_reducible exact H1.out.alloc H1.out.size _))).mono ?_; rintro e ra2 ⟨vq, rfl, hq, b9⟩; have H2 : Hid (Below v6.heap.size v6 ra2) := hid (by first | exact H1.out.trans (b9.mono H1.out.size) | exact (H1.out.alloc H1.out.size _).trans (b9.mono (by have := H1.out.size; simp; omega))); have hq := hid hq; (try (have Z : Blk ra2 v6.heap.size 26 [.int .u64 0, .int .u64 0, .int .u64 0, .int .u64 0] := Z0.keep b9; have zz := Z.lt; have HZ := hid (hq.out.set4 zz0); clear Z0; have y0 := Z.cell (i := 0) rfl; have yf0 := Z.frozen 0; have y1 := Z.cell (i := 1) rfl; have yf1 := Z.frozen 1; have y2 := Z.cell (i := 2) rfl; have yf2 := Z.frozen 2; have y3 := Z.cell (i := 3) rfl; have yf3 := Z.frozen 3)); (try (have Z : Blk ra2 ra1.heap.size 26 [.int .u64 0, .int .u64 0, .int .u64 0, .int .u64 0] := Blk.keep (Blk.new rfl) b9; have HZ := hid (hq.out.set4 (c := ra1.heap.size) (by simp)); have zz := Z.lt; have y0 := Z.cell (i := 0) rfl; have yf0 := Z.frozen 0; have y1 := Z.cell (i := 1) rfl; have yf1 := Z.frozen 1; have y2 := Z.cell (i := 2) rfl; have yf2 := Z.frozen 2; have y3 := Z.cell (i := 3) rfl; have yf3 := Z.frozen 3)); clear b9; have c2 := bcell H2.out; have z2 := H2.out.size) | (go_at_call 14; refine (FX.out _).mono ?_; rintro e ra1 ⟨rfl, b9⟩; have H1 : Hid (Below v6.heap.size v6 ra1) := hid (by first | exact (Below.drew (Below.refl _ v6)).trans b9 | exact ((Below.drew (Below.refl _ v6)).alloc (Nat.le_refl _) _).trans (b9.mono (by simp)) | exact (Below.drew ((Below.refl _ v6).alloc (Nat.le_refl _) _)).trans (b9.mono (by simp))); (try (have Z0 : Blk ra1 v6.heap.size 26 [.int .u64 0, .int .u64 0, .int .u64 0, .int .u64 0] := (by first | exact Blk.keep (Blk.drew (Blk.new rfl)) b9 | exact Blk.keep (Blk.new rfl) b9); have zz0 := Z0.lt)); clear b9; have c1 := bcell H1.out; have z1 := H1.out.size))
    all_goals (go_wp2_with (fail); go_meet)
    all_goals (refine ⟨_, rfl, ?_, ?_, ?_⟩)
    all_goals (first | with_reducible exact Z.set4 (.int .u64 (limb r 0 : Int)) (.int .u64 (limb r 1 : Int)) (.int .u64 (limb r 2 : Int)) (.int .u64 (limb r 3 : Int)) | with_reducible exact HZ.out (.int .u64 (limb r 0 : Int)) (.int .u64 (limb r 1 : Int)) (.int .u64 (limb r 2 : Int)) (.int .u64 (limb r 3 : Int)) | with_reducible exact below_set4 H2.out (by omega) (.int .u64 (limb r 0 : Int)) (.int .u64 (limb r 1 : Int)) (.int .u64 (limb r 2 : Int)) (.int .u64 (limb r 3 : Int)) | with_reducible exact Blk.new rfl | with_reducible exact hq.out.alloc _ | with_reducible exact H2.out.alloc H2.out.size _)
  case rest =>
    obtain ⟨br, rfl, X_R, hq, hbel⟩ := hcut
    clear z_F c_F0 c_F1 c_F2 c_F3 c_F4 c_F5 c_F6 c_F7 c_F8 c_F9 c_F10 c_F11 c_F12 c_F13 z_P c_P0 c_P1 c_P2 c_P3 z_X c_X0 c_X1 c_X2 c_X3
    replace X_F := X_F.keep hbel
    replace X_P := X_P.keep hbel
    replace X_X := X_X.keep hbel
    replace N_vs := hid (N_vs.out.below hbel)
    replace N_cs := hid (N_cs.out.below hbel)
    replace T := hid (T.out.keep hbel)
    replace BW := hid (BW.out.trans (hbel.mono BW.out.size))
    clear hbel
    obtain ⟨aq, cq, rfl, hqc, hqr⟩ := hq
    have hqn : (qs.map (frm (fP b))).length = n - 1 := by rw [List.length_map]; exact hql
    rw [hqn] at hqc ⊢
    obtain ⟨m, hm⟩ : ∃ m, n - 1 = m := ⟨_, rfl⟩
    have hqm : qs.length = m := by rw [hql, hm]
    rw [hm] at hqc ⊢
    have HQR := hid hqr
    clear hqr hqn
    have hmx : (if (n : Int) - 1 < 0 then (0 : Int) else (n : Int) - 1) = (m : Int) := by split <;> omega
    have N_q : Hid (NumSl wc (.slice aq m cq) (qs.map (frm (fP b)))) := hid ⟨aq, cq, by rw [List.length_map, hqm], by rw [List.length_map, hqm]; exact hqc, HQR.out⟩
    clear HQR hqc
    go_wp2_with fail
    clear hmx
    have hM : qs.length = m := hqm
    have hL : (qs.map (frm (fP b))).length = m := by rw [List.length_map, hqm]
    obtain ⟨i0, hi, hz0, hz1, hz2⟩ := info_parts info_v4
    go_loopw [14, 56] (fun y i wr => ∃ k : Nat, k ≤ m ∧ i = .int .i64 (k : Int) ∧ Below wc.heap.size wc wr ∧ wr.ownsRow wc.heap.size 24 4 y k (nums (qs.take k))) (fun _ i _ => m - (intOf i).toNat)
    case atStart => exact ⟨0, Nat.zero_le _, rfl, Below.refl _ _, by simpa [nums] using World.ownsRow_nil _ _ _ _⟩
    case round =>
      obtain ⟨k, hk, rfl, hB, hO⟩ := hrel
      have HB := hid hB
      have O6 := hid hO
      have zB := hB.size
      clear hO
      by_cases hlt : k < m
      · skip
        replace X_F := X_F.keep hB
        replace X_P := X_P.keep hB
        replace X_X := X_X.keep hB
        replace X_R := X_R.keep hB
        replace N_vs := hid (N_vs.out.below hB)
        replace N_cs := hid (N_cs.out.below hB)
        replace N_q := hid (N_q.out.below hB)
        replace T := hid (T.out.keep hB)
        replace BW := hid (BW.out.trans (hB.mono BW.out.size))
        clear hB
        have z_P := X_P.lt
        have c_P0 := X_P.cell (i := 0) rfl
        have c_P1 := X_P.cell (i := 1) rfl
        have c_P2 := X_P.cell (i := 2) rfl
        have c_P3 := X_P.cell (i := 3) rfl
        have hy : (qs.map (frm (fP b)))[k]? = some ((qs.map (frm (fP b)))[k]'(by first | omega | (simp; omega))) := List.getElem?_eq_getElem _
        obtain ⟨y, hy9⟩ : ∃ y, (qs.map (frm (fP b)))[k]'(by first | omega | (simp; omega)) = y := ⟨_, rfl⟩
        rw [hy9] at hy
        clear hy9
        obtain ⟨g, off, rfl, hg, d0, d1, d2, d3⟩ := N_q.out.at4 hy
        obtain ⟨z, hz, rfl⟩ : ∃ z, qs[k]? = some z ∧ frm (fP b) z = y := by rw [List.getElem?_map] at hy; exact Option.map_eq_some_iff.1 hy
        have M := hid (VLC.out z (HQ.out z (List.mem_of_getElem? hz)))
        rw [valm_frm (fP_inv b) (HQ.out z (List.mem_of_getElem? hz))] at M
        obtain ⟨y, hfy⟩ : ∃ y, frm (fP b) z = y := ⟨_, rfl⟩
        rw [hfy] at M d0 d1 d2 d3
        clear hfy hL
        have T1 := hid (take_next hz)
        clear hy hz
        go_wp2_with (first
          | (go_at_call 17; refine (M.out _).mono ?_; rintro e w1 ⟨rfl, b1⟩; have B1 := hid ((HB.out.alloc zB _).trans (b1.mono (by simp; omega))); have O6a := hid (owns_keep (O6.out.alloc _) b1); clear b1)
          | (at_builtin; refine wpList_append_own _ rfl _ _ 22 rfl wc.heap.size 24 i0 _ 4 32 Tryd.underlying22 hi hz0 hz1 hz2 rfl (by decide) _ k _ rfl (O6a.out.alloc _) ⟨w1.heap.size, 0, none⟩ 1 1 (limbs z) rfl rfl (Blk.news (t := 24) (Blk.new (by simp))) (by simp [Value.oneCell']) (by unfold maxLen; omega) (by omega) (by have := B1.out.size; simp; omega) ?_; intro v6 w2 ho hg2 _))
        have B2 := hid (Below.grown (B1.out.alloc B1.out.size _) hg2 (by have := B1.out.size; simp; omega) (fun j hj => by have := (O6a.out.lt j hj).1; omega))
        have ho' : w2.ownsRow wc.heap.size 24 4 v6 (k + 1) (nums (qs.take (k + 1))) := by rw [T1.out, nums_snoc]; exact ho
        have zk2 : IntKind.i64.wrap (k : Int) = (k : Int) := by rw [IntKind.wrap_i64]; omega
        go_roundw
        case rel => exact ⟨k + 1, by omega, by go_num, B2.out, ho'⟩
        case measure => simp [intOf]; omega
      · skip
        obtain rfl : m = k := by omega
        have N_u := hid (nums_own (xs := qs) (by have q := O6.out; rw [List.take_of_length_le (by omega)] at q; rw [hM]; exact q) (fun z hz => Nat.lt_trans (HQ.out z hz) (fP_lt b)))
        replace X_F := X_F.keep hB
        replace X_P := X_P.keep hB
        replace X_X := X_X.keep hB
        replace X_R := X_R.keep hB
        replace N_vs := hid (N_vs.out.below hB)
        replace N_cs := hid (N_cs.out.below hB)
        replace N_q := hid (N_q.out.below hB)
        replace T := hid (T.out.keep hB)
        replace BW := hid (BW.out.trans (hB.mono BW.out.size))
        clear hB
        clear O6 HB zB hi hz0 hz1 hz2 hlt
        clear N_q hL
        have hs9 := N_u.out
        obtain ⟨au, cu, rfl, hx1, hr1⟩ := hs9
        clear hx1 hr1
        rw [hM] at N_u ⊢
        have hx2 : [ng, 1].length < 100000 := by simp
        have HNG : Hid (∀ y ∈ [ng, 1], y < fP b) := hid (fun y hy => by
          have h2 := fP_two b
          have h3 := HS.out
          rcases List.mem_cons.1 hy with rfl | hy
          · exact h3
          · rw [List.mem_singleton.1 hy]; omega)
        have HNB : Hid (∀ y ∈ [ng, 1], y < B256) := hid (fun y hy => Nat.lt_trans (HNG.out y hy) (fP_lt b))
        have MLC := hid (fun (W : World) (v2 : Value) (h1 : NumSl W (.slice au m cu) qs) (h2 : NumSl W v2 [ng, 1]) => rpmul_sl (fP b) (.slice au m cu) v2 qs [ng, 1] W (fP_lt b) (by have := fP_two b; omega) h1 h2 HQ HNG (by omega) hx2)
        clear hx2
        obtain ⟨ps, hps⟩ : ∃ ps, pmulV (fP b) qs [ng, 1] = ps := ⟨_, rfl⟩
        have HPL := hid (pmulV_lt (p := fP b) qs [ng, 1] (by have := fP_two b; omega))
        have hpl : ps.length ≤ 14 := by rw [← hps]; exact pmulV_small (n := 12) (k := 2) (by omega) (by simp)
        rw [hps] at MLC HBACK HPL
        clear hps
        have z_P := X_P.lt
        have c_P0 := X_P.cell (i := 0) rfl
        have c_P1 := X_P.cell (i := 1) rfl
        have c_P2 := X_P.cell (i := 2) rfl
        have c_P3 := X_P.cell (i := 3) rfl
        have z_X := X_X.lt
        have c_X0 := X_X.cell (i := 0) rfl
        have c_X1 := X_X.cell (i := 1) rfl
        have c_X2 := X_X.cell (i := 2) rfl
        have c_X3 := X_X.cell (i := 3) rfl
        go_upto_region 15 with (fail)
        go_region_held3 (fun w' => ∀ b o, b < wr.heap.size → w'.cell? ⟨b, o, none⟩ = wr.cell? ⟨b, o, none⟩) ((intro b o h; first | with_reducible exact c2 b o h | with_reducible exact c1 b o h | with_reducible exact cell_drew | with_reducible exact cell_drew.trans (cell_alloc h) | (with_reducible refine (cell_alloc (by (try simp); omega)).trans ?_; first | with_reducible exact c2 b o h | with_reducible exact c1 b o h | with_reducible exact cell_drew) | with_reducible exact (below_set4 H2.out (by omega) _ _ _ _).cell (p := ⟨b, o, none⟩) h | with_reducible exact (below_set4 H1.out (by omega) _ _ _ _).cell (p := ⟨b, o, none⟩) h)) (first | (go_at_call 18; refine (MLC.out _ _ (N_u.out.below (H1.out.alloc H1.out.size _)) (blk_nums (t := 24) (by rw [nums_two]; exact Blk.new rfl) HNB.out)).mono ?_; rintro e rb2 ⟨vp, rfl, hp, b9⟩; have H2 : Hid (Below wr.heap.size wr rb2) := hid (by first | exact H1.out.trans (b9.mono H1.out.size) | exact (H1.out.alloc H1.out.size _).trans (b9.mono (by have := H1.out.size; simp; omega))); have hp := hid hp; clear b9; have c2 := bcell H2.out; have z2 := H2.out.size) | (go_at_call 19; refine (SBC.out _).mono ?_; rintro e rb1 ⟨rfl, b9⟩; have H1 : Hid (Below wr.heap.size wr rb1) := hid (Below.drew (Below.refl _ wr)).trans b9; clear b9; have c1 := bcell H1.out; have z1 := H1.out.size))
        have hH9 := H2.out
        clear z_P c_P0 c_P1 c_P2 c_P3 z_X c_X0 c_X1 c_X2 c_X3
        replace X_F := X_F.keep hH9
        replace X_P := X_P.keep hH9
        replace X_X := X_X.keep hH9
        replace X_R := X_R.keep hH9
        replace N_vs := hid (N_vs.out.below hH9)
        replace N_cs := hid (N_cs.out.below hH9)
        replace N_u := hid (N_u.out.below hH9)
        replace T := hid (T.out.keep hH9)
        replace BW := hid (BW.out.trans (hH9.mono BW.out.size))
        clear hH9
        clear H1 c1 z1 H2 c2 z2
        have N_p := hp
        clear hp
        have hs9 := N_p.out
        obtain ⟨ap, cp, rfl, hx1, hr1⟩ := hs9
        clear hx1 hr1
        have HE1 : Hid (∀ y ∈ [e], y < fP b) := hid (fun y hy => by rw [List.mem_singleton.1 hy]; exact HE.out)
        have HE2 : Hid (∀ y ∈ [e], y < B256) := hid (fun y hy => Nat.lt_trans (HE1.out y hy) (fP_lt b))
        have hx2 : [e].length < 100000 := by simp
        have ADC := hid (fun (W : World) (v2 : Value) (h1 : NumSl W (.slice ap ps.length cp) ps) (h2 : NumSl W v2 [e]) => rpadd_sl (fP b) (.slice ap ps.length cp) v2 ps [e] W (fP_lt b) (by have := fP_two b; omega) h1 h2 HPL HE1 (by omega) hx2)
        clear hx2
        obtain ⟨bk, hbk⟩ : ∃ bk, paddV (fP b) ps [e] = bk := ⟨_, rfl⟩
        have HBL := hid (paddV_lt (p := fP b) ps [e] (by have := fP_two b; omega))
        rw [hbk] at ADC HBACK HBL
        clear hbk
        clear N_u MLC SBC
        have z_P := X_P.lt
        have c_P0 := X_P.cell (i := 0) rfl
        have c_P1 := X_P.cell (i := 1) rfl
        have c_P2 := X_P.cell (i := 2) rfl
        have c_P3 := X_P.cell (i := 3) rfl
        have z_R := X_R.lt
        have c_R0 := X_R.cell (i := 0) rfl
        have c_R1 := X_R.cell (i := 1) rfl
        have c_R2 := X_R.cell (i := 2) rfl
        have c_R3 := X_R.cell (i := 3) rfl
        go_upto_region 16 with (fail)
        go_region_held3 (fun w' => ∀ b o, b < rb2.heap.size → w'.cell? ⟨b, o, none⟩ = rb2.cell? ⟨b, o, none⟩) ((intro b o h; first | with_reducible exact c2 b o h | with_reducible exact c1 b o h | with_reducible exact cell_drew | with_reducible exact cell_drew.trans (cell_alloc h) | (with_reducible refine (cell_alloc (by (try simp); omega)).trans ?_; first | with_reducible exact c2 b o h | with_reducible exact c1 b o h | with_reducible exact cell_drew) | with_reducible exact (below_set4 H2.out (by omega) _ _ _ _).cell (p := ⟨b, o, none⟩) h | with_reducible exact (below_set4 H1.out (by omega) _ _ _ _).cell (p := ⟨b, o, none⟩) h)) (first | (go_at_call 20; refine (ADC.out _ _ (N_p.out.below (H1.out.alloc H1.out.size _)) (blk_nums (t := 24) (by exact Blk.new rfl) HE2.out)).mono ?_; rintro e rc2 ⟨vb, rfl, hp, b9⟩; have H2 : Hid (Below rb2.heap.size rb2 rc2) := hid (by first | exact H1.out.trans (b9.mono H1.out.size) | exact (H1.out.alloc H1.out.size _).trans (b9.mono (by have := H1.out.size; simp; omega))); have hp := hid hp; clear b9; have c2 := bcell H2.out; have z2 := H2.out.size) | (go_at_call 17; refine (VLR.out _).mono ?_; rintro e rc1 ⟨rfl, b9⟩; have H1 : Hid (Below rb2.heap.size rb2 rc1) := hid (Below.drew (Below.refl _ rb2)).trans b9; clear b9; have c1 := bcell H1.out; have z1 := H1.out.size))
        have hH9 := H2.out
        clear z_P c_P0 c_P1 c_P2 c_P3 z_R c_R0 c_R1 c_R2 c_R3
        replace X_F := X_F.keep hH9
        replace X_P := X_P.keep hH9
        replace X_X := X_X.keep hH9
        replace X_R := X_R.keep hH9
        replace N_vs := hid (N_vs.out.below hH9)
        replace N_cs := hid (N_cs.out.below hH9)
        replace N_p := hid (N_p.out.below hH9)
        replace T := hid (T.out.keep hH9)
        replace BW := hid (BW.out.trans (hH9.mono BW.out.size))
        clear hH9
        clear H1 c1 z1 H2 c2 z2
        have N_bk := hp
        clear hp
        have hs9 := N_bk.out
        obtain ⟨ab, cb, rfl, hx1, hr1⟩ := hs9
        clear hx1 hr1 N_p ADC VLR
        obtain ⟨nb, hnb⟩ : ∃ m, bk.length = m := ⟨_, rfl⟩
        rw [hnb] at N_bk ⊢
        go_wp2_with fail
        go_loopw [85] (fun i wr => ∃ k : Nat, k ≤ n ∧ i = .int .i64 (k : Int) ∧ Below rc2.heap.size rc2 wr) (fun i _ => n - (intOf i).toNat)
        case atStart => exact ⟨0, Nat.zero_le _, rfl, Below.refl _ _⟩
        case round =>
          obtain ⟨k, hk, rfl, hB⟩ := hrel
          have HB := hid hB
          have zB := hB.size
          by_cases hlt : k < n
          · skip
            replace X_F := X_F.keep hB
            replace X_P := X_P.keep hB
            replace X_X := X_X.keep hB
            replace X_R := X_R.keep hB
            replace N_vs := hid (N_vs.out.below hB)
            replace N_cs := hid (N_cs.out.below hB)
            replace N_bk := hid (N_bk.out.below hB)
            replace T := hid (T.out.keep hB)
            replace BW := hid (BW.out.trans (hB.mono BW.out.size))
            clear hB
            have hy : vs[k]? = some (vs[k]'(by omega)) := List.getElem?_eq_getElem _
            obtain ⟨y, hy9⟩ : ∃ y, vs[k]'(by omega) = y := ⟨_, rfl⟩
            rw [hy9] at hy
            clear hy9
            have hbe := HBACK.out (by intro h; rw [h] at hy; cases hy)
            have hkb : k < nb := by rw [← hnb, hbe]; omega
            have hyb : bk[k]? = some y := by rw [hbe]; exact hy
            obtain ⟨g, off, rfl, hg, d0, d1, d2, d3⟩ := N_vs.out.at4 hy
            obtain ⟨g2, off2, rfl, hg2, e0, e1, e2, e3⟩ := N_bk.out.at4 hyb
            clear hy hyb hbe hnb hlv hM hqm hql
            have heq := fun W : World => eq_same_v4 (limb y 0 : Int) (limb y 1 : Int) (limb y 2 : Int) (limb y 3 : Int) W
            go_wp2_with fail
            go_quiet (fail)
            go_wp2_with fail
            go_roundw
            case rel => exact ⟨k + 1, by omega, by go_num, by first | exact Below.drewN' (HB.out.alloc HB.out.size _) _ | exact HB.out.alloc HB.out.size _ | exact HB.out | (have := HB.out; go_grown)⟩
            case measure => simp [intOf]; omega
          · skip
            obtain rfl : n = k := by omega
            replace X_F := X_F.keep hB
            replace X_P := X_P.keep hB
            replace X_X := X_X.keep hB
            replace X_R := X_R.keep hB
            replace N_vs := hid (N_vs.out.below hB)
            replace N_cs := hid (N_cs.out.below hB)
            replace N_bk := hid (N_bk.out.below hB)
            replace T := hid (T.out.keep hB)
            replace BW := hid (BW.out.trans (hB.mono BW.out.size))
            clear hB
            clear HB zB hlt
            have heq := fun W : World => eq_same_el (limb r 0 : Int) (limb r 1 : Int) (limb r 2 : Int) (limb r 3 : Int) W
            have z_P := X_P.lt
            have c_P0 := X_P.cell (i := 0) rfl
            have c_P1 := X_P.cell (i := 1) rfl
            have c_P2 := X_P.cell (i := 2) rfl
            have c_P3 := X_P.cell (i := 3) rfl
            have z_X := X_X.lt
            have c_X0 := X_X.cell (i := 0) rfl
            have c_X1 := X_X.cell (i := 1) rfl
            have c_X2 := X_X.cell (i := 2) rfl
            have c_X3 := X_X.cell (i := 3) rfl
            have z_R := X_R.lt
            have c_R0 := X_R.cell (i := 0) rfl
            have c_R1 := X_R.cell (i := 1) rfl
            have c_R2 := X_R.cell (i := 2) rfl
            have c_R3 := X_R.cell (i := 3) rfl
            go_upto_region 23 with (fail)
            go_region_held3 (fun w' => ∀ b o, b < wr.heap.size → w'.cell? ⟨b, o, none⟩ = wr.cell? ⟨b, o, none⟩) ((intro b o h; first | with_reducible exact c3 b o h | with_reducible exact c2 b o h | with_reducible exact c1 b o h | with_reducible exact cell_drew | with_reducible exact cell_drew.trans (cell_alloc h) | (with_reducible refine (cell_alloc (by (try simp); omega)).trans ?_; first | with_reducible exact c3 b o h | with_reducible exact c2 b o h | with_reducible exact c1 b o h | with_reducible exact cell_drew) | with_reducible exact (below_set4 H3.out (by omega) _ _ _ _).cell (p := ⟨b, o, none⟩) h | with_reducible exact (below_set4 H2.out (by omega) _ _ _ _).cell (p := ⟨b, o, none⟩) h | with_reducible exact (below_set4 H1.out (by omega) _ _ _ _).cell (p := ⟨b, o, none⟩) h)) (first | (go_at_call 14; refine (FE.out rd2).mono ?_; rintro e rd3 ⟨rfl, b9⟩; have H3 : Hid (Below wr.heap.size wr rd3) := hid H2.out.trans (b9.mono H2.out.size); clear b9; have c3 := bcell H3.out; have z3 := H3.out.size) | (go_at_call 15; refine (REC.out rd1 (N_vs.out.below H1.out)).mono ?_; rintro e rd2 ⟨rfl, b9⟩; have H2 : Hid (Below wr.heap.size wr rd2) := hid H1.out.trans (b9.mono H1.out.size); clear b9; have c2 := bcell H2.out; have z2 := H2.out.size) | (go_at_call 9; refine (alive_any wr.drew T.out).mono ?_; rintro e rd1 ⟨rfl, b9⟩; have H1 : Hid (Below wr.heap.size wr rd1) := hid (Below.drew (Below.refl _ wr)).trans b9; clear b9; have c1 := bcell H1.out; have z1 := H1.out.size))
            have hH9 := H3.out
            clear z_P c_P0 c_P1 c_P2 c_P3 z_X c_X0 c_X1 c_X2 c_X3 z_R c_R0 c_R1 c_R2 c_R3
            replace X_F := X_F.keep hH9
            replace X_P := X_P.keep hH9
            replace X_X := X_X.keep hH9
            replace X_R := X_R.keep hH9
            replace N_vs := hid (N_vs.out.below hH9)
            replace N_cs := hid (N_cs.out.below hH9)
            replace N_bk := hid (N_bk.out.below hH9)
            replace T := hid (T.out.keep hH9)
            replace BW := hid (BW.out.trans (hH9.mono BW.out.size))
            clear hH9
            clear H1 c1 z1 H2 c2 z2 H3 c3 z3
            go_wp2
            go_ret
            exact ⟨rfl, BW.out⟩
end Go.Proofs.YtfaicnileghjiaaDoor
