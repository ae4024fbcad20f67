/-
  PolyHomomorphism: the value of a sum or product is the sum or product of the values.
-/
import Derived.Test.YtfaicnileghjiaaDoorPolyLaw1
import Derived.Test.YtfaicnileghjiaaDoorSl08
import Derived.Deep.RegionHeld3
import Derived.Deep.DeepCutAuto
import Derived.Test.YtfaicnileghjiaaDoorRefV
import Derived.Test.YtfaicnileghjiaaDoorPolys
import Derived.Test.YtfaicnileghjiaaDoorKit
namespace Go.Proofs.YtfaicnileghjiaaDoor
open Go.RowKit

set_option maxRecDepth 100000 in
set_option maxHeartbeats 4000000 in
theorem hom_law (b : Bool) (v v' : Value) (ls ms : List Nat) (a : Nat) (w : World) (hT : Tab w) (hS : NumSl w v ls) (hS2 : NumSl w v' ms) (ha : a < B256) :
    Calls Tryd.prog 7 #[.bool b, .agg #[v, v'], vec a] w (Ret (.bool true) w) := by
  have hS9 := hS
  obtain ⟨sa, capa, rfl, _, _⟩ := hS9
  have hS8 := hS2
  obtain ⟨sb, capb, rfl, _, _⟩ := hS8
  obtain ⟨n, hn⟩ : ∃ n, ls.length = n := ⟨_, rfl⟩
  obtain ⟨n2, hn2⟩ : ∃ n, ms.length = n := ⟨_, rfl⟩
  rw [hn] at hS ⊢
  rw [hn2] at hS2 ⊢
  have G0 : Below w.heap.size w ((w.alloc (.cells #[.slice sa n capa, .slice sb n2 capb] 47)).alloc (.cells #[.int .u64 (limb a 0 : Int), .int .u64 (limb a 1 : Int), .int .u64 (limb a 2 : Int), .int .u64 (limb a 3 : Int)] 24)) := by go_grown
  have T0 := hid (hT.keep G0)
  have Sa := hid (hS.below G0)
  have Sb := hid (hS2.below G0)
  have HG0 := hid G0
  clear hT hS hS2 G0
  by_cases h12 : 12 < n
  · go_enter Tryd.func7, Tryd.ntmps7
    go_wp2_with fail
    refine (alive_any _ T0.out).mono ?_
    rintro e w1 ⟨rfl, b1⟩
    have B1 := hid (HG0.out.trans (b1.mono HG0.out.size))
    clear b1
    go_wp2
    go_ret
    exact ⟨rfl, B1.out⟩
  by_cases h13 : 12 < n2
  · go_enter Tryd.func7, Tryd.ntmps7
    go_wp2_with fail
    refine (alive_any _ T0.out).mono ?_
    rintro e w1 ⟨rfl, b1⟩
    have B1 := hid (HG0.out.trans (b1.mono HG0.out.size))
    clear b1
    go_wp2
    go_ret
    exact ⟨rfl, B1.out⟩
  go_enter Tryd.func7, Tryd.ntmps7
  go_wp2_with fail
  refine (lget_any b _ T0.out).mono ?_
  rintro e w1 ⟨rfl, b1⟩
  have L1 : Blk w1 w.heap.size 47 [.slice sa n capa, .slice sb n2 capb] := Blk.keep (Blk.alloc (Blk.new rfl) _) b1
  have A1 : Blk w1 (w.heap.size + 1) 24 [.int .u64 (limb a 0 : Int), .int .u64 (limb a 1 : Int), .int .u64 (limb a 2 : Int), .int .u64 (limb a 3 : Int)] := Blk.keep (Blk.new (by simp)) b1
  have T1 := T0.out.keep b1
  have Sa1 := Sa.out.below b1
  have Sb1 := Sb.out.below b1
  have B1 := hid (HG0.out.trans (b1.mono HG0.out.size))
  clear b1 T0 Sa Sb HG0
  have F1 : Blk ((w1.alloc (.cells #[.int .i64 (fID b), .int .u64 (limb (fP b) 0 : Int), .int .u64 (limb (fP b) 1 : Int), .int .u64 (limb (fP b) 2 : Int), .int .u64 (limb (fP b) 3 : Int), .int .u64 (fI b : Int), .int .u64 (limb (fO b) 0 : Int), .int .u64 (limb (fO b) 1 : Int), .int .u64 (limb (fO b) 2 : Int), .int .u64 (limb (fO b) 3 : Int), .int .u64 (limb (fS b) 0 : Int), .int .u64 (limb (fS b) 1 : Int), .int .u64 (limb (fS b) 2 : Int), .int .u64 (limb (fS b) 3 : Int)] 28)).alloc (.cells #[.int .u64 (limb (fP b) 0 : Int), .int .u64 (limb (fP b) 1 : Int), .int .u64 (limb (fP b) 2 : Int), .int .u64 (limb (fP b) 3 : Int)] 24)) w1.heap.size 28 [.int .i64 (fID b), .int .u64 (limb (fP b) 0 : Int), .int .u64 (limb (fP b) 1 : Int), .int .u64 (limb (fP b) 2 : Int), .int .u64 (limb (fP b) 3 : Int), .int .u64 (fI b : Int), .int .u64 (limb (fO b) 0 : Int), .int .u64 (limb (fO b) 1 : Int), .int .u64 (limb (fO b) 2 : Int), .int .u64 (limb (fO b) 3 : Int), .int .u64 (limb (fS b) 0 : Int), .int .u64 (limb (fS b) 1 : Int), .int .u64 (limb (fS b) 2 : Int), .int .u64 (limb (fS b) 3 : Int)] := Blk.alloc (Blk.new rfl) _
  have P1 : Blk ((w1.alloc (.cells #[.int .i64 (fID b), .int .u64 (limb (fP b) 0 : Int), .int .u64 (limb (fP b) 1 : Int), .int .u64 (limb (fP b) 2 : Int), .int .u64 (limb (fP b) 3 : Int), .int .u64 (fI b : Int), .int .u64 (limb (fO b) 0 : Int), .int .u64 (limb (fO b) 1 : Int), .int .u64 (limb (fO b) 2 : Int), .int .u64 (limb (fO b) 3 : Int), .int .u64 (limb (fS b) 0 : Int), .int .u64 (limb (fS b) 1 : Int), .int .u64 (limb (fS b) 2 : Int), .int .u64 (limb (fS b) 3 : Int)] 28)).alloc (.cells #[.int .u64 (limb (fP b) 0 : Int), .int .u64 (limb (fP b) 1 : Int), .int .u64 (limb (fP b) 2 : Int), .int .u64 (limb (fP b) 3 : Int)] 24)) (w1.heap.size + 1) 24 [.int .u64 (limb (fP b) 0 : Int), .int .u64 (limb (fP b) 1 : Int), .int .u64 (limb (fP b) 2 : Int), .int .u64 (limb (fP b) 3 : Int)] := Blk.new (by simp)
  have G1 : Below w1.heap.size w1 ((w1.alloc (.cells #[.int .i64 (fID b), .int .u64 (limb (fP b) 0 : Int), .int .u64 (limb (fP b) 1 : Int), .int .u64 (limb (fP b) 2 : Int), .int .u64 (limb (fP b) 3 : Int), .int .u64 (fI b : Int), .int .u64 (limb (fO b) 0 : Int), .int .u64 (limb (fO b) 1 : Int), .int .u64 (limb (fO b) 2 : Int), .int .u64 (limb (fO b) 3 : Int), .int .u64 (limb (fS b) 0 : Int), .int .u64 (limb (fS b) 1 : Int), .int .u64 (limb (fS b) 2 : Int), .int .u64 (limb (fS b) 3 : Int)] 28)).alloc (.cells #[.int .u64 (limb (fP b) 0 : Int), .int .u64 (limb (fP b) 1 : Int), .int .u64 (limb (fP b) 2 : Int), .int .u64 (limb (fP b) 3 : Int)] 24)) := by go_grown
  have L1' := L1.keep G1
  have A1' := A1.keep G1
  have T1' := T1.keep G1
  have Sa1' := Sa1.below G1
  have Sb1' := Sb1.below G1
  have B1' := hid (B1.out.trans (G1.mono B1.out.size))
  have l1_0 := L1.cell (i := 0) rfl
  have l1_1 := L1.cell (i := 1) rfl
  have zl1 := L1.lt
  clear T1 Sa1 Sb1 B1 G1 A1
  have zl : ls.length < 1000000 := by omega
  have zm : ms.length < 1000000 := by omega
  go_wp2_with fail
  refine (values_any (fP b) _ ls _ (fP_lt b) (by have := fP_two b; omega) Sa1' zl).mono ?_
  rintro e w2 ⟨u1, u2, rfl, hv, hc, b2⟩
  obtain ⟨vs, hvs⟩ : ∃ vs, ls.map (mulm (fP b) 1) = vs := ⟨_, rfl⟩
  have hlvs : vs.length = n := by rw [← hvs, List.length_map, hn]
  have vlt : ∀ y ∈ vs, y < fP b := by
    intro y hy; rw [← hvs] at hy; obtain ⟨z, _, rfl⟩ := List.mem_map.1 hy
    exact mulm_lt _ _ (by have := fP_two b; omega)
  rw [hvs, show ls.length = vs.length by omega] at hv hc
  have VS2 := hid (nums_own hv (fun y hy => Nat.lt_trans (vlt y hy) (fP_lt b)))
  have CS2 := hid (nums_own (xs := vs.map (frm (fP b))) (by rw [List.length_map]; exact hc) (fun y hy => Nat.lt_trans (formsb_lt b vs y hy) (fP_lt b)))
  have HV := hid vlt
  clear vlt hvs
  have F2 := Blk.keep F1 b2
  have P2b := Blk.keep P1 b2
  have L2 := Blk.keep L1' b2
  have A2 := Blk.keep A1' b2
  have T2 := T1'.keep b2
  have Sb2 := Sb1'.below b2
  have B2 := hid (B1'.out.trans (b2.mono B1'.out.size))
  obtain ⟨bf, hbf⟩ : ∃ k, w1.heap.size = k := ⟨_, rfl⟩
  rw [hbf] at F2 P2b ⊢
  have l2_0 := L2.cell (i := 0) rfl
  have l2_1 := L2.cell (i := 1) rfl
  have zl2 := L2.lt
  clear F1 P1 T1' Sa1' Sb1' B1' hv hc b2 hbf L1 L1' A1' l1_0 l1_1 zl1
  have p0 := P2b.cell (i := 0) rfl
  have p1 := P2b.cell (i := 1) rfl
  have p2 := P2b.cell (i := 2) rfl
  have p3 := P2b.cell (i := 3) rfl
  go_wp2_with fail
  refine (values_any (fP b) _ ms _ (fP_lt b) (by have := fP_two b; omega) Sb2 zm).mono ?_
  rintro e v0 ⟨u3, u4, rfl, hv, hc, b3⟩
  obtain ⟨us, hvs⟩ : ∃ vs, ms.map (mulm (fP b) 1) = vs := ⟨_, rfl⟩
  have hlus : us.length = n2 := by rw [← hvs, List.length_map, hn2]
  have vlt : ∀ y ∈ us, y < fP b := by
    intro y hy; rw [← hvs] at hy; obtain ⟨z, _, rfl⟩ := List.mem_map.1 hy
    exact mulm_lt _ _ (by have := fP_two b; omega)
  rw [hvs, show ms.length = us.length by omega] at hv hc
  have Nus0 := hid (nums_own hv (fun y hy => Nat.lt_trans (vlt y hy) (fP_lt b)))
  have Nds0 := hid (nums_own (xs := us.map (frm (fP b))) (by rw [List.length_map]; exact hc) (fun y hy => Nat.lt_trans (formsb_lt b us y hy) (fP_lt b)))
  have HU := hid vlt
  clear vlt hvs
  have XF0 := Blk.keep F2 b3
  have XP0 := Blk.keep P2b b3
  have XA0 := Blk.keep A2 b3
  have T := hid (T2.keep b3)
  have Ncs0 := hid (CS2.out.below b3)
  have B0 := hid (show Below w.heap.size w v0 from B2.out.trans (b3.mono B2.out.size))
  obtain ⟨ba, hba⟩ : ∃ k, w.heap.size + 1 = k := ⟨_, rfl⟩
  rw [hba] at XA0 ⊢
  clear F2 P2b T2 VS2 CS2 B2 hv hc b3 zl zm Sb2 L2 l2_0 l2_1 zl2 A2 hba p0 p1 p2 p3
  have MOC := hid (fun W : World => rmod_any (fP b) a (fP_lt b) (by have := fP_two b; omega) ha W)
  have xlt : mulm (fP b) 1 a < fP b := mulm_lt _ _ (by have := fP_two b; omega)
  obtain ⟨x, hx⟩ : ∃ x, mulm (fP b) 1 a = x := ⟨_, rfl⟩
  rw [hx] at xlt MOC
  have HX := hid xlt
  have FX := hid (fun W : World => lform_any (fP b) x (fP_lt b) (by have := fP_two b; omega) (Nat.lt_trans HX.out (fP_lt b)) W)
  obtain ⟨fx, hfx⟩ : ∃ y, frm (fP b) x = y := ⟨_, rfl⟩
  have HFX := hid hfx
  rw [hfx] at FX
  clear xlt hx hfx
  have p0_0 := XP0.cell (i := 0) rfl
  have p0_1 := XP0.cell (i := 1) rfl
  have p0_2 := XP0.cell (i := 2) rfl
  have p0_3 := XP0.cell (i := 3) rfl
  have a0_0 := XA0.cell (i := 0) rfl
  have a0_1 := XA0.cell (i := 1) rfl
  have a0_2 := XA0.cell (i := 2) rfl
  have a0_3 := XA0.cell (i := 3) rfl
  have zp0 := XP0.lt
  have za0 := XA0.lt
  have EVC := hid (fun (W : World) (vv : Value) (zs : List Nat) (h : NumSl W vv (zs.map (frm (fP b)))) (hl : zs.length < 1000000) => eval_any (fID b) (fP b) (fI b) (fO b) (fS b) (frm (fP b) x) vv (zs.map (frm (fP b))) W (hid (fOK b)) (hid (frm_lt x (by have := fP_two b; omega))) h (formsb_lt b zs) (by rw [List.length_map]; exact hl))
  have VLC := hid (fun (z : Nat) (hz : z < fP b) (W : World) => rvalue_any (fP b) (frm (fP b) z) (fP_lt b) (fP_odd b) (fP_inv b) (frm_lt z (by have := fP_two b; omega)) W)
  have EV1 := hid (fun (W : World) (h : NumSl W u2 (vs.map (frm (fP b)))) => EVC.out W u2 vs h (by omega))
  have EV2 := hid (fun (W : World) (h : NumSl W u4 (us.map (frm (fP b)))) => EVC.out W u4 us h (by omega))
  rw [horP_forms (fP_inv b), HFX.out] at EV1 EV2
  have VL1 := hid (VLC.out (evm (fP b) x vs) (evm_lt x vs (by have := fP_two b; omega)))
  have VL2 := hid (VLC.out (evm (fP b) x us) (evm_lt x us (by have := fP_two b; omega)))
  rw [valm_frm (fP_inv b) (evm_lt x vs (by have := fP_two b; omega))] at VL1
  rw [valm_frm (fP_inv b) (evm_lt x us (by have := fP_two b; omega))] at VL2
  have HFb : Hid (FieldOK (fP b) (fI b)) := hid (fOK b)
  have FA := hid (formsb_lt b vs)
  have FB := hid (formsb_lt b us)
  have PAC := hid (fun (W : World) (h1 : NumSl W u2 (vs.map (frm (fP b)))) (h2 : NumSl W u4 (us.map (frm (fP b)))) => padd_sl (fID b) (fP b) (fI b) (fO b) (fS b) u2 u4 (vs.map (frm (fP b))) (us.map (frm (fP b))) W HFb h1 h2 FA.out FB.out (by rw [List.length_map]; omega) (by rw [List.length_map]; omega))
  have PMC := hid (fun (W : World) (h1 : NumSl W u2 (vs.map (frm (fP b)))) (h2 : NumSl W u4 (us.map (frm (fP b)))) => pmul_sl (fID b) (fP b) (fI b) (fO b) (fS b) u2 u4 (vs.map (frm (fP b))) (us.map (frm (fP b))) W HFb h1 h2 FA FB (by rw [List.length_map]; omega) (by rw [List.length_map]; omega))
  rw [padd_forms] at PAC
  rw [pmul_forms (fP_inv b)] at PMC
  have hal : (paddV (fP b) vs us).length < 1000000 := by rw [paddV_len]; omega
  have hml : (pmulV (fP b) vs us).length < 1000000 := Nat.lt_of_le_of_lt (pmulV_small (n := 12) (k := 12) (by omega) (by omega)) (by decide)
  have EVA := hid (fun (W : World) (vv : Value) (h : NumSl W vv ((paddV (fP b) vs us).map (frm (fP b)))) => EVC.out W vv _ h hal)
  have EVM := hid (fun (W : World) (vv : Value) (h : NumSl W vv ((pmulV (fP b) vs us).map (frm (fP b)))) => EVC.out W vv _ h hml)
  rw [horP_forms (fP_inv b), HFX.out, evm_padd (p := fP b) (by have := fP_two b; omega)] at EVA
  rw [horP_forms (fP_inv b), HFX.out, evm_pmul (p := fP b) (by have := fP_two b; omega)] at EVM
  have HV1 := hid (evm_lt (p := fP b) x vs (by have := fP_two b; omega))
  have HV2 := hid (evm_lt (p := fP b) x us (by have := fP_two b; omega))
  obtain ⟨e1, he1⟩ : ∃ z, evm (fP b) x vs = z := ⟨_, rfl⟩
  obtain ⟨e2, he2⟩ : ∃ z, evm (fP b) x us = z := ⟨_, rfl⟩
  rw [he1] at EV1 VL1 EVA EVM HV1
  rw [he2] at EV2 VL2 EVA EVM HV2
  have ADC := hid (fun W : World => radd_any (fP b) e1 e2 (fP_lt b) HV1.out HV2.out W)
  have RMC := hid (fun W : World => rmul_any (fP b) e1 e2 (fP_lt b) HV1.out (Nat.lt_trans HV2.out (fP_lt b)) W)
  have FA1 := hid (fun W : World => lform_any (fP b) (addm (fP b) e1 e2) (fP_lt b) (by have := fP_two b; omega) (Nat.lt_trans (addm_lt (p := fP b) e1 e2 (by have := fP_two b; omega)) (fP_lt b)) W)
  have FM1 := hid (fun W : World => lform_any (fP b) (mulm (fP b) e1 e2) (fP_lt b) (by have := fP_two b; omega) (Nat.lt_trans (mulm_lt (p := fP b) e1 e2 (by have := fP_two b; omega)) (fP_lt b)) W)
  obtain ⟨sA, hsA⟩ : ∃ z, addm (fP b) e1 e2 = z := ⟨_, rfl⟩
  obtain ⟨sM, hsM⟩ : ∃ z, mulm (fP b) e1 e2 = z := ⟨_, rfl⟩
  rw [hsA] at EVA ADC FA1
  rw [hsM] at EVM RMC FM1
  obtain ⟨yA, hyA⟩ : ∃ z, frm (fP b) sA = z := ⟨_, rfl⟩
  obtain ⟨yM, hyM⟩ : ∃ z, frm (fP b) sM = z := ⟨_, rfl⟩
  rw [hyA] at EVA FA1
  rw [hyM] at EVM FM1
  obtain ⟨f1, hf1⟩ : ∃ z, frm (fP b) e1 = z := ⟨_, rfl⟩
  obtain ⟨f2, hf2⟩ : ∃ z, frm (fP b) e2 = z := ⟨_, rfl⟩
  rw [hf1] at EV1 VL1
  rw [hf2] at EV2 VL2
  clear he1 he2 hsA hsM hyA hyM hf1 hf2 hal hml
  have heA := fun W : World => eq_same_el (limb yA 0 : Int) (limb yA 1 : Int) (limb yA 2 : Int) (limb yA 3 : Int) W
  have heM := fun W : World => eq_same_el (limb yM 0 : Int) (limb yM 1 : Int) (limb yM 2 : Int) (limb yM 3 : Int) W
  go_upto_region 6 with (fail)
  go_cut [13] (fun t wx => ∃ br, t = .pointer (some ⟨br, 0, none⟩) ∧ Blk wx br 26 [.int .u64 (limb fx 0 : Int), .int .u64 (limb fx 1 : Int), .int .u64 (limb fx 2 : Int), .int .u64 (limb fx 3 : Int)] ∧ Below v0.heap.size v0 wx)
  case first =>
    go_region_held3 (fun w' => ∀ b o, b < v0.heap.size → w'.cell? ⟨b, o, none⟩ = v0.cell? ⟨b, o, none⟩) ((intro b o h; first | with_reducible exact c2 b o h | with_reducible exact c1 b o h | with_reducible exact cell_drew | with_reducible exact cell_drew.trans (cell_alloc h) | (with_reducible refine (cell_alloc (by (try simp); omega)).trans ?_; first | with_reducible exact c2 b o h | with_reducible exact c1 b o h | with_reducible exact cell_drew) | with_reducible exact (below_set4 H2.out (by omega) _ _ _ _).cell (p := ⟨b, o, none⟩) h | with_reducible exact (below_set4 H1.out (by omega) _ _ _ _).cell (p := ⟨b, o, none⟩) h)) (first | (go_at_call 14; refine (FX.out _).mono ?_; rintro e r2 ⟨rfl, b2⟩; have H2 : Hid (Below v0.heap.size v0 r2) := hid (by first | exact H1.out.trans (b2.mono H1.out.size) | exact (H1.out.alloc H1.out.size _).trans (b2.mono (by have := H1.out.size; simp; omega))); (try (have Z : Blk r2 v0.heap.size 26 [.int .u64 0, .int .u64 0, .int .u64 0, .int .u64 0] := Z0.keep b2; have zz := Z.lt; have y0 := Z.cell (i := 0) rfl; have yf0 := Z.frozen 0; have y1 := Z.cell (i := 1) rfl; have yf1 := Z.frozen 1; have y2 := Z.cell (i := 2) rfl; have yf2 := Z.frozen 2; have y3 := Z.cell (i := 3) rfl; have yf3 := Z.frozen 3)); (try (have Z : Blk r2 r1.heap.size 26 [.int .u64 0, .int .u64 0, .int .u64 0, .int .u64 0] := Blk.keep (Blk.new rfl) b2; have zz := Z.lt; have y0 := Z.cell (i := 0) rfl; have yf0 := Z.frozen 0; have y1 := Z.cell (i := 1) rfl; have yf1 := Z.frozen 1; have y2 := Z.cell (i := 2) rfl; have yf2 := Z.frozen 2; have y3 := Z.cell (i := 3) rfl; have yf3 := Z.frozen 3)); clear b2; have c2 := bcell H2.out; have z2 := H2.out.size) | (go_at_call 12; refine (MOC.out _).mono ?_; rintro e r1 ⟨rfl, b1⟩; have H1 : Hid (Below v0.heap.size v0 r1) := hid (by first | exact (Below.drew (Below.refl _ v0)).trans b1 | exact ((Below.drew (Below.refl _ v0)).alloc (Nat.le_refl _) _).trans (b1.mono (by simp)) | exact (Below.drew ((Below.refl _ v0).alloc (Nat.le_refl _) _)).trans (b1.mono (by simp))); (try (have Z0 : Blk r1 v0.heap.size 26 [.int .u64 0, .int .u64 0, .int .u64 0, .int .u64 0] := (by first | exact Blk.keep (Blk.drew (Blk.new rfl)) b1 | exact Blk.keep (Blk.new rfl) b1); have zz0 := Z0.lt)); clear b1; have c1 := bcell H1.out; have z1 := H1.out.size))
    all_goals (go_wp2_with (fail); go_meet)
    all_goals (refine ⟨_, rfl, ?_, ?_⟩)
    all_goals (first | with_reducible exact Z.set4 (.int .u64 (limb fx 0 : Int)) (.int .u64 (limb fx 1 : Int)) (.int .u64 (limb fx 2 : Int)) (.int .u64 (limb fx 3 : Int)) | with_reducible exact below_set4 H2.out (by omega) (.int .u64 (limb fx 0 : Int)) (.int .u64 (limb fx 1 : Int)) (.int .u64 (limb fx 2 : Int)) (.int .u64 (limb fx 3 : Int)) | with_reducible exact Blk.new rfl | with_reducible exact H2.out.alloc H2.out.size _)
  case rest =>
    obtain ⟨bx, rfl, hnew, hbel⟩ := hcut
    have YF := XF0.keep hbel
    have YP := XP0.keep hbel
    have YA := XA0.keep hbel
    have Mcs := hid (Ncs0.out.below hbel)
    have Mds := hid (Nds0.out.below hbel)
    have TT := hid (T.out.keep hbel)
    have BB := hid (B0.out.trans (hbel.mono B0.out.size))
    clear p0_0 p0_1 p0_2 p0_3 zp0 a0_0 a0_1 a0_2 a0_3 za0
    clear XF0 XP0 XA0 Ncs0 Nds0 T B0 hbel
    have XF0 := YF
    clear YF
    have XP0 := YP
    clear YP
    have XA0 := YA
    clear YA
    have XX0 := hnew
    clear hnew
    have Ncs0 := Mcs
    clear Mcs
    have Nds0 := Mds
    clear Mds
    have T := TT
    have B0 := BB
    clear TT BB
    obtain ⟨v1, hv1⟩ : ∃ v, wc = v := ⟨_, rfl⟩
    subst hv1
    have f0_0 := XF0.cell (i := 0) rfl
    have f0_1 := XF0.cell (i := 1) rfl
    have f0_2 := XF0.cell (i := 2) rfl
    have f0_3 := XF0.cell (i := 3) rfl
    have f0_4 := XF0.cell (i := 4) rfl
    have f0_5 := XF0.cell (i := 5) rfl
    have f0_6 := XF0.cell (i := 6) rfl
    have f0_7 := XF0.cell (i := 7) rfl
    have f0_8 := XF0.cell (i := 8) rfl
    have f0_9 := XF0.cell (i := 9) rfl
    have f0_10 := XF0.cell (i := 10) rfl
    have f0_11 := XF0.cell (i := 11) rfl
    have f0_12 := XF0.cell (i := 12) rfl
    have f0_13 := XF0.cell (i := 13) rfl
    have p0_0 := XP0.cell (i := 0) rfl
    have p0_1 := XP0.cell (i := 1) rfl
    have p0_2 := XP0.cell (i := 2) rfl
    have p0_3 := XP0.cell (i := 3) rfl
    have x0_0 := XX0.cell (i := 0) rfl
    have x0_1 := XX0.cell (i := 1) rfl
    have x0_2 := XX0.cell (i := 2) rfl
    have x0_3 := XX0.cell (i := 3) rfl
    have zf0 := XF0.lt
    have zp0 := XP0.lt
    have zx0 := XX0.lt
    go_upto_region 7 with (fail)
    go_cut [14] (fun t wx => ∃ br, t = .pointer (some ⟨br, 0, none⟩) ∧ Blk wx br 24 [.int .u64 (limb e1 0 : Int), .int .u64 (limb e1 1 : Int), .int .u64 (limb e1 2 : Int), .int .u64 (limb e1 3 : Int)] ∧ Below wc.heap.size wc wx)
    case first =>
      go_region_held3 (fun w' => ∀ b o, b < wc.heap.size → w'.cell? ⟨b, o, none⟩ = wc.cell? ⟨b, o, none⟩) ((intro b o h; first | with_reducible exact c2 b o h | with_reducible exact c1 b o h | with_reducible exact cell_drew | with_reducible exact cell_drew.trans (cell_alloc h) | (with_reducible refine (cell_alloc (by (try simp); omega)).trans ?_; first | with_reducible exact c2 b o h | with_reducible exact c1 b o h | with_reducible exact cell_drew) | with_reducible exact (below_set4 H2.out (by omega) _ _ _ _).cell (p := ⟨b, o, none⟩) h | with_reducible exact (below_set4 H1.out (by omega) _ _ _ _).cell (p := ⟨b, o, none⟩) h)) (first | (go_at_call 17; refine (VL1.out _).mono ?_; rintro e r2 ⟨rfl, b2⟩; have H2 : Hid (Below wc.heap.size wc r2) := hid (by first | exact H1.out.trans (b2.mono H1.out.size) | exact (H1.out.alloc H1.out.size _).trans (b2.mono (by have := H1.out.size; simp; omega))); (try (have Z : Blk r2 wc.heap.size 24 [.int .u64 0, .int .u64 0, .int .u64 0, .int .u64 0] := Z0.keep b2; have zz := Z.lt; have y0 := Z.cell (i := 0) rfl; have yf0 := Z.frozen 0; have y1 := Z.cell (i := 1) rfl; have yf1 := Z.frozen 1; have y2 := Z.cell (i := 2) rfl; have yf2 := Z.frozen 2; have y3 := Z.cell (i := 3) rfl; have yf3 := Z.frozen 3)); (try (have Z : Blk r2 r1.heap.size 24 [.int .u64 0, .int .u64 0, .int .u64 0, .int .u64 0] := Blk.keep (Blk.new rfl) b2; have zz := Z.lt; have y0 := Z.cell (i := 0) rfl; have yf0 := Z.frozen 0; have y1 := Z.cell (i := 1) rfl; have yf1 := Z.frozen 1; have y2 := Z.cell (i := 2) rfl; have yf2 := Z.frozen 2; have y3 := Z.cell (i := 3) rfl; have yf3 := Z.frozen 3)); clear b2; have c2 := bcell H2.out; have z2 := H2.out.size) | (go_at_call 13; refine (EV1.out _ (Ncs0.out.below (by first | with_reducible exact Below.drew (Below.refl _ _) | with_reducible exact Below.drew ((Below.refl _ _).alloc (Nat.le_refl _) _)))).mono ?_; rintro e r1 ⟨rfl, b1⟩; have H1 : Hid (Below wc.heap.size wc r1) := hid (by first | exact (Below.drew (Below.refl _ wc)).trans b1 | exact ((Below.drew (Below.refl _ wc)).alloc (Nat.le_refl _) _).trans (b1.mono (by simp)) | exact (Below.drew ((Below.refl _ wc).alloc (Nat.le_refl _) _)).trans (b1.mono (by simp))); (try (have Z0 : Blk r1 wc.heap.size 24 [.int .u64 0, .int .u64 0, .int .u64 0, .int .u64 0] := (by first | exact Blk.keep (Blk.drew (Blk.new rfl)) b1 | exact Blk.keep (Blk.new rfl) b1); have zz0 := Z0.lt)); clear b1; have c1 := bcell H1.out; have z1 := H1.out.size))
      all_goals (go_wp2_with (fail); go_meet)
      all_goals (refine ⟨_, rfl, ?_, ?_⟩)
      all_goals (first | with_reducible exact Z.set4 (.int .u64 (limb e1 0 : Int)) (.int .u64 (limb e1 1 : Int)) (.int .u64 (limb e1 2 : Int)) (.int .u64 (limb e1 3 : Int)) | with_reducible exact below_set4 H2.out (by omega) (.int .u64 (limb e1 0 : Int)) (.int .u64 (limb e1 1 : Int)) (.int .u64 (limb e1 2 : Int)) (.int .u64 (limb e1 3 : Int)) | with_reducible exact Blk.new rfl | with_reducible exact H2.out.alloc H2.out.size _)
    case rest =>
      obtain ⟨be1, rfl, hnew, hbel⟩ := hcut
      have YF := XF0.keep hbel
      have YP := XP0.keep hbel
      have YA := XA0.keep hbel
      have YX := XX0.keep hbel
      have Mcs := hid (Ncs0.out.below hbel)
      have Mds := hid (Nds0.out.below hbel)
      have TT := hid (T.out.keep hbel)
      have BB := hid (B0.out.trans (hbel.mono B0.out.size))
      clear f0_0 f0_1 f0_2 f0_3 f0_4 f0_5 f0_6 f0_7 f0_8 f0_9 f0_10 f0_11 f0_12 f0_13 zf0 p0_0 p0_1 p0_2 p0_3 zp0 x0_0 x0_1 x0_2 x0_3 zx0
      clear XF0 XP0 XA0 XX0 Ncs0 Nds0 T B0 hbel
      have XF0 := YF
      clear YF
      have XP0 := YP
      clear YP
      have XA0 := YA
      clear YA
      have XX0 := YX
      clear YX
      have XU0 := hnew
      clear hnew
      have Ncs0 := Mcs
      clear Mcs
      have Nds0 := Mds
      clear Mds
      have T := TT
      have B0 := BB
      clear TT BB
      have f0_0 := XF0.cell (i := 0) rfl
      have f0_1 := XF0.cell (i := 1) rfl
      have f0_2 := XF0.cell (i := 2) rfl
      have f0_3 := XF0.cell (i := 3) rfl
      have f0_4 := XF0.cell (i := 4) rfl
      have f0_5 := XF0.cell (i := 5) rfl
      have f0_6 := XF0.cell (i := 6) rfl
      have f0_7 := XF0.cell (i := 7) rfl
      have f0_8 := XF0.cell (i := 8) rfl
      have f0_9 := XF0.cell (i := 9) rfl
      have f0_10 := XF0.cell (i := 10) rfl
      have f0_11 := XF0.cell (i := 11) rfl
      have f0_12 := XF0.cell (i := 12) rfl
      have f0_13 := XF0.cell (i := 13) rfl
      have p0_0 := XP0.cell (i := 0) rfl
      have p0_1 := XP0.cell (i := 1) rfl
      have p0_2 := XP0.cell (i := 2) rfl
      have p0_3 := XP0.cell (i := 3) rfl
      have x0_0 := XX0.cell (i := 0) rfl
      have x0_1 := XX0.cell (i := 1) rfl
      have x0_2 := XX0.cell (i := 2) rfl
      have x0_3 := XX0.cell (i := 3) rfl
      have zf0 := XF0.lt
      have zp0 := XP0.lt
      have zx0 := XX0.lt
      go_upto_region 8 with (fail)
      go_cut [15] (fun t wx => ∃ br, t = .pointer (some ⟨br, 0, none⟩) ∧ Blk wx br 24 [.int .u64 (limb e2 0 : Int), .int .u64 (limb e2 1 : Int), .int .u64 (limb e2 2 : Int), .int .u64 (limb e2 3 : Int)] ∧ Below wc.heap.size wc wx)
      case first =>
        go_region_held3 (fun w' => ∀ b o, b < wc.heap.size → w'.cell? ⟨b, o, none⟩ = wc.cell? ⟨b, o, none⟩) ((intro b o h; first | with_reducible exact c2 b o h | with_reducible exact c1 b o h | with_reducible exact cell_drew | with_reducible exact cell_drew.trans (cell_alloc h) | (with_reducible refine (cell_alloc (by (try simp); omega)).trans ?_; first | with_reducible exact c2 b o h | with_reducible exact c1 b o h | with_reducible exact cell_drew) | with_reducible exact (below_set4 H2.out (by omega) _ _ _ _).cell (p := ⟨b, o, none⟩) h | with_reducible exact (below_set4 H1.out (by omega) _ _ _ _).cell (p := ⟨b, o, none⟩) h)) (first | (go_at_call 17; refine (VL2.out _).mono ?_; rintro e r2 ⟨rfl, b2⟩; have H2 : Hid (Below wc.heap.size wc r2) := hid (by first | exact H1.out.trans (b2.mono H1.out.size) | exact (H1.out.alloc H1.out.size _).trans (b2.mono (by have := H1.out.size; simp; omega))); (try (have Z : Blk r2 wc.heap.size 24 [.int .u64 0, .int .u64 0, .int .u64 0, .int .u64 0] := Z0.keep b2; have zz := Z.lt; have y0 := Z.cell (i := 0) rfl; have yf0 := Z.frozen 0; have y1 := Z.cell (i := 1) rfl; have yf1 := Z.frozen 1; have y2 := Z.cell (i := 2) rfl; have yf2 := Z.frozen 2; have y3 := Z.cell (i := 3) rfl; have yf3 := Z.frozen 3)); (try (have Z : Blk r2 r1.heap.size 24 [.int .u64 0, .int .u64 0, .int .u64 0, .int .u64 0] := Blk.keep (Blk.new rfl) b2; have zz := Z.lt; have y0 := Z.cell (i := 0) rfl; have yf0 := Z.frozen 0; have y1 := Z.cell (i := 1) rfl; have yf1 := Z.frozen 1; have y2 := Z.cell (i := 2) rfl; have yf2 := Z.frozen 2; have y3 := Z.cell (i := 3) rfl; have yf3 := Z.frozen 3)); clear b2; have c2 := bcell H2.out; have z2 := H2.out.size) | (go_at_call 13; refine (EV2.out _ (Nds0.out.below (by first | with_reducible exact Below.drew (Below.refl _ _) | with_reducible exact Below.drew ((Below.refl _ _).alloc (Nat.le_refl _) _)))).mono ?_; rintro e r1 ⟨rfl, b1⟩; have H1 : Hid (Below wc.heap.size wc r1) := hid (by first | exact (Below.drew (Below.refl _ wc)).trans b1 | exact ((Below.drew (Below.refl _ wc)).alloc (Nat.le_refl _) _).trans (b1.mono (by simp)) | exact (Below.drew ((Below.refl _ wc).alloc (Nat.le_refl _) _)).trans (b1.mono (by simp))); (try (have Z0 : Blk r1 wc.heap.size 24 [.int .u64 0, .int .u64 0, .int .u64 0, .int .u64 0] := (by first | exact Blk.keep (Blk.drew (Blk.new rfl)) b1 | exact Blk.keep (Blk.new rfl) b1); have zz0 := Z0.lt)); clear b1; have c1 := bcell H1.out; have z1 := H1.out.size))
        all_goals (go_wp2_with (fail); go_meet)
        all_goals (refine ⟨_, rfl, ?_, ?_⟩)
        all_goals (first | with_reducible exact Z.set4 (.int .u64 (limb e2 0 : Int)) (.int .u64 (limb e2 1 : Int)) (.int .u64 (limb e2 2 : Int)) (.int .u64 (limb e2 3 : Int)) | with_reducible exact below_set4 H2.out (by omega) (.int .u64 (limb e2 0 : Int)) (.int .u64 (limb e2 1 : Int)) (.int .u64 (limb e2 2 : Int)) (.int .u64 (limb e2 3 : Int)) | with_reducible exact Blk.new rfl | with_reducible exact H2.out.alloc H2.out.size _)
      case rest =>
        obtain ⟨be2, rfl, hnew, hbel⟩ := hcut
        have YF := XF0.keep hbel
        have YP := XP0.keep hbel
        have YA := XA0.keep hbel
        have YX := XX0.keep hbel
        have YU := XU0.keep hbel
        have Mcs := hid (Ncs0.out.below hbel)
        have Mds := hid (Nds0.out.below hbel)
        have TT := hid (T.out.keep hbel)
        have BB := hid (B0.out.trans (hbel.mono B0.out.size))
        clear f0_0 f0_1 f0_2 f0_3 f0_4 f0_5 f0_6 f0_7 f0_8 f0_9 f0_10 f0_11 f0_12 f0_13 zf0 p0_0 p0_1 p0_2 p0_3 zp0 x0_0 x0_1 x0_2 x0_3 zx0
        clear XF0 XP0 XA0 XX0 XU0 Ncs0 Nds0 T B0 hbel
        have XF0 := YF
        clear YF
        have XP0 := YP
        clear YP
        have XA0 := YA
        clear YA
        have XX0 := YX
        clear YX
        have XU0 := YU
        clear YU
        have XV0 := hnew
        clear hnew
        have Ncs0 := Mcs
        clear Mcs
        have Nds0 := Mds
        clear Mds
        have T := TT
        have B0 := BB
        clear TT BB
        have f0_0 := XF0.cell (i := 0) rfl
        have f0_1 := XF0.cell (i := 1) rfl
        have f0_2 := XF0.cell (i := 2) rfl
        have f0_3 := XF0.cell (i := 3) rfl
        have f0_4 := XF0.cell (i := 4) rfl
        have f0_5 := XF0.cell (i := 5) rfl
        have f0_6 := XF0.cell (i := 6) rfl
        have f0_7 := XF0.cell (i := 7) rfl
        have f0_8 := XF0.cell (i := 8) rfl
        have f0_9 := XF0.cell (i := 9) rfl
        have f0_10 := XF0.cell (i := 10) rfl
        have f0_11 := XF0.cell (i := 11) rfl
        have f0_12 := XF0.cell (i := 12) rfl
        have f0_13 := XF0.cell (i := 13) rfl
        have p0_0 := XP0.cell (i := 0) rfl
        have p0_1 := XP0.cell (i := 1) rfl
        have p0_2 := XP0.cell (i := 2) rfl
        have p0_3 := XP0.cell (i := 3) rfl
        have x0_0 := XX0.cell (i := 0) rfl
        have x0_1 := XX0.cell (i := 1) rfl
        have x0_2 := XX0.cell (i := 2) rfl
        have x0_3 := XX0.cell (i := 3) rfl
        have u0_0 := XU0.cell (i := 0) rfl
        have u0_1 := XU0.cell (i := 1) rfl
        have u0_2 := XU0.cell (i := 2) rfl
        have u0_3 := XU0.cell (i := 3) rfl
        have v0_0 := XV0.cell (i := 0) rfl
        have v0_1 := XV0.cell (i := 1) rfl
        have v0_2 := XV0.cell (i := 2) rfl
        have v0_3 := XV0.cell (i := 3) rfl
        have zf0 := XF0.lt
        have zp0 := XP0.lt
        have zx0 := XX0.lt
        have zu0 := XU0.lt
        have zv0 := XV0.lt
        go_upto_region 9 with (fail)
        go_region_held3 (fun w' => ∀ b o, b < wc.heap.size → w'.cell? ⟨b, o, none⟩ = wc.cell? ⟨b, o, none⟩) ((intro b o h; first | with_reducible exact c9 b o h | with_reducible exact c8 b o h | with_reducible exact c7 b o h | with_reducible exact c6 b o h | with_reducible exact c5 b o h | with_reducible exact c4 b o h | with_reducible exact c3 b o h | with_reducible exact c2 b o h | with_reducible exact c1 b o h | with_reducible exact cell_drew | with_reducible exact cell_drew.trans (cell_alloc h) | (with_reducible refine (cell_alloc (by (try simp); omega)).trans ?_; first | with_reducible exact c9 b o h | with_reducible exact c8 b o h | with_reducible exact c7 b o h | with_reducible exact c6 b o h | with_reducible exact c5 b o h | with_reducible exact c4 b o h | with_reducible exact c3 b o h | with_reducible exact c2 b o h | with_reducible exact c1 b o h | with_reducible exact cell_drew) | with_reducible exact (below_set4 H9.out (by omega) _ _ _ _).cell (p := ⟨b, o, none⟩) h | with_reducible exact (below_set4 H8.out (by omega) _ _ _ _).cell (p := ⟨b, o, none⟩) h | with_reducible exact (below_set4 H7.out (by omega) _ _ _ _).cell (p := ⟨b, o, none⟩) h | with_reducible exact (below_set4 H6.out (by omega) _ _ _ _).cell (p := ⟨b, o, none⟩) h | with_reducible exact (below_set4 H5.out (by omega) _ _ _ _).cell (p := ⟨b, o, none⟩) h | with_reducible exact (below_set4 H4.out (by omega) _ _ _ _).cell (p := ⟨b, o, none⟩) h | with_reducible exact (below_set4 H3.out (by omega) _ _ _ _).cell (p := ⟨b, o, none⟩) h | with_reducible exact (below_set4 H2.out (by omega) _ _ _ _).cell (p := ⟨b, o, none⟩) h | with_reducible exact (below_set4 H1.out (by omega) _ _ _ _).cell (p := ⟨b, o, none⟩) h)) (first | (go_at_call 14; refine (FM1.out r8).mono ?_; rintro e r9 ⟨rfl, b9⟩; have H9 : Hid (Below wc.heap.size wc r9) := hid H8.out.trans (b9.mono H8.out.size); clear b9; have c9 := bcell H9.out; have z9 := H9.out.size) | (go_at_call 21; refine (RMC.out r7).mono ?_; rintro e r8 ⟨rfl, b8⟩; have H8 : Hid (Below wc.heap.size wc r8) := hid H7.out.trans (b8.mono H7.out.size); clear b8; have c8 := bcell H8.out; have z8 := H8.out.size) | (go_at_call 13; refine (EVM.out r6 vm hvm.out).mono ?_; rintro e r7 ⟨rfl, b7⟩; have H7 : Hid (Below wc.heap.size wc r7) := hid H6.out.trans (b7.mono H6.out.size); clear b7; have c7 := bcell H7.out; have z7 := H7.out.size) | (go_at_call 25; refine (PMC.out r5 (Ncs0.out.below H5.out) (Nds0.out.below H5.out)).mono ?_; rintro e r6 ⟨vm, rfl, hvm, b6⟩; have hvm := hid hvm; have H6 : Hid (Below wc.heap.size wc r6) := hid H5.out.trans (b6.mono H5.out.size); clear b6; have c6 := bcell H6.out; have z6 := H6.out.size) | (go_at_call 14; refine (FA1.out r4).mono ?_; rintro e r5 ⟨rfl, b5⟩; have H5 : Hid (Below wc.heap.size wc r5) := hid H4.out.trans (b5.mono H4.out.size); clear b5; have c5 := bcell H5.out; have z5 := H5.out.size) | (go_at_call 26; refine (ADC.out r3).mono ?_; rintro e r4 ⟨rfl, b4⟩; have H4 : Hid (Below wc.heap.size wc r4) := hid H3.out.trans (b4.mono H3.out.size); clear b4; have c4 := bcell H4.out; have z4 := H4.out.size) | (go_at_call 13; refine (EVA.out r2 va hva.out).mono ?_; rintro e r3 ⟨rfl, b3⟩; have H3 : Hid (Below wc.heap.size wc r3) := hid H2.out.trans (b3.mono H2.out.size); clear b3; have c3 := bcell H3.out; have z3 := H3.out.size) | (go_at_call 24; refine (PAC.out r1 (Ncs0.out.below H1.out) (Nds0.out.below H1.out)).mono ?_; rintro e r2 ⟨va, rfl, hva, b2⟩; have hva := hid hva; have H2 : Hid (Below wc.heap.size wc r2) := hid H1.out.trans (b2.mono H1.out.size); clear b2; have c2 := bcell H2.out; have z2 := H2.out.size) | (go_at_call 9; refine (alive_any wc.drew T.out).mono ?_; rintro e r1 ⟨rfl, b1⟩; have H1 : Hid (Below wc.heap.size wc r1) := hid (Below.drew (Below.refl _ wc)).trans b1; clear b1; have c1 := bcell H1.out; have z1 := H1.out.size))
        go_wp2
        go_ret
        exact ⟨rfl, B0.out.trans (H9.out.mono B0.out.size)⟩
end Go.Proofs.YtfaicnileghjiaaDoor
