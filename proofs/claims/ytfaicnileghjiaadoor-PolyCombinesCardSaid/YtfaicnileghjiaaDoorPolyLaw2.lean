/-
  PolyCombines: sums and products are those of the reference.
-/
import Derived.Test.YtfaicnileghjiaaDoorPolyLaw1
import Derived.Test.YtfaicnileghjiaaDoorSl08
import Derived.Deep.RegionHeld3
namespace Go.Proofs.YtfaicnileghjiaaDoor
open Go.RowKit

set_option maxRecDepth 100000 in
set_option maxHeartbeats 4000000 in
theorem combines_law (b : Bool) (v v' : Value) (ls ms : List Nat) (w : World) (hT : Tab w) (hS : NumSl w v ls) (hS2 : NumSl w v' ms) :
    Calls Tryd.prog 6 #[.bool b, v, v'] w (Ret (.bool true) w) := by
  have T0 := hid hT
  have Sa := hid hS
  have Sb := hid hS2
  obtain ⟨sa, capa, rfl, _, _⟩ := hS
  obtain ⟨sb, capb, rfl, _, _⟩ := hS2
  clear hT
  obtain ⟨n, hn⟩ : ∃ n, ls.length = n := ⟨_, rfl⟩
  obtain ⟨n2, hn2⟩ : ∃ n, ms.length = n := ⟨_, rfl⟩
  rw [hn] at Sa ⊢
  rw [hn2] at Sb ⊢
  by_cases h12 : 12 < n
  · go_enter Tryd.func6, Tryd.ntmps6
    go_wp2_with fail
    refine (alive_any _ T0.out).mono ?_
    rintro e w1 ⟨rfl, b1⟩
    have B1 := hid b1
    clear b1
    go_wp2
    go_ret
    exact ⟨rfl, B1.out⟩
  by_cases h13 : 12 < n2
  · go_enter Tryd.func6, Tryd.ntmps6
    go_wp2_with fail
    refine (alive_any _ T0.out).mono ?_
    rintro e w1 ⟨rfl, b1⟩
    have B1 := hid b1
    clear b1
    go_wp2
    go_ret
    exact ⟨rfl, B1.out⟩
  go_enter Tryd.func6, Tryd.ntmps6
  go_wp2_with fail
  refine (lget_any b _ T0.out).mono ?_
  rintro e w1 ⟨rfl, b1⟩
  have T1 := T0.out.keep b1
  have Sa1 := Sa.out.below b1
  have Sb1 := Sb.out.below b1
  have B1 := hid b1
  clear b1 T0 Sa Sb
  have F1 : Blk ((w1.alloc (.cells #[.int .i64 (fID b), .int .u64 (limb (fP b) 0 : Int), .int .u64 (limb (fP b) 1 : Int), .int .u64 (limb (fP b) 2 : Int), .int .u64 (limb (fP b) 3 : Int), .int .u64 (fI b : Int), .int .u64 (limb (fO b) 0 : Int), .int .u64 (limb (fO b) 1 : Int), .int .u64 (limb (fO b) 2 : Int), .int .u64 (limb (fO b) 3 : Int), .int .u64 (limb (fS b) 0 : Int), .int .u64 (limb (fS b) 1 : Int), .int .u64 (limb (fS b) 2 : Int), .int .u64 (limb (fS b) 3 : Int)] 28)).alloc (.cells #[.int .u64 (limb (fP b) 0 : Int), .int .u64 (limb (fP b) 1 : Int), .int .u64 (limb (fP b) 2 : Int), .int .u64 (limb (fP b) 3 : Int)] 24)) w1.heap.size 28 [.int .i64 (fID b), .int .u64 (limb (fP b) 0 : Int), .int .u64 (limb (fP b) 1 : Int), .int .u64 (limb (fP b) 2 : Int), .int .u64 (limb (fP b) 3 : Int), .int .u64 (fI b : Int), .int .u64 (limb (fO b) 0 : Int), .int .u64 (limb (fO b) 1 : Int), .int .u64 (limb (fO b) 2 : Int), .int .u64 (limb (fO b) 3 : Int), .int .u64 (limb (fS b) 0 : Int), .int .u64 (limb (fS b) 1 : Int), .int .u64 (limb (fS b) 2 : Int), .int .u64 (limb (fS b) 3 : Int)] := Blk.alloc (Blk.new rfl) _
  have P1 : Blk ((w1.alloc (.cells #[.int .i64 (fID b), .int .u64 (limb (fP b) 0 : Int), .int .u64 (limb (fP b) 1 : Int), .int .u64 (limb (fP b) 2 : Int), .int .u64 (limb (fP b) 3 : Int), .int .u64 (fI b : Int), .int .u64 (limb (fO b) 0 : Int), .int .u64 (limb (fO b) 1 : Int), .int .u64 (limb (fO b) 2 : Int), .int .u64 (limb (fO b) 3 : Int), .int .u64 (limb (fS b) 0 : Int), .int .u64 (limb (fS b) 1 : Int), .int .u64 (limb (fS b) 2 : Int), .int .u64 (limb (fS b) 3 : Int)] 28)).alloc (.cells #[.int .u64 (limb (fP b) 0 : Int), .int .u64 (limb (fP b) 1 : Int), .int .u64 (limb (fP b) 2 : Int), .int .u64 (limb (fP b) 3 : Int)] 24)) (w1.heap.size + 1) 24 [.int .u64 (limb (fP b) 0 : Int), .int .u64 (limb (fP b) 1 : Int), .int .u64 (limb (fP b) 2 : Int), .int .u64 (limb (fP b) 3 : Int)] := Blk.new (by simp)
  have G1 : Below w1.heap.size w1 ((w1.alloc (.cells #[.int .i64 (fID b), .int .u64 (limb (fP b) 0 : Int), .int .u64 (limb (fP b) 1 : Int), .int .u64 (limb (fP b) 2 : Int), .int .u64 (limb (fP b) 3 : Int), .int .u64 (fI b : Int), .int .u64 (limb (fO b) 0 : Int), .int .u64 (limb (fO b) 1 : Int), .int .u64 (limb (fO b) 2 : Int), .int .u64 (limb (fO b) 3 : Int), .int .u64 (limb (fS b) 0 : Int), .int .u64 (limb (fS b) 1 : Int), .int .u64 (limb (fS b) 2 : Int), .int .u64 (limb (fS b) 3 : Int)] 28)).alloc (.cells #[.int .u64 (limb (fP b) 0 : Int), .int .u64 (limb (fP b) 1 : Int), .int .u64 (limb (fP b) 2 : Int), .int .u64 (limb (fP b) 3 : Int)] 24)) := by go_grown
  have T1' := T1.keep G1
  have Sa1' := Sa1.below G1
  have Sb1' := Sb1.below G1
  have B1' := hid (B1.out.trans (G1.mono B1.out.size))
  clear T1 Sa1 Sb1 B1 G1
  have zl : ls.length < 1000000 := by omega
  have zm : ms.length < 1000000 := by omega
  go_wp2_with fail
  refine (values_any (fP b) _ ls _ (fP_lt b) (by have := fP_two b; omega) Sa1' zl).mono ?_
  rintro e w2 ⟨u1, u2, rfl, hv, hc, b2⟩
  obtain ⟨vs, hvs⟩ : ∃ vs, ls.map (mulm (fP b) 1) = vs := ⟨_, rfl⟩
  have hlvs : vs.length = n := by rw [← hvs, List.length_map, hn]
  have vlt : ∀ y ∈ vs, y < fP b := by
    intro y hy; rw [← hvs] at hy; obtain ⟨z, _, rfl⟩ := List.mem_map.1 hy
    exact mulm_lt _ _ (by have := fP_two b; omega)
  rw [hvs, show ls.length = vs.length by omega] at hv hc
  have VS2 := hid (nums_own hv (fun y hy => Nat.lt_trans (vlt y hy) (fP_lt b)))
  have CS2 := hid (nums_own (xs := vs.map (frm (fP b))) (by rw [List.length_map]; exact hc) (fun y hy => Nat.lt_trans (formsb_lt b vs y hy) (fP_lt b)))
  have HV := hid vlt
  clear vlt hvs
  have F2 := Blk.keep F1 b2
  have P2b := Blk.keep P1 b2
  have T2 := T1'.keep b2
  have Sb2 := Sb1'.below b2
  have B2 := hid (B1'.out.trans (b2.mono B1'.out.size))
  obtain ⟨bf, hbf⟩ : ∃ k, w1.heap.size = k := ⟨_, rfl⟩
  rw [hbf] at F2 P2b ⊢
  clear F1 P1 T1' Sa1' Sb1' B1' hv hc b2 hbf
  have p0 := P2b.cell (i := 0) rfl
  have p1 := P2b.cell (i := 1) rfl
  have p2 := P2b.cell (i := 2) rfl
  have p3 := P2b.cell (i := 3) rfl
  go_wp2_with fail
  refine (values_any (fP b) _ ms _ (fP_lt b) (by have := fP_two b; omega) Sb2 zm).mono ?_
  rintro e v0 ⟨u3, u4, rfl, hv, hc, b3⟩
  obtain ⟨us, hvs⟩ : ∃ vs, ms.map (mulm (fP b) 1) = vs := ⟨_, rfl⟩
  have hlus : us.length = n2 := by rw [← hvs, List.length_map, hn2]
  have vlt : ∀ y ∈ us, y < fP b := by
    intro y hy; rw [← hvs] at hy; obtain ⟨z, _, rfl⟩ := List.mem_map.1 hy
    exact mulm_lt _ _ (by have := fP_two b; omega)
  rw [hvs, show ms.length = us.length by omega] at hv hc
  have Nus0 := hid (nums_own hv (fun y hy => Nat.lt_trans (vlt y hy) (fP_lt b)))
  have Nds0 := hid (nums_own (xs := us.map (frm (fP b))) (by rw [List.length_map]; exact hc) (fun y hy => Nat.lt_trans (formsb_lt b us y hy) (fP_lt b)))
  have HU := hid vlt
  clear vlt hvs
  have XF0 := Blk.keep F2 b3
  have XP0 := Blk.keep P2b b3
  have T := hid (T2.keep b3)
  have Nvs0 := hid (VS2.out.below b3)
  have Ncs0 := hid (CS2.out.below b3)
  have B0 := hid (B2.out.trans (b3.mono B2.out.size))
  have D0 := hid (Below.refl v0.heap.size v0)
  clear F2 P2b T2 VS2 CS2 B2 hv hc b3 zl zm Sb2 p0 p1 p2 p3
  go_wp2
  have f0_0 := XF0.cell (i := 0) rfl
  have f0_1 := XF0.cell (i := 1) rfl
  have f0_2 := XF0.cell (i := 2) rfl
  have f0_3 := XF0.cell (i := 3) rfl
  have f0_4 := XF0.cell (i := 4) rfl
  have f0_5 := XF0.cell (i := 5) rfl
  have f0_6 := XF0.cell (i := 6) rfl
  have f0_7 := XF0.cell (i := 7) rfl
  have f0_8 := XF0.cell (i := 8) rfl
  have f0_9 := XF0.cell (i := 9) rfl
  have f0_10 := XF0.cell (i := 10) rfl
  have f0_11 := XF0.cell (i := 11) rfl
  have f0_12 := XF0.cell (i := 12) rfl
  have f0_13 := XF0.cell (i := 13) rfl
  have p0_0 := XP0.cell (i := 0) rfl
  have p0_1 := XP0.cell (i := 1) rfl
  have p0_2 := XP0.cell (i := 2) rfl
  have p0_3 := XP0.cell (i := 3) rfl
  have zf0 := XF0.lt
  have zp0 := XP0.lt
  have HFb : Hid (FieldOK (fP b) (fI b)) := hid (fOK b)
  have FA := hid (formsb_lt b vs)
  have FB := hid (formsb_lt b us)
  have PAC := hid (fun (W : World) (h1 : NumSl W u2 (vs.map (frm (fP b)))) (h2 : NumSl W u4 (us.map (frm (fP b)))) => padd_sl (fID b) (fP b) (fI b) (fO b) (fS b) u2 u4 (vs.map (frm (fP b))) (us.map (frm (fP b))) W HFb h1 h2 FA.out FB.out (by rw [List.length_map]; omega) (by rw [List.length_map]; omega))
  have RAC := hid (fun (W : World) (h1 : NumSl W u1 vs) (h2 : NumSl W u3 us) => rpadd_sl (fP b) u1 u3 vs us W (fP_lt b) (by have := fP_two b; omega) h1 h2 HV HU (by omega) (by omega))
  have PMC := hid (fun (W : World) (h1 : NumSl W u2 (vs.map (frm (fP b)))) (h2 : NumSl W u4 (us.map (frm (fP b)))) => pmul_sl (fID b) (fP b) (fI b) (fO b) (fS b) u2 u4 (vs.map (frm (fP b))) (us.map (frm (fP b))) W HFb h1 h2 FA FB (by rw [List.length_map]; omega) (by rw [List.length_map]; omega))
  have RMC := hid (fun (W : World) (h1 : NumSl W u1 vs) (h2 : NumSl W u3 us) => rpmul_sl (fP b) u1 u3 vs us W (fP_lt b) (by have := fP_two b; omega) h1 h2 HV HU (by omega) (by omega))
  rw [padd_forms] at PAC
  rw [pmul_forms (fP_inv b)] at PMC
  have hal : (paddV (fP b) vs us).length < 1000000 := by rw [paddV_len]; omega
  have hml : (pmulV (fP b) vs us).length < 1000000 := by
    rcases Nat.eq_zero_or_pos vs.length with e1 | e1
    · unfold pmulV; rw [if_pos (.inl (List.length_eq_zero_iff.1 e1))]; decide
    · rcases Nat.eq_zero_or_pos us.length with e2 | e2
      · unfold pmulV; rw [if_pos (.inr (List.length_eq_zero_iff.1 e2))]; decide
      · rw [pmulV_len (fun e => by rw [e] at e1; exact Nat.lt_irrefl _ e1) (fun e => by rw [e] at e2; exact Nat.lt_irrefl _ e2)]; omega
  obtain ⟨qs, hqs⟩ : ∃ qs, paddV (fP b) vs us = qs := ⟨_, rfl⟩
  rw [hqs] at PAC RAC hal
  obtain ⟨ps, hps⟩ : ∃ ps, pmulV (fP b) vs us = ps := ⟨_, rfl⟩
  rw [hps] at PMC RMC hml
  have SA := hid (fun (W : World) (x y : Value) (h1 : NumSl W x (qs.map (frm (fP b)))) (h2 : NumSl W y qs) => same_any (fP b) x y qs W (fP_lt b) (by have := fP_two b; omega) h1 h2 hal)
  have SP := hid (fun (W : World) (x y : Value) (h1 : NumSl W x (ps.map (frm (fP b)))) (h2 : NumSl W y ps) => same_any (fP b) x y ps W (fP_lt b) (by have := fP_two b; omega) h1 h2 hml)
  clear hqs hps hal hml
  go_region_held3 (fun w' => w'.cell? ⟨bf, 0, none⟩ = some (.int .i64 (fID b)) ∧ w'.cell? ⟨bf, 1, none⟩ = some (.int .u64 (limb (fP b) 0 : Int)) ∧ w'.cell? ⟨bf, 2, none⟩ = some (.int .u64 (limb (fP b) 1 : Int)) ∧ w'.cell? ⟨bf, 3, none⟩ = some (.int .u64 (limb (fP b) 2 : Int)) ∧ w'.cell? ⟨bf, 4, none⟩ = some (.int .u64 (limb (fP b) 3 : Int)) ∧ w'.cell? ⟨bf, 5, none⟩ = some (.int .u64 (fI b : Int)) ∧ w'.cell? ⟨bf, 6, none⟩ = some (.int .u64 (limb (fO b) 0 : Int)) ∧ w'.cell? ⟨bf, 7, none⟩ = some (.int .u64 (limb (fO b) 1 : Int)) ∧ w'.cell? ⟨bf, 8, none⟩ = some (.int .u64 (limb (fO b) 2 : Int)) ∧ w'.cell? ⟨bf, 9, none⟩ = some (.int .u64 (limb (fO b) 3 : Int)) ∧ w'.cell? ⟨bf, 10, none⟩ = some (.int .u64 (limb (fS b) 0 : Int)) ∧ w'.cell? ⟨bf, 11, none⟩ = some (.int .u64 (limb (fS b) 1 : Int)) ∧ w'.cell? ⟨bf, 12, none⟩ = some (.int .u64 (limb (fS b) 2 : Int)) ∧ w'.cell? ⟨bf, 13, none⟩ = some (.int .u64 (limb (fS b) 3 : Int)) ∧ w'.cell? ⟨bf + 1, 0, none⟩ = some (.int .u64 (limb (fP b) 0 : Int)) ∧ w'.cell? ⟨bf + 1, 1, none⟩ = some (.int .u64 (limb (fP b) 1 : Int)) ∧ w'.cell? ⟨bf + 1, 2, none⟩ = some (.int .u64 (limb (fP b) 2 : Int)) ∧ w'.cell? ⟨bf + 1, 3, none⟩ = some (.int .u64 (limb (fP b) 3 : Int))) ((first | (go_simp; done) | go_keep)) (first | (go_at_call 22; refine (SP.out v6 vm rm Nvm6.out Nrm6.out).mono ?_; rintro e v7 ⟨rfl, b7⟩; have K7 : Below v6.heap.size v6 v7 := b7; have XF7 := XF6.keep K7; have XP7 := XP6.keep K7; have f7_0 := XF7.cell (i := 0) rfl; have f7_1 := XF7.cell (i := 1) rfl; have f7_2 := XF7.cell (i := 2) rfl; have f7_3 := XF7.cell (i := 3) rfl; have f7_4 := XF7.cell (i := 4) rfl; have f7_5 := XF7.cell (i := 5) rfl; have f7_6 := XF7.cell (i := 6) rfl; have f7_7 := XF7.cell (i := 7) rfl; have f7_8 := XF7.cell (i := 8) rfl; have f7_9 := XF7.cell (i := 9) rfl; have f7_10 := XF7.cell (i := 10) rfl; have f7_11 := XF7.cell (i := 11) rfl; have f7_12 := XF7.cell (i := 12) rfl; have f7_13 := XF7.cell (i := 13) rfl; have p7_0 := XP7.cell (i := 0) rfl; have p7_1 := XP7.cell (i := 1) rfl; have p7_2 := XP7.cell (i := 2) rfl; have p7_3 := XP7.cell (i := 3) rfl; have zf7 := XF7.lt; have zp7 := XP7.lt; have Nvs7 := hid (Nvs6.out.below K7); have Ncs7 := hid (Ncs6.out.below K7); have Nus7 := hid (Nus6.out.below K7); have Nds7 := hid (Nds6.out.below K7); have Nva7 := hid (Nva6.out.below K7); have Nra7 := hid (Nra6.out.below K7); have Nvm7 := hid (Nvm6.out.below K7); have Nrm7 := hid (Nrm6.out.below K7); have D7 := hid (Below.trans D6.out (K7.mono D6.out.size)); clear b7 K7) | (go_at_call 18; refine (RMC.out v5 Nvs5.out Nus5.out).mono ?_; rintro e v6 ⟨rm, rfl, hrm, b6⟩; have K6 : Below v5.heap.size v5 v6 := b6; have XF6 := XF5.keep K6; have XP6 := XP5.keep K6; have f6_0 := XF6.cell (i := 0) rfl; have f6_1 := XF6.cell (i := 1) rfl; have f6_2 := XF6.cell (i := 2) rfl; have f6_3 := XF6.cell (i := 3) rfl; have f6_4 := XF6.cell (i := 4) rfl; have f6_5 := XF6.cell (i := 5) rfl; have f6_6 := XF6.cell (i := 6) rfl; have f6_7 := XF6.cell (i := 7) rfl; have f6_8 := XF6.cell (i := 8) rfl; have f6_9 := XF6.cell (i := 9) rfl; have f6_10 := XF6.cell (i := 10) rfl; have f6_11 := XF6.cell (i := 11) rfl; have f6_12 := XF6.cell (i := 12) rfl; have f6_13 := XF6.cell (i := 13) rfl; have p6_0 := XP6.cell (i := 0) rfl; have p6_1 := XP6.cell (i := 1) rfl; have p6_2 := XP6.cell (i := 2) rfl; have p6_3 := XP6.cell (i := 3) rfl; have zf6 := XF6.lt; have zp6 := XP6.lt; have Nvs6 := hid (Nvs5.out.below K6); have Ncs6 := hid (Ncs5.out.below K6); have Nus6 := hid (Nus5.out.below K6); have Nds6 := hid (Nds5.out.below K6); have Nva6 := hid (Nva5.out.below K6); have Nra6 := hid (Nra5.out.below K6); have Nvm6 := hid (Nvm5.out.below K6); have Nrm6 := hid hrm; clear hrm; have D6 := hid (Below.trans D5.out (K6.mono D5.out.size)); clear b6 K6) | (go_at_call 25; refine (PMC.out v4 Ncs4.out Nds4.out).mono ?_; rintro e v5 ⟨vm, rfl, hvm, b5⟩; have K5 : Below v4.heap.size v4 v5 := b5; have XF5 := XF4.keep K5; have XP5 := XP4.keep K5; have f5_0 := XF5.cell (i := 0) rfl; have f5_1 := XF5.cell (i := 1) rfl; have f5_2 := XF5.cell (i := 2) rfl; have f5_3 := XF5.cell (i := 3) rfl; have f5_4 := XF5.cell (i := 4) rfl; have f5_5 := XF5.cell (i := 5) rfl; have f5_6 := XF5.cell (i := 6) rfl; have f5_7 := XF5.cell (i := 7) rfl; have f5_8 := XF5.cell (i := 8) rfl; have f5_9 := XF5.cell (i := 9) rfl; have f5_10 := XF5.cell (i := 10) rfl; have f5_11 := XF5.cell (i := 11) rfl; have f5_12 := XF5.cell (i := 12) rfl; have f5_13 := XF5.cell (i := 13) rfl; have p5_0 := XP5.cell (i := 0) rfl; have p5_1 := XP5.cell (i := 1) rfl; have p5_2 := XP5.cell (i := 2) rfl; have p5_3 := XP5.cell (i := 3) rfl; have zf5 := XF5.lt; have zp5 := XP5.lt; have Nvs5 := hid (Nvs4.out.below K5); have Ncs5 := hid (Ncs4.out.below K5); have Nus5 := hid (Nus4.out.below K5); have Nds5 := hid (Nds4.out.below K5); have Nva5 := hid (Nva4.out.below K5); have Nra5 := hid (Nra4.out.below K5); have Nvm5 := hid hvm; clear hvm; have D5 := hid (Below.trans D4.out (K5.mono D4.out.size)); clear b5 K5) | (go_at_call 22; refine (SA.out v3 va ra Nva3.out Nra3.out).mono ?_; rintro e v4 ⟨rfl, b4⟩; have K4 : Below v3.heap.size v3 v4 := b4; have XF4 := XF3.keep K4; have XP4 := XP3.keep K4; have f4_0 := XF4.cell (i := 0) rfl; have f4_1 := XF4.cell (i := 1) rfl; have f4_2 := XF4.cell (i := 2) rfl; have f4_3 := XF4.cell (i := 3) rfl; have f4_4 := XF4.cell (i := 4) rfl; have f4_5 := XF4.cell (i := 5) rfl; have f4_6 := XF4.cell (i := 6) rfl; have f4_7 := XF4.cell (i := 7) rfl; have f4_8 := XF4.cell (i := 8) rfl; have f4_9 := XF4.cell (i := 9) rfl; have f4_10 := XF4.cell (i := 10) rfl; have f4_11 := XF4.cell (i := 11) rfl; have f4_12 := XF4.cell (i := 12) rfl; have f4_13 := XF4.cell (i := 13) rfl; have p4_0 := XP4.cell (i := 0) rfl; have p4_1 := XP4.cell (i := 1) rfl; have p4_2 := XP4.cell (i := 2) rfl; have p4_3 := XP4.cell (i := 3) rfl; have zf4 := XF4.lt; have zp4 := XP4.lt; have Nvs4 := hid (Nvs3.out.below K4); have Ncs4 := hid (Ncs3.out.below K4); have Nus4 := hid (Nus3.out.below K4); have Nds4 := hid (Nds3.out.below K4); have Nva4 := hid (Nva3.out.below K4); have Nra4 := hid (Nra3.out.below K4); have D4 := hid (Below.trans D3.out (K4.mono D3.out.size)); clear b4 K4) | (go_at_call 20; refine (RAC.out v2 Nvs2.out Nus2.out).mono ?_; rintro e v3 ⟨ra, rfl, hra, b3⟩; have K3 : Below v2.heap.size v2 v3 := b3; have XF3 := XF2.keep K3; have XP3 := XP2.keep K3; have f3_0 := XF3.cell (i := 0) rfl; have f3_1 := XF3.cell (i := 1) rfl; have f3_2 := XF3.cell (i := 2) rfl; have f3_3 := XF3.cell (i := 3) rfl; have f3_4 := XF3.cell (i := 4) rfl; have f3_5 := XF3.cell (i := 5) rfl; have f3_6 := XF3.cell (i := 6) rfl; have f3_7 := XF3.cell (i := 7) rfl; have f3_8 := XF3.cell (i := 8) rfl; have f3_9 := XF3.cell (i := 9) rfl; have f3_10 := XF3.cell (i := 10) rfl; have f3_11 := XF3.cell (i := 11) rfl; have f3_12 := XF3.cell (i := 12) rfl; have f3_13 := XF3.cell (i := 13) rfl; have p3_0 := XP3.cell (i := 0) rfl; have p3_1 := XP3.cell (i := 1) rfl; have p3_2 := XP3.cell (i := 2) rfl; have p3_3 := XP3.cell (i := 3) rfl; have zf3 := XF3.lt; have zp3 := XP3.lt; have Nvs3 := hid (Nvs2.out.below K3); have Ncs3 := hid (Ncs2.out.below K3); have Nus3 := hid (Nus2.out.below K3); have Nds3 := hid (Nds2.out.below K3); have Nva3 := hid (Nva2.out.below K3); have Nra3 := hid hra; clear hra; have D3 := hid (Below.trans D2.out (K3.mono D2.out.size)); clear b3 K3) | (go_at_call 24; refine (PAC.out v1 Ncs1.out Nds1.out).mono ?_; rintro e v2 ⟨va, rfl, hva, b2⟩; have K2 : Below v1.heap.size v1 v2 := b2; have XF2 := XF1.keep K2; have XP2 := XP1.keep K2; have f2_0 := XF2.cell (i := 0) rfl; have f2_1 := XF2.cell (i := 1) rfl; have f2_2 := XF2.cell (i := 2) rfl; have f2_3 := XF2.cell (i := 3) rfl; have f2_4 := XF2.cell (i := 4) rfl; have f2_5 := XF2.cell (i := 5) rfl; have f2_6 := XF2.cell (i := 6) rfl; have f2_7 := XF2.cell (i := 7) rfl; have f2_8 := XF2.cell (i := 8) rfl; have f2_9 := XF2.cell (i := 9) rfl; have f2_10 := XF2.cell (i := 10) rfl; have f2_11 := XF2.cell (i := 11) rfl; have f2_12 := XF2.cell (i := 12) rfl; have f2_13 := XF2.cell (i := 13) rfl; have p2_0 := XP2.cell (i := 0) rfl; have p2_1 := XP2.cell (i := 1) rfl; have p2_2 := XP2.cell (i := 2) rfl; have p2_3 := XP2.cell (i := 3) rfl; have zf2 := XF2.lt; have zp2 := XP2.lt; have Nvs2 := hid (Nvs1.out.below K2); have Ncs2 := hid (Ncs1.out.below K2); have Nus2 := hid (Nus1.out.below K2); have Nds2 := hid (Nds1.out.below K2); have Nva2 := hid hva; clear hva; have D2 := hid (Below.trans D1.out (K2.mono D1.out.size)); clear b2 K2) | (go_at_call 9; refine (alive_any v0.drew T.out).mono ?_; rintro e v1 ⟨rfl, b1⟩; have K1 : Below v0.heap.size v0 v1 := (Below.drew (Below.refl _ _)).trans b1; have XF1 := XF0.keep K1; have XP1 := XP0.keep K1; have f1_0 := XF1.cell (i := 0) rfl; have f1_1 := XF1.cell (i := 1) rfl; have f1_2 := XF1.cell (i := 2) rfl; have f1_3 := XF1.cell (i := 3) rfl; have f1_4 := XF1.cell (i := 4) rfl; have f1_5 := XF1.cell (i := 5) rfl; have f1_6 := XF1.cell (i := 6) rfl; have f1_7 := XF1.cell (i := 7) rfl; have f1_8 := XF1.cell (i := 8) rfl; have f1_9 := XF1.cell (i := 9) rfl; have f1_10 := XF1.cell (i := 10) rfl; have f1_11 := XF1.cell (i := 11) rfl; have f1_12 := XF1.cell (i := 12) rfl; have f1_13 := XF1.cell (i := 13) rfl; have p1_0 := XP1.cell (i := 0) rfl; have p1_1 := XP1.cell (i := 1) rfl; have p1_2 := XP1.cell (i := 2) rfl; have p1_3 := XP1.cell (i := 3) rfl; have zf1 := XF1.lt; have zp1 := XP1.lt; have Nvs1 := hid (Nvs0.out.below K1); have Ncs1 := hid (Ncs0.out.below K1); have Nus1 := hid (Nus0.out.below K1); have Nds1 := hid (Nds0.out.below K1); have D1 := hid (Below.trans D0.out (K1.mono D0.out.size)); clear b1 K1))
  go_wp2
  go_ret
  exact ⟨rfl, B0.out.trans (D7.out.mono B0.out.size)⟩
end Go.Proofs.YtfaicnileghjiaaDoor
