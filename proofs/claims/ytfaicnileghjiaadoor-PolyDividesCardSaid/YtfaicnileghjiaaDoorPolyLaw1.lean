/-
  PolyEvaluates: the value of a polynomial is the value of the reference.
-/
import Derived.Test.YtfaicnileghjiaaDoorAlive08
import Derived.Test.YtfaicnileghjiaaDoorREval
import Derived.Deep.RegionHeld3
namespace Go.Proofs.YtfaicnileghjiaaDoor
open Go.RowKit

theorem formsb_lt (b : Bool) (vs : List Nat) : ∀ y ∈ vs.map (frm (fP b)), y < fP b := forms_lt vs (by have := fP_two b; omega)
set_option maxRecDepth 100000 in
set_option maxHeartbeats 2000000 in
theorem evaluates_law (b : Bool) (v : Value) (ls : List Nat) (a : Nat) (w : World) (hT : Tab w) (hS : NumSl w v ls) (ha : a < B256) :
    Calls Tryd.prog 3 #[.bool b, v, vec a] w (Ret (.bool true) w) := by
  have T0 := hid (hT.alloc (.cells #[.int .u64 (limb a 0 : Int), .int .u64 (limb a 1 : Int), .int .u64 (limb a 2 : Int), .int .u64 (limb a 3 : Int)] 24))
  have S0 := hid (hS.below ((Below.refl _ w).alloc (Nat.le_refl _) (.cells #[.int .u64 (limb a 0 : Int), .int .u64 (limb a 1 : Int), .int .u64 (limb a 2 : Int), .int .u64 (limb a 3 : Int)] 24)))
  obtain ⟨sa, cap, rfl, _, _⟩ := hS
  clear hT
  obtain ⟨n, hn⟩ : ∃ n, ls.length = n := ⟨_, rfl⟩
  rw [hn] at S0 ⊢
  by_cases h12 : 12 < n
  · go_enter Tryd.func3, Tryd.ntmps3
    go_wp2_with fail
    refine (alive_any _ T0.out).mono ?_
    rintro e w1 ⟨rfl, b1⟩
    have B1 := hid (((Below.refl _ w).alloc (Nat.le_refl _) (.cells #[.int .u64 (limb a 0 : Int), .int .u64 (limb a 1 : Int), .int .u64 (limb a 2 : Int), .int .u64 (limb a 3 : Int)] 24)).trans (b1.mono (by simp)))
    clear b1
    go_wp2
    go_ret
    exact ⟨rfl, B1.out⟩
  go_enter Tryd.func3, Tryd.ntmps3
  go_wp2_with fail
  refine (lget_any b _ T0.out).mono ?_
  rintro e w1 ⟨rfl, b1⟩
  have A1 : Blk w1 w.heap.size 24 [.int .u64 (limb a 0 : Int), .int .u64 (limb a 1 : Int), .int .u64 (limb a 2 : Int), .int .u64 (limb a 3 : Int)] := Blk.keep (Blk.new rfl) b1
  have B1 : Below w.heap.size w w1 := ((Below.refl _ w).alloc (Nat.le_refl _) (.cells #[.int .u64 (limb a 0 : Int), .int .u64 (limb a 1 : Int), .int .u64 (limb a 2 : Int), .int .u64 (limb a 3 : Int)] 24)).trans (b1.mono (by simp))
  have T1 := T0.out.keep b1
  have S1 := S0.out.below b1
  clear b1 T0 S0
  have F1 : Blk ((w1.alloc (.cells #[.int .i64 (fID b), .int .u64 (limb (fP b) 0 : Int), .int .u64 (limb (fP b) 1 : Int), .int .u64 (limb (fP b) 2 : Int), .int .u64 (limb (fP b) 3 : Int), .int .u64 (fI b : Int), .int .u64 (limb (fO b) 0 : Int), .int .u64 (limb (fO b) 1 : Int), .int .u64 (limb (fO b) 2 : Int), .int .u64 (limb (fO b) 3 : Int), .int .u64 (limb (fS b) 0 : Int), .int .u64 (limb (fS b) 1 : Int), .int .u64 (limb (fS b) 2 : Int), .int .u64 (limb (fS b) 3 : Int)] 28)).alloc (.cells #[.int .u64 (limb (fP b) 0 : Int), .int .u64 (limb (fP b) 1 : Int), .int .u64 (limb (fP b) 2 : Int), .int .u64 (limb (fP b) 3 : Int)] 24)) w1.heap.size 28 [.int .i64 (fID b), .int .u64 (limb (fP b) 0 : Int), .int .u64 (limb (fP b) 1 : Int), .int .u64 (limb (fP b) 2 : Int), .int .u64 (limb (fP b) 3 : Int), .int .u64 (fI b : Int), .int .u64 (limb (fO b) 0 : Int), .int .u64 (limb (fO b) 1 : Int), .int .u64 (limb (fO b) 2 : Int), .int .u64 (limb (fO b) 3 : Int), .int .u64 (limb (fS b) 0 : Int), .int .u64 (limb (fS b) 1 : Int), .int .u64 (limb (fS b) 2 : Int), .int .u64 (limb (fS b) 3 : Int)] := Blk.alloc (Blk.new rfl) _
  have P1 : Blk ((w1.alloc (.cells #[.int .i64 (fID b), .int .u64 (limb (fP b) 0 : Int), .int .u64 (limb (fP b) 1 : Int), .int .u64 (limb (fP b) 2 : Int), .int .u64 (limb (fP b) 3 : Int), .int .u64 (fI b : Int), .int .u64 (limb (fO b) 0 : Int), .int .u64 (limb (fO b) 1 : Int), .int .u64 (limb (fO b) 2 : Int), .int .u64 (limb (fO b) 3 : Int), .int .u64 (limb (fS b) 0 : Int), .int .u64 (limb (fS b) 1 : Int), .int .u64 (limb (fS b) 2 : Int), .int .u64 (limb (fS b) 3 : Int)] 28)).alloc (.cells #[.int .u64 (limb (fP b) 0 : Int), .int .u64 (limb (fP b) 1 : Int), .int .u64 (limb (fP b) 2 : Int), .int .u64 (limb (fP b) 3 : Int)] 24)) (w1.heap.size + 1) 24 [.int .u64 (limb (fP b) 0 : Int), .int .u64 (limb (fP b) 1 : Int), .int .u64 (limb (fP b) 2 : Int), .int .u64 (limb (fP b) 3 : Int)] := Blk.new (by simp)
  have G1 : Below w1.heap.size w1 ((w1.alloc (.cells #[.int .i64 (fID b), .int .u64 (limb (fP b) 0 : Int), .int .u64 (limb (fP b) 1 : Int), .int .u64 (limb (fP b) 2 : Int), .int .u64 (limb (fP b) 3 : Int), .int .u64 (fI b : Int), .int .u64 (limb (fO b) 0 : Int), .int .u64 (limb (fO b) 1 : Int), .int .u64 (limb (fO b) 2 : Int), .int .u64 (limb (fO b) 3 : Int), .int .u64 (limb (fS b) 0 : Int), .int .u64 (limb (fS b) 1 : Int), .int .u64 (limb (fS b) 2 : Int), .int .u64 (limb (fS b) 3 : Int)] 28)).alloc (.cells #[.int .u64 (limb (fP b) 0 : Int), .int .u64 (limb (fP b) 1 : Int), .int .u64 (limb (fP b) 2 : Int), .int .u64 (limb (fP b) 3 : Int)] 24)) := by go_grown
  have A1' := A1.keep G1
  have T1' := T1.keep G1
  have S1' := S1.below G1
  have B1' := hid (B1.trans (G1.mono B1.size))
  clear A1 T1 S1 B1 G1
  have zl : ls.length < 1000000 := by omega
  go_wp2_with fail
  refine (values_any (fP b) _ ls _ (fP_lt b) (by have := fP_two b; omega) S1' zl).mono ?_
  rintro e w2 ⟨u1, u2, rfl, hv, hc, b2⟩
  obtain ⟨vs, hvs⟩ : ∃ vs, ls.map (mulm (fP b) 1) = vs := ⟨_, rfl⟩
  have hlv : vs.length = n := by rw [← hvs, List.length_map, hn]
  have vlt : ∀ y ∈ vs, y < fP b := by
    intro y hy; rw [← hvs] at hy; obtain ⟨z, _, rfl⟩ := List.mem_map.1 hy
    exact mulm_lt _ _ (by have := fP_two b; omega)
  rw [hvs, show ls.length = vs.length by omega] at hv hc
  have VS2 := hid (nums_own hv (fun y hy => Nat.lt_trans (vlt y hy) (fP_lt b)))
  have CS2 := hid (nums_own (xs := vs.map (frm (fP b))) (by rw [List.length_map]; exact hc) (fun y hy => Nat.lt_trans (formsb_lt b vs y hy) (fP_lt b)))
  have HV := hid vlt
  have F2 := Blk.keep F1 b2
  have P2b := Blk.keep P1 b2
  have A2 := Blk.keep A1' b2
  have T2 := hid (T1'.keep b2)
  have B2 := hid (B1'.out.trans (b2.mono B1'.out.size))
  obtain ⟨bf, hbf⟩ : ∃ k, w1.heap.size = k := ⟨_, rfl⟩
  obtain ⟨ba, hba⟩ : ∃ k, w.heap.size = k := ⟨_, rfl⟩
  have B2' := hid (show Below w.heap.size w w2 from B2.out)
  rw [hbf] at F2 P2b ⊢
  rw [hba] at A2 ⊢
  clear F1 P1 A1' T1' S1' B1' B2 hv hc b2 hbf hba vlt zl
  have f0 := F2.cell (i := 0) rfl
  have f1 := F2.cell (i := 1) rfl
  have f2 := F2.cell (i := 2) rfl
  have f3 := F2.cell (i := 3) rfl
  have f4 := F2.cell (i := 4) rfl
  have f5 := F2.cell (i := 5) rfl
  have f6 := F2.cell (i := 6) rfl
  have f7 := F2.cell (i := 7) rfl
  have f8 := F2.cell (i := 8) rfl
  have f9 := F2.cell (i := 9) rfl
  have f10 := F2.cell (i := 10) rfl
  have f11 := F2.cell (i := 11) rfl
  have f12 := F2.cell (i := 12) rfl
  have f13 := F2.cell (i := 13) rfl
  have p0 := P2b.cell (i := 0) rfl
  have p1 := P2b.cell (i := 1) rfl
  have p2 := P2b.cell (i := 2) rfl
  have p3 := P2b.cell (i := 3) rfl
  have a0 := A2.cell (i := 0) rfl
  have a1 := A2.cell (i := 1) rfl
  have a2 := A2.cell (i := 2) rfl
  have a3 := A2.cell (i := 3) rfl
  go_wp2_with fail
  refine (rmod_any (fP b) a (fP_lt b) (by have := fP_two b; omega) ha _).mono ?_
  rintro e w3 ⟨rfl, b3⟩
  have xlt : mulm (fP b) 1 a < fP b := mulm_lt _ _ (by have := fP_two b; omega)
  obtain ⟨x, hx⟩ : ∃ x, mulm (fP b) 1 a = x := ⟨_, rfl⟩
  rw [hx] at xlt ⊢
  have F3 := F2.keep b3
  have P3 := P2b.keep b3
  have A3 := A2.keep b3
  have T3 := hid (T2.out.keep b3)
  have VS3 := hid (VS2.out.below b3)
  have CS3 := hid (CS2.out.below b3)
  have B3 := hid (B2'.out.trans (b3.mono B2'.out.size))
  clear b3 F2 P2b A2 T2 VS2 CS2 B2' f0 f1 f2 f3 f4 f5 f6 f7 f8 f9 f10 f11 f12 f13 p0 p1 p2 p3 a0 a1 a2 a3
  go_wp2
  obtain ⟨v0, hv0⟩ : ∃ v, w3.alloc (.cells #[.int .u64 (limb x 0 : Int), .int .u64 (limb x 1 : Int), .int .u64 (limb x 2 : Int), .int .u64 (limb x 3 : Int)] 24) = v := ⟨_, rfl⟩
  obtain ⟨bx, hbx⟩ : ∃ k, w3.heap.size = k := ⟨_, rfl⟩
  have GX : Below w3.heap.size w3 v0 := by rw [← hv0]; exact (Below.refl _ _).alloc (Nat.le_refl _) _
  have XF0 := F3.keep GX
  have XP0 := P3.keep GX
  have XX0 : Blk v0 w3.heap.size 24 [.int .u64 (limb x 0 : Int), .int .u64 (limb x 1 : Int), .int .u64 (limb x 2 : Int), .int .u64 (limb x 3 : Int)] := by rw [← hv0]; exact Blk.new rfl
  have T := hid (T3.out.keep GX)
  have VS := hid (VS3.out.below GX)
  have CS := hid (CS3.out.below GX)
  have B0 := hid (B3.out.trans (GX.mono B3.out.size))
  have D0 := hid (Below.refl v0.heap.size v0)
  rw [hbx] at XX0
  clear GX F3 P3 A3 T3 VS3 CS3 B3
  rw [hv0, hbx]
  clear hv0 hbx
  have f0_0 := XF0.cell (i := 0) rfl
  have f0_1 := XF0.cell (i := 1) rfl
  have f0_2 := XF0.cell (i := 2) rfl
  have f0_3 := XF0.cell (i := 3) rfl
  have f0_4 := XF0.cell (i := 4) rfl
  have f0_5 := XF0.cell (i := 5) rfl
  have f0_6 := XF0.cell (i := 6) rfl
  have f0_7 := XF0.cell (i := 7) rfl
  have f0_8 := XF0.cell (i := 8) rfl
  have f0_9 := XF0.cell (i := 9) rfl
  have f0_10 := XF0.cell (i := 10) rfl
  have f0_11 := XF0.cell (i := 11) rfl
  have f0_12 := XF0.cell (i := 12) rfl
  have f0_13 := XF0.cell (i := 13) rfl
  have p0_0 := XP0.cell (i := 0) rfl
  have p0_1 := XP0.cell (i := 1) rfl
  have p0_2 := XP0.cell (i := 2) rfl
  have p0_3 := XP0.cell (i := 3) rfl
  have x0_0 := XX0.cell (i := 0) rfl
  have x0_1 := XX0.cell (i := 1) rfl
  have x0_2 := XX0.cell (i := 2) rfl
  have x0_3 := XX0.cell (i := 3) rfl
  have zf0 := XF0.lt
  have zp0 := XP0.lt
  have zx0 := XX0.lt
  have HX := hid xlt
  have EVC := hid (fun (W : World) (h : NumSl W u2 (vs.map (frm (fP b)))) => eval_any (fID b) (fP b) (fI b) (fO b) (fS b) (frm (fP b) x) u2 (vs.map (frm (fP b))) W (hid (fOK b)) (hid (frm_lt x (by have := fP_two b; omega))) h (formsb_lt b vs) (by rw [List.length_map]; omega))
  have REC := hid (fun (W : World) (h : NumSl W u1 vs) => reval_any (fP b) x u1 vs W (fP_lt b) (by have := fP_two b; omega) HX.out h HV.out (by omega))
  have FX := hid (fun W : World => lform_any (fP b) x (fP_lt b) (by have := fP_two b; omega) (Nat.lt_trans HX.out (fP_lt b)) W)
  have FE := hid (fun W : World => lform_any (fP b) (evm (fP b) x vs) (fP_lt b) (by have := fP_two b; omega) (Nat.lt_trans (evm_lt x vs (by have := fP_two b; omega)) (fP_lt b)) W)
  rw [horP_forms (fP_inv b)] at EVC
  obtain ⟨z, hz⟩ : ∃ z, evm (fP b) x vs = z := ⟨_, rfl⟩
  rw [hz] at EVC REC FE
  obtain ⟨y, hy⟩ : ∃ y, frm (fP b) z = y := ⟨_, rfl⟩
  rw [hy] at EVC FE
  obtain ⟨fx, hfx⟩ : ∃ y, frm (fP b) x = y := ⟨_, rfl⟩
  rw [hfx] at EVC FX
  clear xlt hz hy hfx
  have heq := fun W : World => eq_same_el (limb y 0 : Int) (limb y 1 : Int) (limb y 2 : Int) (limb y 3 : Int) W
  go_region_held3 (fun w' => w'.cell? ⟨bf, 0, none⟩ = some (.int .i64 (fID b)) ∧ w'.cell? ⟨bf, 1, none⟩ = some (.int .u64 (limb (fP b) 0 : Int)) ∧ w'.cell? ⟨bf, 2, none⟩ = some (.int .u64 (limb (fP b) 1 : Int)) ∧ w'.cell? ⟨bf, 3, none⟩ = some (.int .u64 (limb (fP b) 2 : Int)) ∧ w'.cell? ⟨bf, 4, none⟩ = some (.int .u64 (limb (fP b) 3 : Int)) ∧ w'.cell? ⟨bf, 5, none⟩ = some (.int .u64 (fI b : Int)) ∧ w'.cell? ⟨bf, 6, none⟩ = some (.int .u64 (limb (fO b) 0 : Int)) ∧ w'.cell? ⟨bf, 7, none⟩ = some (.int .u64 (limb (fO b) 1 : Int)) ∧ w'.cell? ⟨bf, 8, none⟩ = some (.int .u64 (limb (fO b) 2 : Int)) ∧ w'.cell? ⟨bf, 9, none⟩ = some (.int .u64 (limb (fO b) 3 : Int)) ∧ w'.cell? ⟨bf, 10, none⟩ = some (.int .u64 (limb (fS b) 0 : Int)) ∧ w'.cell? ⟨bf, 11, none⟩ = some (.int .u64 (limb (fS b) 1 : Int)) ∧ w'.cell? ⟨bf, 12, none⟩ = some (.int .u64 (limb (fS b) 2 : Int)) ∧ w'.cell? ⟨bf, 13, none⟩ = some (.int .u64 (limb (fS b) 3 : Int)) ∧ w'.cell? ⟨bf + 1, 0, none⟩ = some (.int .u64 (limb (fP b) 0 : Int)) ∧ w'.cell? ⟨bf + 1, 1, none⟩ = some (.int .u64 (limb (fP b) 1 : Int)) ∧ w'.cell? ⟨bf + 1, 2, none⟩ = some (.int .u64 (limb (fP b) 2 : Int)) ∧ w'.cell? ⟨bf + 1, 3, none⟩ = some (.int .u64 (limb (fP b) 3 : Int)) ∧ w'.cell? ⟨bx, 0, none⟩ = some (.int .u64 (limb x 0 : Int)) ∧ w'.cell? ⟨bx, 1, none⟩ = some (.int .u64 (limb x 1 : Int)) ∧ w'.cell? ⟨bx, 2, none⟩ = some (.int .u64 (limb x 2 : Int)) ∧ w'.cell? ⟨bx, 3, none⟩ = some (.int .u64 (limb x 3 : Int))) ((first | (go_simp; done) | go_keep)) (first | (go_at_call 14; refine (FE.out v4).mono ?_; rintro e v5 ⟨rfl, b5⟩; have K5 : Below v4.heap.size v4 v5 := b5; have XF5 := XF4.keep K5; have XP5 := XP4.keep K5; have XX5 := XX4.keep K5; have f5_0 := XF5.cell (i := 0) rfl; have f5_1 := XF5.cell (i := 1) rfl; have f5_2 := XF5.cell (i := 2) rfl; have f5_3 := XF5.cell (i := 3) rfl; have f5_4 := XF5.cell (i := 4) rfl; have f5_5 := XF5.cell (i := 5) rfl; have f5_6 := XF5.cell (i := 6) rfl; have f5_7 := XF5.cell (i := 7) rfl; have f5_8 := XF5.cell (i := 8) rfl; have f5_9 := XF5.cell (i := 9) rfl; have f5_10 := XF5.cell (i := 10) rfl; have f5_11 := XF5.cell (i := 11) rfl; have f5_12 := XF5.cell (i := 12) rfl; have f5_13 := XF5.cell (i := 13) rfl; have p5_0 := XP5.cell (i := 0) rfl; have p5_1 := XP5.cell (i := 1) rfl; have p5_2 := XP5.cell (i := 2) rfl; have p5_3 := XP5.cell (i := 3) rfl; have x5_0 := XX5.cell (i := 0) rfl; have x5_1 := XX5.cell (i := 1) rfl; have x5_2 := XX5.cell (i := 2) rfl; have x5_3 := XX5.cell (i := 3) rfl; have zf5 := XF5.lt; have zp5 := XP5.lt; have zx5 := XX5.lt; have D5 := hid (Below.trans D4.out (K5.mono D4.out.size)); clear b5 K5) | (go_at_call 15; refine (REC.out v3 (VS.out.below D3.out)).mono ?_; rintro e v4 ⟨rfl, b4⟩; have K4 : Below v3.heap.size v3 v4 := b4; have XF4 := XF3.keep K4; have XP4 := XP3.keep K4; have XX4 := XX3.keep K4; have f4_0 := XF4.cell (i := 0) rfl; have f4_1 := XF4.cell (i := 1) rfl; have f4_2 := XF4.cell (i := 2) rfl; have f4_3 := XF4.cell (i := 3) rfl; have f4_4 := XF4.cell (i := 4) rfl; have f4_5 := XF4.cell (i := 5) rfl; have f4_6 := XF4.cell (i := 6) rfl; have f4_7 := XF4.cell (i := 7) rfl; have f4_8 := XF4.cell (i := 8) rfl; have f4_9 := XF4.cell (i := 9) rfl; have f4_10 := XF4.cell (i := 10) rfl; have f4_11 := XF4.cell (i := 11) rfl; have f4_12 := XF4.cell (i := 12) rfl; have f4_13 := XF4.cell (i := 13) rfl; have p4_0 := XP4.cell (i := 0) rfl; have p4_1 := XP4.cell (i := 1) rfl; have p4_2 := XP4.cell (i := 2) rfl; have p4_3 := XP4.cell (i := 3) rfl; have x4_0 := XX4.cell (i := 0) rfl; have x4_1 := XX4.cell (i := 1) rfl; have x4_2 := XX4.cell (i := 2) rfl; have x4_3 := XX4.cell (i := 3) rfl; have zf4 := XF4.lt; have zp4 := XP4.lt; have zx4 := XX4.lt; have D4 := hid (Below.trans D3.out (K4.mono D3.out.size)); clear b4 K4) | (go_at_call 13; refine (EVC.out v2 (CS.out.below D2.out)).mono ?_; rintro e v3 ⟨rfl, b3⟩; have K3 : Below v2.heap.size v2 v3 := b3; have XF3 := XF2.keep K3; have XP3 := XP2.keep K3; have XX3 := XX2.keep K3; have f3_0 := XF3.cell (i := 0) rfl; have f3_1 := XF3.cell (i := 1) rfl; have f3_2 := XF3.cell (i := 2) rfl; have f3_3 := XF3.cell (i := 3) rfl; have f3_4 := XF3.cell (i := 4) rfl; have f3_5 := XF3.cell (i := 5) rfl; have f3_6 := XF3.cell (i := 6) rfl; have f3_7 := XF3.cell (i := 7) rfl; have f3_8 := XF3.cell (i := 8) rfl; have f3_9 := XF3.cell (i := 9) rfl; have f3_10 := XF3.cell (i := 10) rfl; have f3_11 := XF3.cell (i := 11) rfl; have f3_12 := XF3.cell (i := 12) rfl; have f3_13 := XF3.cell (i := 13) rfl; have p3_0 := XP3.cell (i := 0) rfl; have p3_1 := XP3.cell (i := 1) rfl; have p3_2 := XP3.cell (i := 2) rfl; have p3_3 := XP3.cell (i := 3) rfl; have x3_0 := XX3.cell (i := 0) rfl; have x3_1 := XX3.cell (i := 1) rfl; have x3_2 := XX3.cell (i := 2) rfl; have x3_3 := XX3.cell (i := 3) rfl; have zf3 := XF3.lt; have zp3 := XP3.lt; have zx3 := XX3.lt; have D3 := hid (Below.trans D2.out (K3.mono D2.out.size)); clear b3 K3) | (go_at_call 14; refine (FX.out v1).mono ?_; rintro e v2 ⟨rfl, b2⟩; have K2 : Below v1.heap.size v1 v2 := b2; have XF2 := XF1.keep K2; have XP2 := XP1.keep K2; have XX2 := XX1.keep K2; have f2_0 := XF2.cell (i := 0) rfl; have f2_1 := XF2.cell (i := 1) rfl; have f2_2 := XF2.cell (i := 2) rfl; have f2_3 := XF2.cell (i := 3) rfl; have f2_4 := XF2.cell (i := 4) rfl; have f2_5 := XF2.cell (i := 5) rfl; have f2_6 := XF2.cell (i := 6) rfl; have f2_7 := XF2.cell (i := 7) rfl; have f2_8 := XF2.cell (i := 8) rfl; have f2_9 := XF2.cell (i := 9) rfl; have f2_10 := XF2.cell (i := 10) rfl; have f2_11 := XF2.cell (i := 11) rfl; have f2_12 := XF2.cell (i := 12) rfl; have f2_13 := XF2.cell (i := 13) rfl; have p2_0 := XP2.cell (i := 0) rfl; have p2_1 := XP2.cell (i := 1) rfl; have p2_2 := XP2.cell (i := 2) rfl; have p2_3 := XP2.cell (i := 3) rfl; have x2_0 := XX2.cell (i := 0) rfl; have x2_1 := XX2.cell (i := 1) rfl; have x2_2 := XX2.cell (i := 2) rfl; have x2_3 := XX2.cell (i := 3) rfl; have zf2 := XF2.lt; have zp2 := XP2.lt; have zx2 := XX2.lt; have D2 := hid (Below.trans D1.out (K2.mono D1.out.size)); clear b2 K2) | (go_at_call 9; refine (alive_any v0.drew T.out).mono ?_; rintro e v1 ⟨rfl, b1⟩; have K1 : Below v0.heap.size v0 v1 := (Below.drew (Below.refl _ _)).trans b1; have XF1 := XF0.keep K1; have XP1 := XP0.keep K1; have XX1 := XX0.keep K1; have f1_0 := XF1.cell (i := 0) rfl; have f1_1 := XF1.cell (i := 1) rfl; have f1_2 := XF1.cell (i := 2) rfl; have f1_3 := XF1.cell (i := 3) rfl; have f1_4 := XF1.cell (i := 4) rfl; have f1_5 := XF1.cell (i := 5) rfl; have f1_6 := XF1.cell (i := 6) rfl; have f1_7 := XF1.cell (i := 7) rfl; have f1_8 := XF1.cell (i := 8) rfl; have f1_9 := XF1.cell (i := 9) rfl; have f1_10 := XF1.cell (i := 10) rfl; have f1_11 := XF1.cell (i := 11) rfl; have f1_12 := XF1.cell (i := 12) rfl; have f1_13 := XF1.cell (i := 13) rfl; have p1_0 := XP1.cell (i := 0) rfl; have p1_1 := XP1.cell (i := 1) rfl; have p1_2 := XP1.cell (i := 2) rfl; have p1_3 := XP1.cell (i := 3) rfl; have x1_0 := XX1.cell (i := 0) rfl; have x1_1 := XX1.cell (i := 1) rfl; have x1_2 := XX1.cell (i := 2) rfl; have x1_3 := XX1.cell (i := 3) rfl; have zf1 := XF1.lt; have zp1 := XP1.lt; have zx1 := XX1.lt; have D1 := hid (Below.trans D0.out (K1.mono D0.out.size)); clear b1 K1))
  go_wp2
  go_ret
  exact ⟨rfl, B0.out.trans (D5.out.mono B0.out.size)⟩
end Go.Proofs.YtfaicnileghjiaaDoor
