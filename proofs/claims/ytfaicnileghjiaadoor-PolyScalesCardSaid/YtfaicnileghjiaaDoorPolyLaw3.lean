/-
  PolyScales: the multiple of a polynomial.
-/
import Derived.Test.YtfaicnileghjiaaDoorPolyLaw1
import Derived.Test.YtfaicnileghjiaaDoorSl08
import Derived.Test.YtfaicnileghjiaaDoorVals08
import Derived.Deep.RegionHeld3
namespace Go.Proofs.YtfaicnileghjiaaDoor
open Go.RowKit

set_option maxRecDepth 100000 in
set_option maxHeartbeats 4000000 in
theorem scales_law (b : Bool) (v : Value) (ls : List Nat) (a : Nat) (w : World) (hT : Tab w) (hS : NumSl w v ls) (ha : a < B256) :
    Calls Tryd.prog 5 #[.bool b, v, vec a] w (Ret (.bool true) w) := by
  obtain ⟨i0, hi, hz0, hz1, hz2⟩ := info_parts info_v4
  have T0 := hid (hT.alloc (.cells #[.int .u64 (limb a 0 : Int), .int .u64 (limb a 1 : Int), .int .u64 (limb a 2 : Int), .int .u64 (limb a 3 : Int)] 24))
  have S0 := hid (hS.below ((Below.refl _ w).alloc (Nat.le_refl _) (.cells #[.int .u64 (limb a 0 : Int), .int .u64 (limb a 1 : Int), .int .u64 (limb a 2 : Int), .int .u64 (limb a 3 : Int)] 24)))
  obtain ⟨sa, cap, rfl, _, _⟩ := hS
  clear hT
  obtain ⟨n, hn⟩ : ∃ n, ls.length = n := ⟨_, rfl⟩
  rw [hn] at S0 ⊢
  by_cases h12 : 12 < n
  · go_enter Tryd.func5, Tryd.ntmps5
    go_wp2_with fail
    refine (alive_any _ T0.out).mono ?_
    rintro e w1 ⟨rfl, b1⟩
    have B1 := hid (((Below.refl _ w).alloc (Nat.le_refl _) (.cells #[.int .u64 (limb a 0 : Int), .int .u64 (limb a 1 : Int), .int .u64 (limb a 2 : Int), .int .u64 (limb a 3 : Int)] 24)).trans (b1.mono (by simp)))
    clear b1
    go_wp2
    go_ret
    exact ⟨rfl, B1.out⟩
  go_enter Tryd.func5, Tryd.ntmps5
  go_wp2_with fail
  refine (lget_any b _ T0.out).mono ?_
  rintro e w1 ⟨rfl, b1⟩
  have A1 : Blk w1 w.heap.size 24 [.int .u64 (limb a 0 : Int), .int .u64 (limb a 1 : Int), .int .u64 (limb a 2 : Int), .int .u64 (limb a 3 : Int)] := Blk.keep (Blk.new rfl) b1
  have B1 : Below w.heap.size w w1 := ((Below.refl _ w).alloc (Nat.le_refl _) (.cells #[.int .u64 (limb a 0 : Int), .int .u64 (limb a 1 : Int), .int .u64 (limb a 2 : Int), .int .u64 (limb a 3 : Int)] 24)).trans (b1.mono (by simp))
  have T1 := T0.out.keep b1
  have S1 := S0.out.below b1
  clear b1 T0 S0
  have F1 : Blk ((w1.alloc (.cells #[.int .i64 (fID b), .int .u64 (limb (fP b) 0 : Int), .int .u64 (limb (fP b) 1 : Int), .int .u64 (limb (fP b) 2 : Int), .int .u64 (limb (fP b) 3 : Int), .int .u64 (fI b : Int), .int .u64 (limb (fO b) 0 : Int), .int .u64 (limb (fO b) 1 : Int), .int .u64 (limb (fO b) 2 : Int), .int .u64 (limb (fO b) 3 : Int), .int .u64 (limb (fS b) 0 : Int), .int .u64 (limb (fS b) 1 : Int), .int .u64 (limb (fS b) 2 : Int), .int .u64 (limb (fS b) 3 : Int)] 28)).alloc (.cells #[.int .u64 (limb (fP b) 0 : Int), .int .u64 (limb (fP b) 1 : Int), .int .u64 (limb (fP b) 2 : Int), .int .u64 (limb (fP b) 3 : Int)] 24)) w1.heap.size 28 [.int .i64 (fID b), .int .u64 (limb (fP b) 0 : Int), .int .u64 (limb (fP b) 1 : Int), .int .u64 (limb (fP b) 2 : Int), .int .u64 (limb (fP b) 3 : Int), .int .u64 (fI b : Int), .int .u64 (limb (fO b) 0 : Int), .int .u64 (limb (fO b) 1 : Int), .int .u64 (limb (fO b) 2 : Int), .int .u64 (limb (fO b) 3 : Int), .int .u64 (limb (fS b) 0 : Int), .int .u64 (limb (fS b) 1 : Int), .int .u64 (limb (fS b) 2 : Int), .int .u64 (limb (fS b) 3 : Int)] := Blk.alloc (Blk.new rfl) _
  have P1 : Blk ((w1.alloc (.cells #[.int .i64 (fID b), .int .u64 (limb (fP b) 0 : Int), .int .u64 (limb (fP b) 1 : Int), .int .u64 (limb (fP b) 2 : Int), .int .u64 (limb (fP b) 3 : Int), .int .u64 (fI b : Int), .int .u64 (limb (fO b) 0 : Int), .int .u64 (limb (fO b) 1 : Int), .int .u64 (limb (fO b) 2 : Int), .int .u64 (limb (fO b) 3 : Int), .int .u64 (limb (fS b) 0 : Int), .int .u64 (limb (fS b) 1 : Int), .int .u64 (limb (fS b) 2 : Int), .int .u64 (limb (fS b) 3 : Int)] 28)).alloc (.cells #[.int .u64 (limb (fP b) 0 : Int), .int .u64 (limb (fP b) 1 : Int), .int .u64 (limb (fP b) 2 : Int), .int .u64 (limb (fP b) 3 : Int)] 24)) (w1.heap.size + 1) 24 [.int .u64 (limb (fP b) 0 : Int), .int .u64 (limb (fP b) 1 : Int), .int .u64 (limb (fP b) 2 : Int), .int .u64 (limb (fP b) 3 : Int)] := Blk.new (by simp)
  have G1 : Below w1.heap.size w1 ((w1.alloc (.cells #[.int .i64 (fID b), .int .u64 (limb (fP b) 0 : Int), .int .u64 (limb (fP b) 1 : Int), .int .u64 (limb (fP b) 2 : Int), .int .u64 (limb (fP b) 3 : Int), .int .u64 (fI b : Int), .int .u64 (limb (fO b) 0 : Int), .int .u64 (limb (fO b) 1 : Int), .int .u64 (limb (fO b) 2 : Int), .int .u64 (limb (fO b) 3 : Int), .int .u64 (limb (fS b) 0 : Int), .int .u64 (limb (fS b) 1 : Int), .int .u64 (limb (fS b) 2 : Int), .int .u64 (limb (fS b) 3 : Int)] 28)).alloc (.cells #[.int .u64 (limb (fP b) 0 : Int), .int .u64 (limb (fP b) 1 : Int), .int .u64 (limb (fP b) 2 : Int), .int .u64 (limb (fP b) 3 : Int)] 24)) := by go_grown
  have A1' := A1.keep G1
  have T1' := T1.keep G1
  have S1' := S1.below G1
  have B1' := hid (B1.trans (G1.mono B1.size))
  clear A1 T1 S1 B1 G1
  have zl : ls.length < 1000000 := by omega
  go_wp2_with fail
  refine (values_any (fP b) _ ls _ (fP_lt b) (by have := fP_two b; omega) S1' zl).mono ?_
  rintro e w2 ⟨u1, u2, rfl, hv, hc, b2⟩
  obtain ⟨vs, hvs⟩ : ∃ vs, ls.map (mulm (fP b) 1) = vs := ⟨_, rfl⟩
  have hlv : vs.length = n := by rw [← hvs, List.length_map, hn]
  have vlt : ∀ y ∈ vs, y < fP b := by
    intro y hy; rw [← hvs] at hy; obtain ⟨z, _, rfl⟩ := List.mem_map.1 hy
    exact mulm_lt _ _ (by have := fP_two b; omega)
  rw [hvs, show ls.length = vs.length by omega] at hv hc
  have VS2 := hid (nums_own hv (fun y hy => Nat.lt_trans (vlt y hy) (fP_lt b)))
  have CS2 := hid (nums_own (xs := vs.map (frm (fP b))) (by rw [List.length_map]; exact hc) (fun y hy => Nat.lt_trans (formsb_lt b vs y hy) (fP_lt b)))
  have HV := hid vlt
  have F2 := Blk.keep F1 b2
  have P2b := Blk.keep P1 b2
  have A2 := Blk.keep A1' b2
  have T2 := hid (T1'.keep b2)
  have B2 := hid (B1'.out.trans (b2.mono B1'.out.size))
  obtain ⟨bf, hbf⟩ : ∃ k, w1.heap.size = k := ⟨_, rfl⟩
  obtain ⟨ba, hba⟩ : ∃ k, w.heap.size = k := ⟨_, rfl⟩
  have B2' := hid (show Below w.heap.size w w2 from B2.out)
  rw [hbf] at F2 P2b ⊢
  rw [hba] at A2 ⊢
  clear F1 P1 A1' T1' S1' B1' B2 hv hc b2 hbf hba vlt zl
  have f0 := F2.cell (i := 0) rfl
  have f1 := F2.cell (i := 1) rfl
  have f2 := F2.cell (i := 2) rfl
  have f3 := F2.cell (i := 3) rfl
  have f4 := F2.cell (i := 4) rfl
  have f5 := F2.cell (i := 5) rfl
  have f6 := F2.cell (i := 6) rfl
  have f7 := F2.cell (i := 7) rfl
  have f8 := F2.cell (i := 8) rfl
  have f9 := F2.cell (i := 9) rfl
  have f10 := F2.cell (i := 10) rfl
  have f11 := F2.cell (i := 11) rfl
  have f12 := F2.cell (i := 12) rfl
  have f13 := F2.cell (i := 13) rfl
  have p0 := P2b.cell (i := 0) rfl
  have p1 := P2b.cell (i := 1) rfl
  have p2 := P2b.cell (i := 2) rfl
  have p3 := P2b.cell (i := 3) rfl
  have a0 := A2.cell (i := 0) rfl
  have a1 := A2.cell (i := 1) rfl
  have a2 := A2.cell (i := 2) rfl
  have a3 := A2.cell (i := 3) rfl
  go_wp2_with fail
  refine (rmod_any (fP b) a (fP_lt b) (by have := fP_two b; omega) ha _).mono ?_
  rintro e w3 ⟨rfl, b3⟩
  have xlt : mulm (fP b) 1 a < fP b := mulm_lt _ _ (by have := fP_two b; omega)
  obtain ⟨x, hx⟩ : ∃ x, mulm (fP b) 1 a = x := ⟨_, rfl⟩
  rw [hx] at xlt ⊢
  have F3 := F2.keep b3
  have P3 := P2b.keep b3
  have A3 := A2.keep b3
  have T3 := hid (T2.out.keep b3)
  have VS3 := hid (VS2.out.below b3)
  have CS3 := hid (CS2.out.below b3)
  have B3 := hid (B2'.out.trans (b3.mono B2'.out.size))
  clear b3 F2 P2b A2 T2 VS2 CS2 B2' f0 f1 f2 f3 f4 f5 f6 f7 f8 f9 f10 f11 f12 f13 p0 p1 p2 p3 a0 a1 a2 a3
  have hvs9 := VS3.out
  obtain ⟨au, cu, rfl, y91, y92⟩ := hvs9
  clear y91 y92
  rw [hlv] at VS3 ⊢
  go_wp2
  obtain ⟨v0, hv0⟩ : ∃ v, w3.alloc (.cells #[.int .u64 (limb x 0 : Int), .int .u64 (limb x 1 : Int), .int .u64 (limb x 2 : Int), .int .u64 (limb x 3 : Int)] 24) = v := ⟨_, rfl⟩
  obtain ⟨bx, hbx⟩ : ∃ k, w3.heap.size = k := ⟨_, rfl⟩
  have GX : Below w3.heap.size w3 v0 := by rw [← hv0]; exact (Below.refl _ _).alloc (Nat.le_refl _) _
  have XF0 := F3.keep GX
  have XP0 := P3.keep GX
  have XX0 : Blk v0 w3.heap.size 24 [.int .u64 (limb x 0 : Int), .int .u64 (limb x 1 : Int), .int .u64 (limb x 2 : Int), .int .u64 (limb x 3 : Int)] := by rw [← hv0]; exact Blk.new rfl
  have T := hid (T3.out.keep GX)
  have VS := hid (VS3.out.below GX)
  have CS := hid (CS3.out.below GX)
  have B0 := hid (B3.out.trans (GX.mono B3.out.size))
  have D0 := hid (Below.refl v0.heap.size v0)
  rw [hbx] at XX0
  clear GX F3 P3 A3 T3 VS3 CS3 B3
  rw [hv0, hbx]
  clear hv0 hbx
  have hru := VS.out
  obtain ⟨a9, c9, e9, _, hru⟩ := hru
  simp only [Value.slice.injEq] at e9
  obtain ⟨rfl, e9n, rfl⟩ := e9
  clear e9n
  have HRU := hid hru
  clear hru
  have HX := hid xlt
  have hn12 : n ≤ 12 := by omega
  go_loopw [12, 35] (fun y i wr => ∃ k : Nat, k ≤ n ∧ i = .int .i64 (k : Int) ∧ Below v0.heap.size v0 wr ∧ wr.ownsRow v0.heap.size 24 4 y k (nums ((vs.take k).map (fun y => mulm (fP b) y x)))) (fun _ i _ => n - (intOf i).toNat)
  case atStart => exact ⟨0, Nat.zero_le _, rfl, Below.refl _ _, by simpa [nums] using World.ownsRow_nil _ _ _ _⟩
  case round =>
    obtain ⟨k, hk, rfl, hB, hO⟩ := hrel
    have HB := hid hB
    have O6 := hid hO
    have zB := hB.size
    have XF9 := XF0.keep hB
    have XP9 := XP0.keep hB
    have XX9 := XX0.keep hB
    have f9_0 := XF9.cell (i := 0) rfl
    have f9_1 := XF9.cell (i := 1) rfl
    have f9_2 := XF9.cell (i := 2) rfl
    have f9_3 := XF9.cell (i := 3) rfl
    have f9_4 := XF9.cell (i := 4) rfl
    have f9_5 := XF9.cell (i := 5) rfl
    have f9_6 := XF9.cell (i := 6) rfl
    have f9_7 := XF9.cell (i := 7) rfl
    have f9_8 := XF9.cell (i := 8) rfl
    have f9_9 := XF9.cell (i := 9) rfl
    have f9_10 := XF9.cell (i := 10) rfl
    have f9_11 := XF9.cell (i := 11) rfl
    have f9_12 := XF9.cell (i := 12) rfl
    have f9_13 := XF9.cell (i := 13) rfl
    have zf9 := XF9.lt
    have p9_0 := XP9.cell (i := 0) rfl
    have p9_1 := XP9.cell (i := 1) rfl
    have p9_2 := XP9.cell (i := 2) rfl
    have p9_3 := XP9.cell (i := 3) rfl
    have zp9 := XP9.lt
    have x9_0 := XX9.cell (i := 0) rfl
    have x9_1 := XX9.cell (i := 1) rfl
    have x9_2 := XX9.cell (i := 2) rfl
    have x9_3 := XX9.cell (i := 3) rfl
    have zx9 := XX9.lt
    by_cases hlt : k < n
    · obtain ⟨y, hy⟩ : ∃ y, vs[k]? = some y := ⟨vs[k]'(by omega), List.getElem?_eq_getElem _⟩
      obtain ⟨g, off, hga, he⟩ : ∃ g off, au = some ⟨g, off, none⟩ ∧ NumsAt v0 g off vs := by
        rcases HRU.out with h | h
        · rw [h] at hy; cases hy
        · exact h
      subst hga
      obtain ⟨_, e0, e1, e2, e3⟩ := he k y hy
      have hg : g < v0.heap.size := World.block_lt_of_cell? _ _ e0
      have hgr := Nat.lt_of_lt_of_le hg zB
      have d0 := (hB.cell (p := ⟨g, off + k * 4, none⟩) hg).trans e0
      have d1 := (hB.cell (p := ⟨g, off + k * 4 + 1, none⟩) hg).trans e1
      have d2 := (hB.cell (p := ⟨g, off + k * 4 + 2, none⟩) hg).trans e2
      have d3 := (hB.cell (p := ⟨g, off + k * 4 + 3, none⟩) hg).trans e3
      have ym := List.mem_of_getElem? hy
      obtain ⟨z, hz⟩ : ∃ z, mulm (fP b) y x = z := ⟨_, rfl⟩
      have HZ := hid hz
      have M := hid (rmul_any (fP b) y x (fP_lt b) (HV.out y ym) (Nat.lt_trans HX.out (fP_lt b)))
      rw [hz] at M
      clear hz
      have T1 := hid (show (vs.take (k + 1)).map (fun y => mulm (fP b) y x) = (vs.take k).map (fun y => mulm (fP b) y x) ++ [z] by rw [take_next hy, List.map_append, ← HZ.out]; rfl)
      clear hB hO e0 e1 e2 e3 he hy ym
      go_wp2_with (first
        | (go_at_call 21; refine (M.out _).mono ?_; rintro e w1 ⟨rfl, b1⟩; have B1 := hid ((HB.out.alloc zB _).trans (b1.mono (by simp; omega))); have O6a := hid (owns_keep (O6.out.alloc _) b1); clear b1)
        | (at_builtin; refine wpList_append_own _ rfl _ _ 22 rfl v0.heap.size 24 i0 _ 4 32 Tryd.underlying22 hi hz0 hz1 hz2 rfl (by decide) _ k _ rfl (O6a.out.alloc _) ⟨w1.heap.size, 0, none⟩ 1 1 (limbs z) rfl rfl (Blk.news (t := 24) (Blk.new (by simp))) (by simp [Value.oneCell']) (by unfold maxLen; omega) (by omega) (by have := B1.out.size; simp; omega) ?_; intro v6 w2 ho hg2 _))
      have B2 := hid (Below.grown (B1.out.alloc B1.out.size _) hg2 (by have := B1.out.size; simp; omega) (fun j hj => by have := (O6a.out.lt j hj).1; omega))
      have ho' : w2.ownsRow v0.heap.size 24 4 v6 (k + 1) (nums ((vs.take (k + 1)).map (fun y => mulm (fP b) y x))) := by rw [T1.out, nums_snoc]; exact ho
      have zk2 : IntKind.i64.wrap (k : Int) = (k : Int) := by rw [IntKind.wrap_i64]; omega
      go_roundw
      case rel => exact ⟨k + 1, by omega, by go_num, B2.out, ho'⟩
      case measure => simp [intOf]; omega
    · obtain rfl : k = n := by omega
      have Nw0 := hid (nums_own (xs := vs.map fun y => mulm (fP b) y x) (by have q := O6.out; rw [List.take_of_length_le (by omega)] at q; rw [List.length_map, hlv]; exact q) (fun z hz => by obtain ⟨y, _, rfl⟩ := List.mem_map.1 hz; exact Nat.lt_trans (mulm_lt _ _ (by have := fP_two b; omega)) (fP_lt b)))
      have T9 := hid (T.out.keep hB)
      have Nvs0 := hid (VS.out.below hB)
      have Ncs0 := hid (CS.out.below hB)
      have B9 := hid (B0.out.trans (hB.mono B0.out.size))
      have D0 := hid (Below.refl wr.heap.size wr)
      clear hB hO XF0 XP0 XX0 T VS CS
      have XF0 := XF9
      have XP0 := XP9
      have XX0 := XX9
      clear XF9 XP9 XX9
      have SCC := hid (fun (W : World) (h : NumSl W u2 (vs.map (frm (fP b)))) => scale_sl (fID b) (fP b) (fI b) (fO b) (fS b) (frm (fP b) x) u2 (vs.map (frm (fP b))) W (hid (fOK b)) (hid (frm_lt x (by have := fP_two b; omega))) h (formsb_lt b vs) (by rw [List.length_map]; omega))
      rw [pscl_forms (fP_inv b)] at SCC
      have FX := hid (fun W : World => lform_any (fP b) x (fP_lt b) (by have := fP_two b; omega) (Nat.lt_trans HX.out (fP_lt b)) W)
      have hwl : (vs.map fun y => mulm (fP b) y x).length < 1000000 := by rw [List.length_map]; omega
      obtain ⟨ws, hws⟩ : ∃ ws, (vs.map fun y => mulm (fP b) y x) = ws := ⟨_, rfl⟩
      rw [hws] at SCC Nw0 hwl
      have SA := hid (fun (W : World) (x y : Value) (h1 : NumSl W x (ws.map (frm (fP b)))) (h2 : NumSl W y ws) => same_any (fP b) x y ws W (fP_lt b) (by have := fP_two b; omega) h1 h2 hwl)
      have SP := hid (fun (W : World) (x y : Value) (h1 : NumSl W x (vs.map (frm (fP b)))) (h2 : NumSl W y vs) => same_any (fP b) x y vs W (fP_lt b) (by have := fP_two b; omega) h1 h2 (by omega))
      clear hws hwl O6 HB hi hz0 hz1 hz2
      obtain ⟨fx, hfx⟩ : ∃ y, frm (fP b) x = y := ⟨_, rfl⟩
      rw [hfx] at SCC FX
      clear hfx
      go_wp2
      go_region_held3 (fun w' => w'.cell? ⟨bf, 0, none⟩ = some (.int .i64 (fID b)) ∧ w'.cell? ⟨bf, 1, none⟩ = some (.int .u64 (limb (fP b) 0 : Int)) ∧ w'.cell? ⟨bf, 2, none⟩ = some (.int .u64 (limb (fP b) 1 : Int)) ∧ w'.cell? ⟨bf, 3, none⟩ = some (.int .u64 (limb (fP b) 2 : Int)) ∧ w'.cell? ⟨bf, 4, none⟩ = some (.int .u64 (limb (fP b) 3 : Int)) ∧ w'.cell? ⟨bf, 5, none⟩ = some (.int .u64 (fI b : Int)) ∧ w'.cell? ⟨bf, 6, none⟩ = some (.int .u64 (limb (fO b) 0 : Int)) ∧ w'.cell? ⟨bf, 7, none⟩ = some (.int .u64 (limb (fO b) 1 : Int)) ∧ w'.cell? ⟨bf, 8, none⟩ = some (.int .u64 (limb (fO b) 2 : Int)) ∧ w'.cell? ⟨bf, 9, none⟩ = some (.int .u64 (limb (fO b) 3 : Int)) ∧ w'.cell? ⟨bf, 10, none⟩ = some (.int .u64 (limb (fS b) 0 : Int)) ∧ w'.cell? ⟨bf, 11, none⟩ = some (.int .u64 (limb (fS b) 1 : Int)) ∧ w'.cell? ⟨bf, 12, none⟩ = some (.int .u64 (limb (fS b) 2 : Int)) ∧ w'.cell? ⟨bf, 13, none⟩ = some (.int .u64 (limb (fS b) 3 : Int)) ∧ w'.cell? ⟨bf + 1, 0, none⟩ = some (.int .u64 (limb (fP b) 0 : Int)) ∧ w'.cell? ⟨bf + 1, 1, none⟩ = some (.int .u64 (limb (fP b) 1 : Int)) ∧ w'.cell? ⟨bf + 1, 2, none⟩ = some (.int .u64 (limb (fP b) 2 : Int)) ∧ w'.cell? ⟨bf + 1, 3, none⟩ = some (.int .u64 (limb (fP b) 3 : Int)) ∧ w'.cell? ⟨bx, 0, none⟩ = some (.int .u64 (limb x 0 : Int)) ∧ w'.cell? ⟨bx, 1, none⟩ = some (.int .u64 (limb x 1 : Int)) ∧ w'.cell? ⟨bx, 2, none⟩ = some (.int .u64 (limb x 2 : Int)) ∧ w'.cell? ⟨bx, 3, none⟩ = some (.int .u64 (limb x 3 : Int))) ((first | (go_simp; done) | go_keep)) (first | (go_at_call 22; refine (SP.out v4 u2 _ Ncs4.out Nvs4.out).mono ?_; rintro e v5 ⟨rfl, b5⟩; have K5 : Below v4.heap.size v4 v5 := b5; have XF5 := XF4.keep K5; have XP5 := XP4.keep K5; have XX5 := XX4.keep K5; have f5_0 := XF5.cell (i := 0) rfl; have f5_1 := XF5.cell (i := 1) rfl; have f5_2 := XF5.cell (i := 2) rfl; have f5_3 := XF5.cell (i := 3) rfl; have f5_4 := XF5.cell (i := 4) rfl; have f5_5 := XF5.cell (i := 5) rfl; have f5_6 := XF5.cell (i := 6) rfl; have f5_7 := XF5.cell (i := 7) rfl; have f5_8 := XF5.cell (i := 8) rfl; have f5_9 := XF5.cell (i := 9) rfl; have f5_10 := XF5.cell (i := 10) rfl; have f5_11 := XF5.cell (i := 11) rfl; have f5_12 := XF5.cell (i := 12) rfl; have f5_13 := XF5.cell (i := 13) rfl; have p5_0 := XP5.cell (i := 0) rfl; have p5_1 := XP5.cell (i := 1) rfl; have p5_2 := XP5.cell (i := 2) rfl; have p5_3 := XP5.cell (i := 3) rfl; have x5_0 := XX5.cell (i := 0) rfl; have x5_1 := XX5.cell (i := 1) rfl; have x5_2 := XX5.cell (i := 2) rfl; have x5_3 := XX5.cell (i := 3) rfl; have zf5 := XF5.lt; have zp5 := XP5.lt; have zx5 := XX5.lt; have Nw5 := hid (Nw4.out.below K5); have Nvs5 := hid (Nvs4.out.below K5); have Ncs5 := hid (Ncs4.out.below K5); have Nsc5 := hid (Nsc4.out.below K5); have D5 := hid (Below.trans D4.out (K5.mono D4.out.size)); clear b5 K5) | (go_at_call 22; refine (SA.out v3 sc _ Nsc3.out Nw3.out).mono ?_; rintro e v4 ⟨rfl, b4⟩; have K4 : Below v3.heap.size v3 v4 := b4; have XF4 := XF3.keep K4; have XP4 := XP3.keep K4; have XX4 := XX3.keep K4; have f4_0 := XF4.cell (i := 0) rfl; have f4_1 := XF4.cell (i := 1) rfl; have f4_2 := XF4.cell (i := 2) rfl; have f4_3 := XF4.cell (i := 3) rfl; have f4_4 := XF4.cell (i := 4) rfl; have f4_5 := XF4.cell (i := 5) rfl; have f4_6 := XF4.cell (i := 6) rfl; have f4_7 := XF4.cell (i := 7) rfl; have f4_8 := XF4.cell (i := 8) rfl; have f4_9 := XF4.cell (i := 9) rfl; have f4_10 := XF4.cell (i := 10) rfl; have f4_11 := XF4.cell (i := 11) rfl; have f4_12 := XF4.cell (i := 12) rfl; have f4_13 := XF4.cell (i := 13) rfl; have p4_0 := XP4.cell (i := 0) rfl; have p4_1 := XP4.cell (i := 1) rfl; have p4_2 := XP4.cell (i := 2) rfl; have p4_3 := XP4.cell (i := 3) rfl; have x4_0 := XX4.cell (i := 0) rfl; have x4_1 := XX4.cell (i := 1) rfl; have x4_2 := XX4.cell (i := 2) rfl; have x4_3 := XX4.cell (i := 3) rfl; have zf4 := XF4.lt; have zp4 := XP4.lt; have zx4 := XX4.lt; have Nw4 := hid (Nw3.out.below K4); have Nvs4 := hid (Nvs3.out.below K4); have Ncs4 := hid (Ncs3.out.below K4); have Nsc4 := hid (Nsc3.out.below K4); have D4 := hid (Below.trans D3.out (K4.mono D3.out.size)); clear b4 K4) | (go_at_call 23; refine (SCC.out v2 Ncs2.out).mono ?_; rintro e v3 ⟨sc, rfl, hsc, b3⟩; have K3 : Below v2.heap.size v2 v3 := b3; have XF3 := XF2.keep K3; have XP3 := XP2.keep K3; have XX3 := XX2.keep K3; have f3_0 := XF3.cell (i := 0) rfl; have f3_1 := XF3.cell (i := 1) rfl; have f3_2 := XF3.cell (i := 2) rfl; have f3_3 := XF3.cell (i := 3) rfl; have f3_4 := XF3.cell (i := 4) rfl; have f3_5 := XF3.cell (i := 5) rfl; have f3_6 := XF3.cell (i := 6) rfl; have f3_7 := XF3.cell (i := 7) rfl; have f3_8 := XF3.cell (i := 8) rfl; have f3_9 := XF3.cell (i := 9) rfl; have f3_10 := XF3.cell (i := 10) rfl; have f3_11 := XF3.cell (i := 11) rfl; have f3_12 := XF3.cell (i := 12) rfl; have f3_13 := XF3.cell (i := 13) rfl; have p3_0 := XP3.cell (i := 0) rfl; have p3_1 := XP3.cell (i := 1) rfl; have p3_2 := XP3.cell (i := 2) rfl; have p3_3 := XP3.cell (i := 3) rfl; have x3_0 := XX3.cell (i := 0) rfl; have x3_1 := XX3.cell (i := 1) rfl; have x3_2 := XX3.cell (i := 2) rfl; have x3_3 := XX3.cell (i := 3) rfl; have zf3 := XF3.lt; have zp3 := XP3.lt; have zx3 := XX3.lt; have Nw3 := hid (Nw2.out.below K3); have Nvs3 := hid (Nvs2.out.below K3); have Ncs3 := hid (Ncs2.out.below K3); have Nsc3 := hid hsc; clear hsc; have D3 := hid (Below.trans D2.out (K3.mono D2.out.size)); clear b3 K3) | (go_at_call 14; refine (FX.out v1).mono ?_; rintro e v2 ⟨rfl, b2⟩; have K2 : Below v1.heap.size v1 v2 := b2; have XF2 := XF1.keep K2; have XP2 := XP1.keep K2; have XX2 := XX1.keep K2; have f2_0 := XF2.cell (i := 0) rfl; have f2_1 := XF2.cell (i := 1) rfl; have f2_2 := XF2.cell (i := 2) rfl; have f2_3 := XF2.cell (i := 3) rfl; have f2_4 := XF2.cell (i := 4) rfl; have f2_5 := XF2.cell (i := 5) rfl; have f2_6 := XF2.cell (i := 6) rfl; have f2_7 := XF2.cell (i := 7) rfl; have f2_8 := XF2.cell (i := 8) rfl; have f2_9 := XF2.cell (i := 9) rfl; have f2_10 := XF2.cell (i := 10) rfl; have f2_11 := XF2.cell (i := 11) rfl; have f2_12 := XF2.cell (i := 12) rfl; have f2_13 := XF2.cell (i := 13) rfl; have p2_0 := XP2.cell (i := 0) rfl; have p2_1 := XP2.cell (i := 1) rfl; have p2_2 := XP2.cell (i := 2) rfl; have p2_3 := XP2.cell (i := 3) rfl; have x2_0 := XX2.cell (i := 0) rfl; have x2_1 := XX2.cell (i := 1) rfl; have x2_2 := XX2.cell (i := 2) rfl; have x2_3 := XX2.cell (i := 3) rfl; have zf2 := XF2.lt; have zp2 := XP2.lt; have zx2 := XX2.lt; have Nw2 := hid (Nw1.out.below K2); have Nvs2 := hid (Nvs1.out.below K2); have Ncs2 := hid (Ncs1.out.below K2); have D2 := hid (Below.trans D1.out (K2.mono D1.out.size)); clear b2 K2) | (go_at_call 9; refine (alive_any wr.drew T9.out).mono ?_; rintro e v1 ⟨rfl, b1⟩; have K1 : Below wr.heap.size wr v1 := (Below.drew (Below.refl _ _)).trans b1; have XF1 := XF0.keep K1; have XP1 := XP0.keep K1; have XX1 := XX0.keep K1; have f1_0 := XF1.cell (i := 0) rfl; have f1_1 := XF1.cell (i := 1) rfl; have f1_2 := XF1.cell (i := 2) rfl; have f1_3 := XF1.cell (i := 3) rfl; have f1_4 := XF1.cell (i := 4) rfl; have f1_5 := XF1.cell (i := 5) rfl; have f1_6 := XF1.cell (i := 6) rfl; have f1_7 := XF1.cell (i := 7) rfl; have f1_8 := XF1.cell (i := 8) rfl; have f1_9 := XF1.cell (i := 9) rfl; have f1_10 := XF1.cell (i := 10) rfl; have f1_11 := XF1.cell (i := 11) rfl; have f1_12 := XF1.cell (i := 12) rfl; have f1_13 := XF1.cell (i := 13) rfl; have p1_0 := XP1.cell (i := 0) rfl; have p1_1 := XP1.cell (i := 1) rfl; have p1_2 := XP1.cell (i := 2) rfl; have p1_3 := XP1.cell (i := 3) rfl; have x1_0 := XX1.cell (i := 0) rfl; have x1_1 := XX1.cell (i := 1) rfl; have x1_2 := XX1.cell (i := 2) rfl; have x1_3 := XX1.cell (i := 3) rfl; have zf1 := XF1.lt; have zp1 := XP1.lt; have zx1 := XX1.lt; have Nw1 := hid (Nw0.out.below K1); have Nvs1 := hid (Nvs0.out.below K1); have Ncs1 := hid (Ncs0.out.below K1); have D1 := hid (Below.trans D0.out (K1.mono D0.out.size)); clear b1 K1))
      go_wp2
      go_ret
      exact ⟨rfl, B9.out.trans (D5.out.mono B9.out.size)⟩
end Go.Proofs.YtfaicnileghjiaaDoor
