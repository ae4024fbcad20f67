/-
  alive: the examples of the chapter.
-/
import Derived.Test.YtfaicnileghjiaaDoorVals08
import Derived.Test.YtfaicnileghjiaaDoorEval08
import Derived.Test.YtfaicnileghjiaaDoorPMul
import Derived.Test.YtfaicnileghjiaaDoorPolys
import Derived.Deep.RegionHeld3
namespace Go.Proofs.YtfaicnileghjiaaDoor
open Go.RowKit

theorem nums123 : nums [1, 2, 3] = [.int .u64 1, .int .u64 0, .int .u64 0, .int .u64 0, .int .u64 2, .int .u64 0, .int .u64 0, .int .u64 0, .int .u64 3, .int .u64 0, .int .u64 0, .int .u64 0] := by simp [nums, limbs_small]
theorem nums11 : nums [1, 1] = [.int .u64 1, .int .u64 0, .int .u64 0, .int .u64 0, .int .u64 1, .int .u64 0, .int .u64 0, .int .u64 0] := by simp [nums, limbs_small]
theorem nums121 : nums [1, 2, 1] = [.int .u64 1, .int .u64 0, .int .u64 0, .int .u64 0, .int .u64 2, .int .u64 0, .int .u64 0, .int .u64 0, .int .u64 1, .int .u64 0, .int .u64 0, .int .u64 0] := by simp [nums, limbs_small]
theorem nums323 : nums [32, 3] = [.int .u64 32, .int .u64 0, .int .u64 0, .int .u64 0, .int .u64 3, .int .u64 0, .int .u64 0, .int .u64 0] := by simp [nums, limbs_small]
theorem form10 (w : World) : Calls Tryd.prog 14 #[vec P2, .agg #[.int .u64 10, .int .u64 0, .int .u64 0, .int .u64 0]] w (Ret (vec (frm P2 10)) w) := by
  have h := lform_any P2 10 P2_lt (by decide) (by decide) w
  rw [vec_small (x := 10) (by decide)] at h
  exact h
theorem form321 (w : World) : Calls Tryd.prog 14 #[vec P2, .agg #[.int .u64 321, .int .u64 0, .int .u64 0, .int .u64 0]] w (Ret (vec (frm P2 321)) w) := by
  have h := lform_any P2 321 P2_lt (by decide) (by decide) w
  rw [vec_small (x := 321) (by decide)] at h
  exact h
theorem forms_lt {m : Nat} (vs : List Nat) (hm : 0 < m) : ∀ y ∈ vs.map (frm m), y < m := by
  intro y hy
  obtain ⟨v, _, rfl⟩ := List.mem_map.1 hy
  exact frm_lt v hm
theorem only_set4 (W : World) (c : Nat) (v0 v1 v2 v3 : Value) : Only (fun k => k = c) W ((((W.setCell ⟨c, 0, none⟩ v0).setCell ⟨c, 1, none⟩ v1).setCell ⟨c, 2, none⟩ v2).setCell ⟨c, 3, none⟩ v3) :=
  (((((Only.refl (fun k => k = c) W).setCell (p := ⟨c, 0, none⟩) (.inl rfl) v0).setCell (p := ⟨c, 1, none⟩) (.inl rfl) v1).setCell (p := ⟨c, 2, none⟩) (.inl rfl) v2).setCell (p := ⟨c, 3, none⟩) (.inl rfl) v3)
theorem below_set4 {n : Nat} {A W : World} (h : Below n A W) {c : Nat} (hc : n ≤ c) (v0 v1 v2 v3 : Value) : Below n A ((((W.setCell ⟨c, 0, none⟩ v0).setCell ⟨c, 1, none⟩ v1).setCell ⟨c, 2, none⟩ v2).setCell ⟨c, 3, none⟩ v3) :=
  ((((h.setCell (p := ⟨c, 0, none⟩) hc v0).setCell (p := ⟨c, 1, none⟩) hc v1).setCell (p := ⟨c, 2, none⟩) hc v2).setCell (p := ⟨c, 3, none⟩) hc v3)
set_option maxRecDepth 100000 in
set_option maxHeartbeats 2000000 in
theorem alive_any (w : World) (hT : Tab w) : Calls Tryd.prog 9 #[] w (Ret (.bool true) w) := by
  have hF : Hid (FieldOK P2 I2) := hid fieldOK_2
  have hy := fieldOK_2.2.2.2.1
  have HY := hid hy
  clear hy
  have G := hid (show Calls Tryd.prog 10 #[.bool true] w (Ret (.tuple #[fld 2 P2 I2 O2 S2, vec P2]) w) from lget_any true w hT)
  clear hT
  go_enter Tryd.func9, Tryd.ntmps9
  go_wp2_with fail
  refine G.out.mono ?_
  rintro e w1 ⟨rfl, b1⟩
  have B1 := hid b1
  have F1 : Blk ((w1.alloc (.cells #[.int .i64 2, .int .u64 (limb P2 0 : Int), .int .u64 (limb P2 1 : Int), .int .u64 (limb P2 2 : Int), .int .u64 (limb P2 3 : Int), .int .u64 (I2 : Int), .int .u64 (limb O2 0 : Int), .int .u64 (limb O2 1 : Int), .int .u64 (limb O2 2 : Int), .int .u64 (limb O2 3 : Int), .int .u64 (limb S2 0 : Int), .int .u64 (limb S2 1 : Int), .int .u64 (limb S2 2 : Int), .int .u64 (limb S2 3 : Int)] 28)).alloc (.cells #[.int .u64 (limb P2 0 : Int), .int .u64 (limb P2 1 : Int), .int .u64 (limb P2 2 : Int), .int .u64 (limb P2 3 : Int)] 24)) w1.heap.size 28 [.int .i64 2, .int .u64 (limb P2 0 : Int), .int .u64 (limb P2 1 : Int), .int .u64 (limb P2 2 : Int), .int .u64 (limb P2 3 : Int), .int .u64 (I2 : Int), .int .u64 (limb O2 0 : Int), .int .u64 (limb O2 1 : Int), .int .u64 (limb O2 2 : Int), .int .u64 (limb O2 3 : Int), .int .u64 (limb S2 0 : Int), .int .u64 (limb S2 1 : Int), .int .u64 (limb S2 2 : Int), .int .u64 (limb S2 3 : Int)] := Blk.alloc (Blk.new rfl) _
  have P1 : Blk ((w1.alloc (.cells #[.int .i64 2, .int .u64 (limb P2 0 : Int), .int .u64 (limb P2 1 : Int), .int .u64 (limb P2 2 : Int), .int .u64 (limb P2 3 : Int), .int .u64 (I2 : Int), .int .u64 (limb O2 0 : Int), .int .u64 (limb O2 1 : Int), .int .u64 (limb O2 2 : Int), .int .u64 (limb O2 3 : Int), .int .u64 (limb S2 0 : Int), .int .u64 (limb S2 1 : Int), .int .u64 (limb S2 2 : Int), .int .u64 (limb S2 3 : Int)] 28)).alloc (.cells #[.int .u64 (limb P2 0 : Int), .int .u64 (limb P2 1 : Int), .int .u64 (limb P2 2 : Int), .int .u64 (limb P2 3 : Int)] 24)) (w1.heap.size + 1) 24 [.int .u64 (limb P2 0 : Int), .int .u64 (limb P2 1 : Int), .int .u64 (limb P2 2 : Int), .int .u64 (limb P2 3 : Int)] := Blk.new (by simp)
  have G1 : Below w1.heap.size w1 ((w1.alloc (.cells #[.int .i64 2, .int .u64 (limb P2 0 : Int), .int .u64 (limb P2 1 : Int), .int .u64 (limb P2 2 : Int), .int .u64 (limb P2 3 : Int), .int .u64 (I2 : Int), .int .u64 (limb O2 0 : Int), .int .u64 (limb O2 1 : Int), .int .u64 (limb O2 2 : Int), .int .u64 (limb O2 3 : Int), .int .u64 (limb S2 0 : Int), .int .u64 (limb S2 1 : Int), .int .u64 (limb S2 2 : Int), .int .u64 (limb S2 3 : Int)] 28)).alloc (.cells #[.int .u64 (limb P2 0 : Int), .int .u64 (limb P2 1 : Int), .int .u64 (limb P2 2 : Int), .int .u64 (limb P2 3 : Int)] 24)) := by go_grown
  clear b1
  go_wp2_with fail
  have N3 : Blk (((w1.alloc (.cells #[.int .i64 2, .int .u64 (limb P2 0 : Int), .int .u64 (limb P2 1 : Int), .int .u64 (limb P2 2 : Int), .int .u64 (limb P2 3 : Int), .int .u64 (I2 : Int), .int .u64 (limb O2 0 : Int), .int .u64 (limb O2 1 : Int), .int .u64 (limb O2 2 : Int), .int .u64 (limb O2 3 : Int), .int .u64 (limb S2 0 : Int), .int .u64 (limb S2 1 : Int), .int .u64 (limb S2 2 : Int), .int .u64 (limb S2 3 : Int)] 28)).alloc (.cells #[.int .u64 (limb P2 0 : Int), .int .u64 (limb P2 1 : Int), .int .u64 (limb P2 2 : Int), .int .u64 (limb P2 3 : Int)] 24)).alloc (.cells #[.int .u64 1, .int .u64 0, .int .u64 0, .int .u64 0, .int .u64 2, .int .u64 0, .int .u64 0, .int .u64 0, .int .u64 3, .int .u64 0, .int .u64 0, .int .u64 0] 24)) (w1.heap.size + 1 + 1) 24 (nums [1, 2, 3]) := by rw [nums123]; exact Blk.new (by simp)
  refine (values_any P2 _ [1, 2, 3] _ P2_lt (by decide) (blk_nums N3 (by decide)) (by decide)).mono ?_
  rintro e w2 ⟨u1, u2, rfl, _, hc, b2⟩
  rw [vals3] at hc
  have NC2 := hid (nums_own (xs := [1, 2, 3].map (frm P2)) hc (fun x hx => by have := forms_lt (m := P2) _ (by decide) x hx; have := P2_lt; omega))
  have F2 := Blk.keep (F1.alloc (.cells #[.int .u64 1, .int .u64 0, .int .u64 0, .int .u64 0, .int .u64 2, .int .u64 0, .int .u64 0, .int .u64 0, .int .u64 3, .int .u64 0, .int .u64 0, .int .u64 0] 24)) b2
  have P2b := Blk.keep (P1.alloc (.cells #[.int .u64 1, .int .u64 0, .int .u64 0, .int .u64 0, .int .u64 2, .int .u64 0, .int .u64 0, .int .u64 0, .int .u64 3, .int .u64 0, .int .u64 0, .int .u64 0] 24)) b2
  have B2 := hid ((B1.out.trans (G1.mono B1.out.size)).trans ((((Below.refl _ _).alloc (Nat.le_refl _) (.cells #[.int .u64 1, .int .u64 0, .int .u64 0, .int .u64 0, .int .u64 2, .int .u64 0, .int .u64 0, .int .u64 0, .int .u64 3, .int .u64 0, .int .u64 0, .int .u64 0] 24)).trans (b2.mono (by simp))).mono (Below.size (B1.out.trans (G1.mono B1.out.size)))))
  obtain ⟨bf, hbf⟩ : ∃ b, w1.heap.size = b := ⟨_, rfl⟩
  rw [hbf] at F2 P2b ⊢
  clear N3 F1 P1 G1 hc b2 hbf
  have f0 := F2.cell (i := 0) rfl
  have f1 := F2.cell (i := 1) rfl
  have f2 := F2.cell (i := 2) rfl
  have f3 := F2.cell (i := 3) rfl
  have f4 := F2.cell (i := 4) rfl
  have f5 := F2.cell (i := 5) rfl
  have f6 := F2.cell (i := 6) rfl
  have f7 := F2.cell (i := 7) rfl
  have f8 := F2.cell (i := 8) rfl
  have f9 := F2.cell (i := 9) rfl
  have f10 := F2.cell (i := 10) rfl
  have f11 := F2.cell (i := 11) rfl
  have f12 := F2.cell (i := 12) rfl
  have f13 := F2.cell (i := 13) rfl
  have p0 := P2b.cell (i := 0) rfl
  have p1 := P2b.cell (i := 1) rfl
  have p2 := P2b.cell (i := 2) rfl
  have p3 := P2b.cell (i := 3) rfl
  have zf := F2.lt
  have zp := P2b.lt
  go_wp2_with fail
  have N2 : Blk (w2.alloc (.cells #[.int .u64 1, .int .u64 0, .int .u64 0, .int .u64 0, .int .u64 1, .int .u64 0, .int .u64 0, .int .u64 0] 24)) w2.heap.size 24 (nums [1, 1]) := by rw [nums11]; exact Blk.new rfl
  refine (values_any P2 _ [1, 1] _ P2_lt (by decide) (blk_nums N2 (by decide)) (by decide)).mono ?_
  rintro e w3 ⟨u3, u4, rfl, _, ha, b3⟩
  rw [vals2] at ha
  have NA3 := hid (nums_own (xs := [1, 1].map (frm P2)) ha (fun x hx => by have := forms_lt (m := P2) _ (by decide) x hx; have := P2_lt; omega))
  have Gb := ((Below.refl w2.heap.size w2).alloc (Nat.le_refl _) (.cells #[.int .u64 1, .int .u64 0, .int .u64 0, .int .u64 0, .int .u64 1, .int .u64 0, .int .u64 0, .int .u64 0] 24)).trans (b3.mono (by simp))
  have F3 := F2.keep Gb
  have P3 := P2b.keep Gb
  have NC3 := hid (NC2.out.below Gb)
  have B3 := hid (B2.out.trans (Gb.mono B2.out.size))
  obtain ⟨aa, ca, rfl, _, _, _⟩ := owns_form ha
  have NA3' : NumSl w3 (.slice aa (1 + 1) ca) ([1, 1].map (frm P2)) := NA3.out
  have NA := hid NA3'
  clear N2 ha b3 Gb F2 P2b f0 f1 f2 f3 f4 f5 f6 f7 f8 f9 f10 f11 f12 f13 p0 p1 p2 p3 zf zp NA3'
  have f0 := F3.cell (i := 0) rfl
  have f1 := F3.cell (i := 1) rfl
  have f2 := F3.cell (i := 2) rfl
  have f3 := F3.cell (i := 3) rfl
  have f4 := F3.cell (i := 4) rfl
  have f5 := F3.cell (i := 5) rfl
  have f6 := F3.cell (i := 6) rfl
  have f7 := F3.cell (i := 7) rfl
  have f8 := F3.cell (i := 8) rfl
  have f9 := F3.cell (i := 9) rfl
  have f10 := F3.cell (i := 10) rfl
  have f11 := F3.cell (i := 11) rfl
  have f12 := F3.cell (i := 12) rfl
  have f13 := F3.cell (i := 13) rfl
  have p0 := P3.cell (i := 0) rfl
  have p1 := P3.cell (i := 1) rfl
  have p2 := P3.cell (i := 2) rfl
  have p3 := P3.cell (i := 3) rfl
  have zf := F3.lt
  have zp := P3.lt
  go_wp2_with fail
  refine (pmul_pos 2 P2 I2 O2 S2 1 1 ca ca aa aa ([1, 1].map (frm P2)) ([1, 1].map (frm P2)) _ hF NA.out NA.out (hid (forms_lt _ (by decide))) (hid (forms_lt _ (by decide))) rfl rfl (by decide) (by decide)).mono ?_
  rintro e w4 ⟨vm, rfl, hm, b4⟩
  rw [pmul_forms HY.out, prod121] at hm
  have NM4 := hid (nums_own (xs := [1, 2, 1].map (frm P2)) hm (fun x hx => by have := forms_lt (m := P2) _ (by decide) x hx; have := P2_lt; omega))
  have F4 := F3.keep b4
  have P4 := P3.keep b4
  have NC4 := hid (NC3.out.below b4)
  have B4 := hid (B3.out.trans (b4.mono B3.out.size))
  clear hm b4 F3 P3 f0 f1 f2 f3 f4 f5 f6 f7 f8 f9 f10 f11 f12 f13 p0 p1 p2 p3 zf zp
  have f0 := F4.cell (i := 0) rfl
  have f1 := F4.cell (i := 1) rfl
  have f2 := F4.cell (i := 2) rfl
  have f3 := F4.cell (i := 3) rfl
  have f4 := F4.cell (i := 4) rfl
  have f5 := F4.cell (i := 5) rfl
  have f6 := F4.cell (i := 6) rfl
  have f7 := F4.cell (i := 7) rfl
  have f8 := F4.cell (i := 8) rfl
  have f9 := F4.cell (i := 9) rfl
  have f10 := F4.cell (i := 10) rfl
  have f11 := F4.cell (i := 11) rfl
  have f12 := F4.cell (i := 12) rfl
  have f13 := F4.cell (i := 13) rfl
  have p0 := P4.cell (i := 0) rfl
  have p1 := P4.cell (i := 1) rfl
  have p2 := P4.cell (i := 2) rfl
  have p3 := P4.cell (i := 3) rfl
  have zf := F4.lt
  have zp := P4.lt
  have QC := hid (show ∀ W, NumSl W u2 ([1, 2, 3].map (frm P2)) → Calls Tryd.prog 16 #[.pointer none, fld 2 P2 I2 O2 S2, u2, vec (frm P2 10)] W (fun e w' => ∃ q, e = .returned (.tuple #[q, vec (frm P2 321)]) ∧ w'.ownsRow W.heap.size 26 4 q 2 (nums ([32, 3].map (frm P2))) ∧ Below W.heap.size W w') from fun W hS => by
    have h := quotient_any 2 P2 I2 O2 S2 (frm P2 10) u2 ([1, 2, 3].map (frm P2)) W hF (hid (frm_lt _ (by decide))) hS (forms_lt _ (by decide)) (by decide)
    unfold RetQuo at h
    rw [horP_forms HY.out, ev321, quo_forms HY.out, quo323] at h
    exact h)
  have EVC := fun (W : World) (hS : NumSl W u2 ([1, 2, 3].map (frm P2))) => eval_any 2 P2 I2 O2 S2 (frm P2 10) u2 ([1, 2, 3].map (frm P2)) W hF (hid (frm_lt _ (by decide))) hS (forms_lt _ (by decide)) (by decide)
  rw [horP_forms HY.out, ev321] at EVC
  have EVC := hid EVC
  go_wp2
  go_region_held3 (fun w' => w'.cell? ⟨bf, 0, none⟩ = some (.int .i64 2) ∧ w'.cell? ⟨bf, 1, none⟩ = some (.int .u64 (limb P2 0 : Int)) ∧ w'.cell? ⟨bf, 2, none⟩ = some (.int .u64 (limb P2 1 : Int)) ∧ w'.cell? ⟨bf, 3, none⟩ = some (.int .u64 (limb P2 2 : Int)) ∧ w'.cell? ⟨bf, 4, none⟩ = some (.int .u64 (limb P2 3 : Int)) ∧ w'.cell? ⟨bf, 5, none⟩ = some (.int .u64 (I2 : Int)) ∧ w'.cell? ⟨bf, 6, none⟩ = some (.int .u64 (limb O2 0 : Int)) ∧ w'.cell? ⟨bf, 7, none⟩ = some (.int .u64 (limb O2 1 : Int)) ∧ w'.cell? ⟨bf, 8, none⟩ = some (.int .u64 (limb O2 2 : Int)) ∧ w'.cell? ⟨bf, 9, none⟩ = some (.int .u64 (limb O2 3 : Int)) ∧ w'.cell? ⟨bf, 10, none⟩ = some (.int .u64 (limb S2 0 : Int)) ∧ w'.cell? ⟨bf, 11, none⟩ = some (.int .u64 (limb S2 1 : Int)) ∧ w'.cell? ⟨bf, 12, none⟩ = some (.int .u64 (limb S2 2 : Int)) ∧ w'.cell? ⟨bf, 13, none⟩ = some (.int .u64 (limb S2 3 : Int)) ∧ w'.cell? ⟨bf + 1, 0, none⟩ = some (.int .u64 (limb P2 0 : Int)) ∧ w'.cell? ⟨bf + 1, 1, none⟩ = some (.int .u64 (limb P2 1 : Int)) ∧ w'.cell? ⟨bf + 1, 2, none⟩ = some (.int .u64 (limb P2 2 : Int)) ∧ w'.cell? ⟨bf + 1, 3, none⟩ = some (.int .u64 (limb P2 3 : Int))) ((first | (go_simp; done) | go_keep)) (first | (go_at_call 14; refine (form10 _).mono ?_; rintro e w5 ⟨rfl, b5⟩; have F5 : Blk w5 bf 28 [.int .i64 2, .int .u64 (limb P2 0 : Int), .int .u64 (limb P2 1 : Int), .int .u64 (limb P2 2 : Int), .int .u64 (limb P2 3 : Int), .int .u64 (I2 : Int), .int .u64 (limb O2 0 : Int), .int .u64 (limb O2 1 : Int), .int .u64 (limb O2 2 : Int), .int .u64 (limb O2 3 : Int), .int .u64 (limb S2 0 : Int), .int .u64 (limb S2 1 : Int), .int .u64 (limb S2 2 : Int), .int .u64 (limb S2 3 : Int)] := (by first | exact Blk.keep F4.drew b5 | exact Blk.keep (Blk.alloc F4.drew _) b5 | exact Blk.keep (Blk.drew (Blk.alloc F4 _)) b5); have P5 : Blk w5 (bf + 1) 24 [.int .u64 (limb P2 0 : Int), .int .u64 (limb P2 1 : Int), .int .u64 (limb P2 2 : Int), .int .u64 (limb P2 3 : Int)] := (by first | exact Blk.keep P4.drew b5 | exact Blk.keep (Blk.alloc P4.drew _) b5 | exact Blk.keep (Blk.drew (Blk.alloc P4 _)) b5); have G5 : Below w4.heap.size w4 w5 := (by first | exact (Below.drew (Below.refl _ w4)).trans b5 | exact ((Below.drew (Below.refl _ w4)).alloc (Nat.le_refl _) _).trans (b5.mono (by simp)) | exact (Below.drew ((Below.refl _ w4).alloc (Nat.le_refl _) _)).trans (b5.mono (by simp))); have NC5 := hid (NC4.out.below G5); have NM5 := hid (NM4.out.below G5); have B5 := hid (B4.out.trans (G5.mono B4.out.size)); (try (have Z5 : Blk w5 w4.heap.size 26 [.int .u64 0, .int .u64 0, .int .u64 0, .int .u64 0] := (by first | exact Blk.keep (Blk.drew (Blk.new rfl)) b5 | exact Blk.keep (Blk.new rfl) b5); have Zlt := Z5.lt)); have g0 := F5.cell (i := 0) rfl; have g1 := F5.cell (i := 1) rfl; have g2 := F5.cell (i := 2) rfl; have g3 := F5.cell (i := 3) rfl; have g4 := F5.cell (i := 4) rfl; have g5 := F5.cell (i := 5) rfl; have g6 := F5.cell (i := 6) rfl; have g7 := F5.cell (i := 7) rfl; have g8 := F5.cell (i := 8) rfl; have g9 := F5.cell (i := 9) rfl; have g10 := F5.cell (i := 10) rfl; have g11 := F5.cell (i := 11) rfl; have g12 := F5.cell (i := 12) rfl; have g13 := F5.cell (i := 13) rfl; have q0 := P5.cell (i := 0) rfl; have q1 := P5.cell (i := 1) rfl; have q2 := P5.cell (i := 2) rfl; have q3 := P5.cell (i := 3) rfl; have zf5 := F5.lt; have zp5 := P5.lt; have G5h := hid G5; clear b5 G5) | (go_at_call 16; (first | refine (QC.out _ NC5.out).mono ?_ | refine (QC.out _ (NC5.out.below ((Below.refl _ w5).alloc (Nat.le_refl _) _))).mono ?_); rintro e w6 ⟨vq, rfl, hq, b6⟩; have G6 : Below w5.heap.size w5 w6 := (by first | exact b6 | exact ((Below.refl _ w5).alloc (Nat.le_refl _) _).trans (b6.mono (by simp))); have F6 := F5.keep G6; have P6 := P5.keep G6; have NC6 := hid (NC5.out.below G6); have NM6 := hid (NM5.out.below G6); have B6 := hid (B5.out.trans (G6.mono B5.out.size)); (try (have Z6 : Blk w6 w4.heap.size 26 [.int .u64 0, .int .u64 0, .int .u64 0, .int .u64 0] := Z5.keep G6)); (try (have Z6 : Blk w6 w5.heap.size 26 [.int .u64 0, .int .u64 0, .int .u64 0, .int .u64 0] := Blk.keep (Blk.new rfl) b6)); have gg0 := F6.cell (i := 0) rfl; have gg1 := F6.cell (i := 1) rfl; have gg2 := F6.cell (i := 2) rfl; have gg3 := F6.cell (i := 3) rfl; have gg4 := F6.cell (i := 4) rfl; have gg5 := F6.cell (i := 5) rfl; have gg6 := F6.cell (i := 6) rfl; have gg7 := F6.cell (i := 7) rfl; have gg8 := F6.cell (i := 8) rfl; have gg9 := F6.cell (i := 9) rfl; have gg10 := F6.cell (i := 10) rfl; have gg11 := F6.cell (i := 11) rfl; have gg12 := F6.cell (i := 12) rfl; have gg13 := F6.cell (i := 13) rfl; have qq0 := P6.cell (i := 0) rfl; have qq1 := P6.cell (i := 1) rfl; have qq2 := P6.cell (i := 2) rfl; have qq3 := P6.cell (i := 3) rfl; have zf6 := F6.lt; have zp6 := P6.lt; (try (have z0 := Z6.cell (i := 0) rfl; have zz0 := Z6.frozen 0; have z1 := Z6.cell (i := 1) rfl; have zz1 := Z6.frozen 1; have z2 := Z6.cell (i := 2) rfl; have zz2 := Z6.frozen 2; have z3 := Z6.cell (i := 3) rfl; have zz3 := Z6.frozen 3; have zzl := Z6.lt)); have HQ := hid hq; have G6h := hid G6; clear b6 hq G6))
  · obtain ⟨v0, hv⟩ : ∃ v, w6.alloc (.cells #[.int .u64 (limb (frm P2 321) 0 : Int), .int .u64 (limb (frm P2 321) 1 : Int), .int .u64 (limb (frm P2 321) 2 : Int), .int .u64 (limb (frm P2 321) 3 : Int)] 26) = v := ⟨_, rfl⟩
    have F0 : Blk v0 bf 28 [.int .i64 2, .int .u64 (limb P2 0 : Int), .int .u64 (limb P2 1 : Int), .int .u64 (limb P2 2 : Int), .int .u64 (limb P2 3 : Int), .int .u64 (I2 : Int), .int .u64 (limb O2 0 : Int), .int .u64 (limb O2 1 : Int), .int .u64 (limb O2 2 : Int), .int .u64 (limb O2 3 : Int), .int .u64 (limb S2 0 : Int), .int .u64 (limb S2 1 : Int), .int .u64 (limb S2 2 : Int), .int .u64 (limb S2 3 : Int)] := by rw [← hv]; exact F6.alloc _
    have P0 : Blk v0 (bf + 1) 24 [.int .u64 (limb P2 0 : Int), .int .u64 (limb P2 1 : Int), .int .u64 (limb P2 2 : Int), .int .u64 (limb P2 3 : Int)] := by rw [← hv]; exact P6.alloc _
    have R0 : Blk v0 w6.heap.size 26 [.int .u64 (limb (frm P2 321) 0 : Int), .int .u64 (limb (frm P2 321) 1 : Int), .int .u64 (limb (frm P2 321) 2 : Int), .int .u64 (limb (frm P2 321) 3 : Int)] := by rw [← hv]; exact Blk.new rfl
    have GA : Below w6.heap.size w6 v0 := by rw [← hv]; exact (Below.refl _ _).alloc (Nat.le_refl _) _
    have NC := hid (NC6.out.below GA)
    have NM := hid (NM6.out.below GA)
    have HQ2 := HQ.out.alloc (.cells #[.int .u64 (limb (frm P2 321) 0 : Int), .int .u64 (limb (frm P2 321) 1 : Int), .int .u64 (limb (frm P2 321) 2 : Int), .int .u64 (limb (frm P2 321) 3 : Int)] 26)
    rw [hv] at HQ2
    have NQ := hid (nums_own (xs := [32, 3].map (frm P2)) HQ2 (fun x hx => by have := forms_lt (m := P2) _ (by decide) x hx; have := P2_lt; omega))
    have B0 := hid (B6.out.trans (GA.mono B6.out.size))
    clear GA
    rw [hv]
    clear hv
    obtain ⟨br, hbr⟩ : ∃ b, w6.heap.size = b := ⟨_, rfl⟩
    rw [hbr] at R0 ⊢
    clear hbr
    have f0_0 := F0.cell (i := 0) rfl
    have f0_1 := F0.cell (i := 1) rfl
    have f0_2 := F0.cell (i := 2) rfl
    have f0_3 := F0.cell (i := 3) rfl
    have f0_4 := F0.cell (i := 4) rfl
    have f0_5 := F0.cell (i := 5) rfl
    have f0_6 := F0.cell (i := 6) rfl
    have f0_7 := F0.cell (i := 7) rfl
    have f0_8 := F0.cell (i := 8) rfl
    have f0_9 := F0.cell (i := 9) rfl
    have f0_10 := F0.cell (i := 10) rfl
    have f0_11 := F0.cell (i := 11) rfl
    have f0_12 := F0.cell (i := 12) rfl
    have f0_13 := F0.cell (i := 13) rfl
    have p0_0 := P0.cell (i := 0) rfl
    have p0_1 := P0.cell (i := 1) rfl
    have p0_2 := P0.cell (i := 2) rfl
    have p0_3 := P0.cell (i := 3) rfl
    have r0_0 := R0.cell (i := 0) rfl
    have r0_1 := R0.cell (i := 1) rfl
    have r0_2 := R0.cell (i := 2) rfl
    have r0_3 := R0.cell (i := 3) rfl
    have zf0 := F0.lt
    have zp0 := P0.lt
    have zr0 := R0.lt
    clear F4 P4 F5 P5 F6 P6 NC4 NM4 NC5 NM5 NC6 NM6 B4 B5 B6 G5h G6h HQ QC
    have heq := fun W : World => eq_same_el (limb (frm P2 321) 0 : Int) (limb (frm P2 321) 1 : Int) (limb (frm P2 321) 2 : Int) (limb (frm P2 321) 3 : Int) W
    have XF0 := F0
    have XP0 := P0
    have XR0 := R0
    clear F0 P0 R0
    have D0 := hid (Below.refl v0.heap.size v0)
    go_wp2
    go_region_held3 (fun w' => w'.cell? ⟨bf, 0, none⟩ = some (.int .i64 2) ∧ w'.cell? ⟨bf, 1, none⟩ = some (.int .u64 (limb P2 0 : Int)) ∧ w'.cell? ⟨bf, 2, none⟩ = some (.int .u64 (limb P2 1 : Int)) ∧ w'.cell? ⟨bf, 3, none⟩ = some (.int .u64 (limb P2 2 : Int)) ∧ w'.cell? ⟨bf, 4, none⟩ = some (.int .u64 (limb P2 3 : Int)) ∧ w'.cell? ⟨bf, 5, none⟩ = some (.int .u64 (I2 : Int)) ∧ w'.cell? ⟨bf, 6, none⟩ = some (.int .u64 (limb O2 0 : Int)) ∧ w'.cell? ⟨bf, 7, none⟩ = some (.int .u64 (limb O2 1 : Int)) ∧ w'.cell? ⟨bf, 8, none⟩ = some (.int .u64 (limb O2 2 : Int)) ∧ w'.cell? ⟨bf, 9, none⟩ = some (.int .u64 (limb O2 3 : Int)) ∧ w'.cell? ⟨bf, 10, none⟩ = some (.int .u64 (limb S2 0 : Int)) ∧ w'.cell? ⟨bf, 11, none⟩ = some (.int .u64 (limb S2 1 : Int)) ∧ w'.cell? ⟨bf, 12, none⟩ = some (.int .u64 (limb S2 2 : Int)) ∧ w'.cell? ⟨bf, 13, none⟩ = some (.int .u64 (limb S2 3 : Int)) ∧ w'.cell? ⟨bf + 1, 0, none⟩ = some (.int .u64 (limb P2 0 : Int)) ∧ w'.cell? ⟨bf + 1, 1, none⟩ = some (.int .u64 (limb P2 1 : Int)) ∧ w'.cell? ⟨bf + 1, 2, none⟩ = some (.int .u64 (limb P2 2 : Int)) ∧ w'.cell? ⟨bf + 1, 3, none⟩ = some (.int .u64 (limb P2 3 : Int)) ∧ w'.cell? ⟨br, 0, none⟩ = some (.int .u64 (limb (frm P2 321) 0 : Int)) ∧ w'.cell? ⟨br, 1, none⟩ = some (.int .u64 (limb (frm P2 321) 1 : Int)) ∧ w'.cell? ⟨br, 2, none⟩ = some (.int .u64 (limb (frm P2 321) 2 : Int)) ∧ w'.cell? ⟨br, 3, none⟩ = some (.int .u64 (limb (frm P2 321) 3 : Int))) ((first | (go_simp; done) | go_keep)) (first | (go_at_call 14; refine (form321 v5).mono ?_; rintro e v6 ⟨rfl, b6⟩; have XF6 := Blk.keep XF5 b6; have XP6 := Blk.keep XP5 b6; have XR6 := Blk.keep XR5 b6; have f6_0 := XF6.cell (i := 0) rfl; have f6_1 := XF6.cell (i := 1) rfl; have f6_2 := XF6.cell (i := 2) rfl; have f6_3 := XF6.cell (i := 3) rfl; have f6_4 := XF6.cell (i := 4) rfl; have f6_5 := XF6.cell (i := 5) rfl; have f6_6 := XF6.cell (i := 6) rfl; have f6_7 := XF6.cell (i := 7) rfl; have f6_8 := XF6.cell (i := 8) rfl; have f6_9 := XF6.cell (i := 9) rfl; have f6_10 := XF6.cell (i := 10) rfl; have f6_11 := XF6.cell (i := 11) rfl; have f6_12 := XF6.cell (i := 12) rfl; have f6_13 := XF6.cell (i := 13) rfl; have p6_0 := XP6.cell (i := 0) rfl; have p6_1 := XP6.cell (i := 1) rfl; have p6_2 := XP6.cell (i := 2) rfl; have p6_3 := XP6.cell (i := 3) rfl; have r6_0 := XR6.cell (i := 0) rfl; have r6_1 := XR6.cell (i := 1) rfl; have r6_2 := XR6.cell (i := 2) rfl; have r6_3 := XR6.cell (i := 3) rfl; have D6 := hid (Below.trans D5.out (b6.mono (Below.size D5.out))); have zf6 := XF6.lt; have zp6 := XP6.lt; have zr6 := XR6.lt; clear b6) | (go_at_call 22; refine (same_any P2 _ _ [32, 3] (v4.alloc (.cells #[.int .u64 32, .int .u64 0, .int .u64 0, .int .u64 0, .int .u64 3, .int .u64 0, .int .u64 0, .int .u64 0] 24)) P2_lt (by decide) ((NQ.out.below D4.out).below ((Below.refl _ v4).alloc (Nat.le_refl _) _)) (blk_nums (t := 24) (by rw [nums323]; exact Blk.new rfl) (by decide)) (by decide)).mono ?_; rintro e v5 ⟨rfl, b5⟩; have XF5 := Blk.keep (Blk.alloc XF4 (.cells #[.int .u64 32, .int .u64 0, .int .u64 0, .int .u64 0, .int .u64 3, .int .u64 0, .int .u64 0, .int .u64 0] 24)) b5; have XP5 := Blk.keep (Blk.alloc XP4 (.cells #[.int .u64 32, .int .u64 0, .int .u64 0, .int .u64 0, .int .u64 3, .int .u64 0, .int .u64 0, .int .u64 0] 24)) b5; have XR5 := Blk.keep (Blk.alloc XR4 (.cells #[.int .u64 32, .int .u64 0, .int .u64 0, .int .u64 0, .int .u64 3, .int .u64 0, .int .u64 0, .int .u64 0] 24)) b5; have f5_0 := XF5.cell (i := 0) rfl; have f5_1 := XF5.cell (i := 1) rfl; have f5_2 := XF5.cell (i := 2) rfl; have f5_3 := XF5.cell (i := 3) rfl; have f5_4 := XF5.cell (i := 4) rfl; have f5_5 := XF5.cell (i := 5) rfl; have f5_6 := XF5.cell (i := 6) rfl; have f5_7 := XF5.cell (i := 7) rfl; have f5_8 := XF5.cell (i := 8) rfl; have f5_9 := XF5.cell (i := 9) rfl; have f5_10 := XF5.cell (i := 10) rfl; have f5_11 := XF5.cell (i := 11) rfl; have f5_12 := XF5.cell (i := 12) rfl; have f5_13 := XF5.cell (i := 13) rfl; have p5_0 := XP5.cell (i := 0) rfl; have p5_1 := XP5.cell (i := 1) rfl; have p5_2 := XP5.cell (i := 2) rfl; have p5_3 := XP5.cell (i := 3) rfl; have r5_0 := XR5.cell (i := 0) rfl; have r5_1 := XR5.cell (i := 1) rfl; have r5_2 := XR5.cell (i := 2) rfl; have r5_3 := XR5.cell (i := 3) rfl; have D5 := hid (Below.trans (Below.alloc D4.out D4.out.size (.cells #[.int .u64 32, .int .u64 0, .int .u64 0, .int .u64 0, .int .u64 3, .int .u64 0, .int .u64 0, .int .u64 0] 24)) (b5.mono (Below.size (Below.alloc D4.out D4.out.size (.cells #[.int .u64 32, .int .u64 0, .int .u64 0, .int .u64 0, .int .u64 3, .int .u64 0, .int .u64 0, .int .u64 0] 24))))); have zf5 := XF5.lt; have zp5 := XP5.lt; have zr5 := XR5.lt; clear b5) | (go_at_call 14; refine (form321 v2).mono ?_; rintro e v3 ⟨rfl, b3⟩; have XF3 := Blk.keep XF2 b3; have XP3 := Blk.keep XP2 b3; have XR3 := Blk.keep XR2 b3; have f3_0 := XF3.cell (i := 0) rfl; have f3_1 := XF3.cell (i := 1) rfl; have f3_2 := XF3.cell (i := 2) rfl; have f3_3 := XF3.cell (i := 3) rfl; have f3_4 := XF3.cell (i := 4) rfl; have f3_5 := XF3.cell (i := 5) rfl; have f3_6 := XF3.cell (i := 6) rfl; have f3_7 := XF3.cell (i := 7) rfl; have f3_8 := XF3.cell (i := 8) rfl; have f3_9 := XF3.cell (i := 9) rfl; have f3_10 := XF3.cell (i := 10) rfl; have f3_11 := XF3.cell (i := 11) rfl; have f3_12 := XF3.cell (i := 12) rfl; have f3_13 := XF3.cell (i := 13) rfl; have p3_0 := XP3.cell (i := 0) rfl; have p3_1 := XP3.cell (i := 1) rfl; have p3_2 := XP3.cell (i := 2) rfl; have p3_3 := XP3.cell (i := 3) rfl; have r3_0 := XR3.cell (i := 0) rfl; have r3_1 := XR3.cell (i := 1) rfl; have r3_2 := XR3.cell (i := 2) rfl; have r3_3 := XR3.cell (i := 3) rfl; have D3 := hid (Below.trans D2.out (b3.mono (Below.size D2.out))); have zf3 := XF3.lt; have zp3 := XP3.lt; have zr3 := XR3.lt; clear b3) | (go_at_call 13; refine (EVC.out v1 (NC.out.below D1.out)).mono ?_; rintro e v2 ⟨rfl, b2⟩; have XF2 := Blk.keep XF1 b2; have XP2 := Blk.keep XP1 b2; have XR2 := Blk.keep XR1 b2; have f2_0 := XF2.cell (i := 0) rfl; have f2_1 := XF2.cell (i := 1) rfl; have f2_2 := XF2.cell (i := 2) rfl; have f2_3 := XF2.cell (i := 3) rfl; have f2_4 := XF2.cell (i := 4) rfl; have f2_5 := XF2.cell (i := 5) rfl; have f2_6 := XF2.cell (i := 6) rfl; have f2_7 := XF2.cell (i := 7) rfl; have f2_8 := XF2.cell (i := 8) rfl; have f2_9 := XF2.cell (i := 9) rfl; have f2_10 := XF2.cell (i := 10) rfl; have f2_11 := XF2.cell (i := 11) rfl; have f2_12 := XF2.cell (i := 12) rfl; have f2_13 := XF2.cell (i := 13) rfl; have p2_0 := XP2.cell (i := 0) rfl; have p2_1 := XP2.cell (i := 1) rfl; have p2_2 := XP2.cell (i := 2) rfl; have p2_3 := XP2.cell (i := 3) rfl; have r2_0 := XR2.cell (i := 0) rfl; have r2_1 := XR2.cell (i := 1) rfl; have r2_2 := XR2.cell (i := 2) rfl; have r2_3 := XR2.cell (i := 3) rfl; have D2 := hid (Below.trans D1.out (b2.mono (Below.size D1.out))); have zf2 := XF2.lt; have zp2 := XP2.lt; have zr2 := XR2.lt; clear b2) | (go_at_call 14; refine (form10 v0.drew).mono ?_; rintro e v1 ⟨rfl, b1⟩; have XF1 := Blk.keep (Blk.drew XF0) b1; have XP1 := Blk.keep (Blk.drew XP0) b1; have XR1 := Blk.keep (Blk.drew XR0) b1; have f1_0 := XF1.cell (i := 0) rfl; have f1_1 := XF1.cell (i := 1) rfl; have f1_2 := XF1.cell (i := 2) rfl; have f1_3 := XF1.cell (i := 3) rfl; have f1_4 := XF1.cell (i := 4) rfl; have f1_5 := XF1.cell (i := 5) rfl; have f1_6 := XF1.cell (i := 6) rfl; have f1_7 := XF1.cell (i := 7) rfl; have f1_8 := XF1.cell (i := 8) rfl; have f1_9 := XF1.cell (i := 9) rfl; have f1_10 := XF1.cell (i := 10) rfl; have f1_11 := XF1.cell (i := 11) rfl; have f1_12 := XF1.cell (i := 12) rfl; have f1_13 := XF1.cell (i := 13) rfl; have p1_0 := XP1.cell (i := 0) rfl; have p1_1 := XP1.cell (i := 1) rfl; have p1_2 := XP1.cell (i := 2) rfl; have p1_3 := XP1.cell (i := 3) rfl; have r1_0 := XR1.cell (i := 0) rfl; have r1_1 := XR1.cell (i := 1) rfl; have r1_2 := XR1.cell (i := 2) rfl; have r1_3 := XR1.cell (i := 3) rfl; have D1 := hid (Below.trans (Below.drew D0.out) (b1.mono (Below.size (Below.drew D0.out)))); have zf1 := XF1.lt; have zp1 := XP1.lt; have zr1 := XR1.lt; clear b1) | (go_at_call 22; refine (same_any P2 _ _ [1, 2, 1] (v3.alloc (.cells #[.int .u64 1, .int .u64 0, .int .u64 0, .int .u64 0, .int .u64 2, .int .u64 0, .int .u64 0, .int .u64 0, .int .u64 1, .int .u64 0, .int .u64 0, .int .u64 0] 24)) P2_lt (by decide) ((NM.out.below D3.out).below ((Below.refl _ v3).alloc (Nat.le_refl _) _)) (blk_nums (t := 24) (by rw [nums121]; exact Blk.new rfl) (by decide)) (by decide)).mono ?_; rintro e v4 ⟨rfl, b4⟩; have XF4 := Blk.keep (Blk.alloc XF3 (.cells #[.int .u64 1, .int .u64 0, .int .u64 0, .int .u64 0, .int .u64 2, .int .u64 0, .int .u64 0, .int .u64 0, .int .u64 1, .int .u64 0, .int .u64 0, .int .u64 0] 24)) b4; have XP4 := Blk.keep (Blk.alloc XP3 (.cells #[.int .u64 1, .int .u64 0, .int .u64 0, .int .u64 0, .int .u64 2, .int .u64 0, .int .u64 0, .int .u64 0, .int .u64 1, .int .u64 0, .int .u64 0, .int .u64 0] 24)) b4; have XR4 := Blk.keep (Blk.alloc XR3 (.cells #[.int .u64 1, .int .u64 0, .int .u64 0, .int .u64 0, .int .u64 2, .int .u64 0, .int .u64 0, .int .u64 0, .int .u64 1, .int .u64 0, .int .u64 0, .int .u64 0] 24)) b4; have f4_0 := XF4.cell (i := 0) rfl; have f4_1 := XF4.cell (i := 1) rfl; have f4_2 := XF4.cell (i := 2) rfl; have f4_3 := XF4.cell (i := 3) rfl; have f4_4 := XF4.cell (i := 4) rfl; have f4_5 := XF4.cell (i := 5) rfl; have f4_6 := XF4.cell (i := 6) rfl; have f4_7 := XF4.cell (i := 7) rfl; have f4_8 := XF4.cell (i := 8) rfl; have f4_9 := XF4.cell (i := 9) rfl; have f4_10 := XF4.cell (i := 10) rfl; have f4_11 := XF4.cell (i := 11) rfl; have f4_12 := XF4.cell (i := 12) rfl; have f4_13 := XF4.cell (i := 13) rfl; have p4_0 := XP4.cell (i := 0) rfl; have p4_1 := XP4.cell (i := 1) rfl; have p4_2 := XP4.cell (i := 2) rfl; have p4_3 := XP4.cell (i := 3) rfl; have r4_0 := XR4.cell (i := 0) rfl; have r4_1 := XR4.cell (i := 1) rfl; have r4_2 := XR4.cell (i := 2) rfl; have r4_3 := XR4.cell (i := 3) rfl; have D4 := hid (Below.trans (Below.alloc D3.out D3.out.size (.cells #[.int .u64 1, .int .u64 0, .int .u64 0, .int .u64 0, .int .u64 2, .int .u64 0, .int .u64 0, .int .u64 0, .int .u64 1, .int .u64 0, .int .u64 0, .int .u64 0] 24)) (b4.mono (Below.size (Below.alloc D3.out D3.out.size (.cells #[.int .u64 1, .int .u64 0, .int .u64 0, .int .u64 0, .int .u64 2, .int .u64 0, .int .u64 0, .int .u64 0, .int .u64 1, .int .u64 0, .int .u64 0, .int .u64 0] 24))))); have zf4 := XF4.lt; have zp4 := XP4.lt; have zr4 := XR4.lt; clear b4))
    go_wp2
    go_ret
    exact ⟨rfl, B0.out.trans (D6.out.mono B0.out.size)⟩
  · obtain ⟨v0, hv⟩ : ∃ v, ((((w6.setCell ⟨w5.heap.size, 0, none⟩ (.int .u64 (limb (frm P2 321) 0 : Int))).setCell ⟨w5.heap.size, 1, none⟩ (.int .u64 (limb (frm P2 321) 1 : Int))).setCell ⟨w5.heap.size, 2, none⟩ (.int .u64 (limb (frm P2 321) 2 : Int))).setCell ⟨w5.heap.size, 3, none⟩ (.int .u64 (limb (frm P2 321) 3 : Int))) = v := ⟨_, rfl⟩
    have F0 : Blk v0 bf 28 [.int .i64 2, .int .u64 (limb P2 0 : Int), .int .u64 (limb P2 1 : Int), .int .u64 (limb P2 2 : Int), .int .u64 (limb P2 3 : Int), .int .u64 (I2 : Int), .int .u64 (limb O2 0 : Int), .int .u64 (limb O2 1 : Int), .int .u64 (limb O2 2 : Int), .int .u64 (limb O2 3 : Int), .int .u64 (limb S2 0 : Int), .int .u64 (limb S2 1 : Int), .int .u64 (limb S2 2 : Int), .int .u64 (limb S2 3 : Int)] := by rw [← hv]; exact F6.other4 (c := w5.heap.size) (by omega) (.int .u64 (limb (frm P2 321) 0 : Int)) (.int .u64 (limb (frm P2 321) 1 : Int)) (.int .u64 (limb (frm P2 321) 2 : Int)) (.int .u64 (limb (frm P2 321) 3 : Int))
    have P0 : Blk v0 (bf + 1) 24 [.int .u64 (limb P2 0 : Int), .int .u64 (limb P2 1 : Int), .int .u64 (limb P2 2 : Int), .int .u64 (limb P2 3 : Int)] := by rw [← hv]; exact P6.other4 (c := w5.heap.size) (by omega) (.int .u64 (limb (frm P2 321) 0 : Int)) (.int .u64 (limb (frm P2 321) 1 : Int)) (.int .u64 (limb (frm P2 321) 2 : Int)) (.int .u64 (limb (frm P2 321) 3 : Int))
    have R0 : Blk v0 w5.heap.size 26 [.int .u64 (limb (frm P2 321) 0 : Int), .int .u64 (limb (frm P2 321) 1 : Int), .int .u64 (limb (frm P2 321) 2 : Int), .int .u64 (limb (frm P2 321) 3 : Int)] := by rw [← hv]; exact Z6.set4 (.int .u64 (limb (frm P2 321) 0 : Int)) (.int .u64 (limb (frm P2 321) 1 : Int)) (.int .u64 (limb (frm P2 321) 2 : Int)) (.int .u64 (limb (frm P2 321) 3 : Int))
    have GA : Below w5.heap.size w5 v0 := by rw [← hv]; exact below_set4 G6h.out (Nat.le_refl _) (.int .u64 (limb (frm P2 321) 0 : Int)) (.int .u64 (limb (frm P2 321) 1 : Int)) (.int .u64 (limb (frm P2 321) 2 : Int)) (.int .u64 (limb (frm P2 321) 3 : Int))
    have NC := hid (NC5.out.below GA)
    have NM := hid (NM5.out.below GA)
    have OE : Only (fun k => k = w5.heap.size) w6 v0 := by rw [← hv]; exact only_set4 w6 _ (.int .u64 (limb (frm P2 321) 0 : Int)) (.int .u64 (limb (frm P2 321) 1 : Int)) (.int .u64 (limb (frm P2 321) 2 : Int)) (.int .u64 (limb (frm P2 321) 3 : Int))
    have NQ := hid (nums_own (xs := [32, 3].map (frm P2)) (owns_only HQ.out OE (fun k h e => by have h9 := (HQ.out.lt k h).1; first | omega | (simp at h9; omega))) (fun x hx => by have := forms_lt (m := P2) _ (by decide) x hx; have := P2_lt; omega))
    have B0 := hid (B5.out.trans (GA.mono B5.out.size))
    clear GA OE
    rw [hv]
    clear hv
    obtain ⟨br, hbr⟩ : ∃ b, w5.heap.size = b := ⟨_, rfl⟩
    rw [hbr] at R0 ⊢
    clear hbr
    have f0_0 := F0.cell (i := 0) rfl
    have f0_1 := F0.cell (i := 1) rfl
    have f0_2 := F0.cell (i := 2) rfl
    have f0_3 := F0.cell (i := 3) rfl
    have f0_4 := F0.cell (i := 4) rfl
    have f0_5 := F0.cell (i := 5) rfl
    have f0_6 := F0.cell (i := 6) rfl
    have f0_7 := F0.cell (i := 7) rfl
    have f0_8 := F0.cell (i := 8) rfl
    have f0_9 := F0.cell (i := 9) rfl
    have f0_10 := F0.cell (i := 10) rfl
    have f0_11 := F0.cell (i := 11) rfl
    have f0_12 := F0.cell (i := 12) rfl
    have f0_13 := F0.cell (i := 13) rfl
    have p0_0 := P0.cell (i := 0) rfl
    have p0_1 := P0.cell (i := 1) rfl
    have p0_2 := P0.cell (i := 2) rfl
    have p0_3 := P0.cell (i := 3) rfl
    have r0_0 := R0.cell (i := 0) rfl
    have r0_1 := R0.cell (i := 1) rfl
    have r0_2 := R0.cell (i := 2) rfl
    have r0_3 := R0.cell (i := 3) rfl
    have zf0 := F0.lt
    have zp0 := P0.lt
    have zr0 := R0.lt
    clear F4 P4 F5 P5 F6 P6 NC4 NM4 NC5 NM5 NC6 NM6 B4 B5 B6 G5h G6h HQ QC
    have heq := fun W : World => eq_same_el (limb (frm P2 321) 0 : Int) (limb (frm P2 321) 1 : Int) (limb (frm P2 321) 2 : Int) (limb (frm P2 321) 3 : Int) W
    have XF0 := F0
    have XP0 := P0
    have XR0 := R0
    clear F0 P0 R0
    have D0 := hid (Below.refl v0.heap.size v0)
    go_wp2
    go_region_held3 (fun w' => w'.cell? ⟨bf, 0, none⟩ = some (.int .i64 2) ∧ w'.cell? ⟨bf, 1, none⟩ = some (.int .u64 (limb P2 0 : Int)) ∧ w'.cell? ⟨bf, 2, none⟩ = some (.int .u64 (limb P2 1 : Int)) ∧ w'.cell? ⟨bf, 3, none⟩ = some (.int .u64 (limb P2 2 : Int)) ∧ w'.cell? ⟨bf, 4, none⟩ = some (.int .u64 (limb P2 3 : Int)) ∧ w'.cell? ⟨bf, 5, none⟩ = some (.int .u64 (I2 : Int)) ∧ w'.cell? ⟨bf, 6, none⟩ = some (.int .u64 (limb O2 0 : Int)) ∧ w'.cell? ⟨bf, 7, none⟩ = some (.int .u64 (limb O2 1 : Int)) ∧ w'.cell? ⟨bf, 8, none⟩ = some (.int .u64 (limb O2 2 : Int)) ∧ w'.cell? ⟨bf, 9, none⟩ = some (.int .u64 (limb O2 3 : Int)) ∧ w'.cell? ⟨bf, 10, none⟩ = some (.int .u64 (limb S2 0 : Int)) ∧ w'.cell? ⟨bf, 11, none⟩ = some (.int .u64 (limb S2 1 : Int)) ∧ w'.cell? ⟨bf, 12, none⟩ = some (.int .u64 (limb S2 2 : Int)) ∧ w'.cell? ⟨bf, 13, none⟩ = some (.int .u64 (limb S2 3 : Int)) ∧ w'.cell? ⟨bf + 1, 0, none⟩ = some (.int .u64 (limb P2 0 : Int)) ∧ w'.cell? ⟨bf + 1, 1, none⟩ = some (.int .u64 (limb P2 1 : Int)) ∧ w'.cell? ⟨bf + 1, 2, none⟩ = some (.int .u64 (limb P2 2 : Int)) ∧ w'.cell? ⟨bf + 1, 3, none⟩ = some (.int .u64 (limb P2 3 : Int)) ∧ w'.cell? ⟨br, 0, none⟩ = some (.int .u64 (limb (frm P2 321) 0 : Int)) ∧ w'.cell? ⟨br, 1, none⟩ = some (.int .u64 (limb (frm P2 321) 1 : Int)) ∧ w'.cell? ⟨br, 2, none⟩ = some (.int .u64 (limb (frm P2 321) 2 : Int)) ∧ w'.cell? ⟨br, 3, none⟩ = some (.int .u64 (limb (frm P2 321) 3 : Int))) ((first | (go_simp; done) | go_keep)) (first | (go_at_call 14; refine (form321 v5).mono ?_; rintro e v6 ⟨rfl, b6⟩; have XF6 := Blk.keep XF5 b6; have XP6 := Blk.keep XP5 b6; have XR6 := Blk.keep XR5 b6; have f6_0 := XF6.cell (i := 0) rfl; have f6_1 := XF6.cell (i := 1) rfl; have f6_2 := XF6.cell (i := 2) rfl; have f6_3 := XF6.cell (i := 3) rfl; have f6_4 := XF6.cell (i := 4) rfl; have f6_5 := XF6.cell (i := 5) rfl; have f6_6 := XF6.cell (i := 6) rfl; have f6_7 := XF6.cell (i := 7) rfl; have f6_8 := XF6.cell (i := 8) rfl; have f6_9 := XF6.cell (i := 9) rfl; have f6_10 := XF6.cell (i := 10) rfl; have f6_11 := XF6.cell (i := 11) rfl; have f6_12 := XF6.cell (i := 12) rfl; have f6_13 := XF6.cell (i := 13) rfl; have p6_0 := XP6.cell (i := 0) rfl; have p6_1 := XP6.cell (i := 1) rfl; have p6_2 := XP6.cell (i := 2) rfl; have p6_3 := XP6.cell (i := 3) rfl; have r6_0 := XR6.cell (i := 0) rfl; have r6_1 := XR6.cell (i := 1) rfl; have r6_2 := XR6.cell (i := 2) rfl; have r6_3 := XR6.cell (i := 3) rfl; have D6 := hid (Below.trans D5.out (b6.mono (Below.size D5.out))); have zf6 := XF6.lt; have zp6 := XP6.lt; have zr6 := XR6.lt; clear b6) | (go_at_call 22; refine (same_any P2 _ _ [32, 3] (v4.alloc (.cells #[.int .u64 32, .int .u64 0, .int .u64 0, .int .u64 0, .int .u64 3, .int .u64 0, .int .u64 0, .int .u64 0] 24)) P2_lt (by decide) ((NQ.out.below D4.out).below ((Below.refl _ v4).alloc (Nat.le_refl _) _)) (blk_nums (t := 24) (by rw [nums323]; exact Blk.new rfl) (by decide)) (by decide)).mono ?_; rintro e v5 ⟨rfl, b5⟩; have XF5 := Blk.keep (Blk.alloc XF4 (.cells #[.int .u64 32, .int .u64 0, .int .u64 0, .int .u64 0, .int .u64 3, .int .u64 0, .int .u64 0, .int .u64 0] 24)) b5; have XP5 := Blk.keep (Blk.alloc XP4 (.cells #[.int .u64 32, .int .u64 0, .int .u64 0, .int .u64 0, .int .u64 3, .int .u64 0, .int .u64 0, .int .u64 0] 24)) b5; have XR5 := Blk.keep (Blk.alloc XR4 (.cells #[.int .u64 32, .int .u64 0, .int .u64 0, .int .u64 0, .int .u64 3, .int .u64 0, .int .u64 0, .int .u64 0] 24)) b5; have f5_0 := XF5.cell (i := 0) rfl; have f5_1 := XF5.cell (i := 1) rfl; have f5_2 := XF5.cell (i := 2) rfl; have f5_3 := XF5.cell (i := 3) rfl; have f5_4 := XF5.cell (i := 4) rfl; have f5_5 := XF5.cell (i := 5) rfl; have f5_6 := XF5.cell (i := 6) rfl; have f5_7 := XF5.cell (i := 7) rfl; have f5_8 := XF5.cell (i := 8) rfl; have f5_9 := XF5.cell (i := 9) rfl; have f5_10 := XF5.cell (i := 10) rfl; have f5_11 := XF5.cell (i := 11) rfl; have f5_12 := XF5.cell (i := 12) rfl; have f5_13 := XF5.cell (i := 13) rfl; have p5_0 := XP5.cell (i := 0) rfl; have p5_1 := XP5.cell (i := 1) rfl; have p5_2 := XP5.cell (i := 2) rfl; have p5_3 := XP5.cell (i := 3) rfl; have r5_0 := XR5.cell (i := 0) rfl; have r5_1 := XR5.cell (i := 1) rfl; have r5_2 := XR5.cell (i := 2) rfl; have r5_3 := XR5.cell (i := 3) rfl; have D5 := hid (Below.trans (Below.alloc D4.out D4.out.size (.cells #[.int .u64 32, .int .u64 0, .int .u64 0, .int .u64 0, .int .u64 3, .int .u64 0, .int .u64 0, .int .u64 0] 24)) (b5.mono (Below.size (Below.alloc D4.out D4.out.size (.cells #[.int .u64 32, .int .u64 0, .int .u64 0, .int .u64 0, .int .u64 3, .int .u64 0, .int .u64 0, .int .u64 0] 24))))); have zf5 := XF5.lt; have zp5 := XP5.lt; have zr5 := XR5.lt; clear b5) | (go_at_call 14; refine (form321 v2).mono ?_; rintro e v3 ⟨rfl, b3⟩; have XF3 := Blk.keep XF2 b3; have XP3 := Blk.keep XP2 b3; have XR3 := Blk.keep XR2 b3; have f3_0 := XF3.cell (i := 0) rfl; have f3_1 := XF3.cell (i := 1) rfl; have f3_2 := XF3.cell (i := 2) rfl; have f3_3 := XF3.cell (i := 3) rfl; have f3_4 := XF3.cell (i := 4) rfl; have f3_5 := XF3.cell (i := 5) rfl; have f3_6 := XF3.cell (i := 6) rfl; have f3_7 := XF3.cell (i := 7) rfl; have f3_8 := XF3.cell (i := 8) rfl; have f3_9 := XF3.cell (i := 9) rfl; have f3_10 := XF3.cell (i := 10) rfl; have f3_11 := XF3.cell (i := 11) rfl; have f3_12 := XF3.cell (i := 12) rfl; have f3_13 := XF3.cell (i := 13) rfl; have p3_0 := XP3.cell (i := 0) rfl; have p3_1 := XP3.cell (i := 1) rfl; have p3_2 := XP3.cell (i := 2) rfl; have p3_3 := XP3.cell (i := 3) rfl; have r3_0 := XR3.cell (i := 0) rfl; have r3_1 := XR3.cell (i := 1) rfl; have r3_2 := XR3.cell (i := 2) rfl; have r3_3 := XR3.cell (i := 3) rfl; have D3 := hid (Below.trans D2.out (b3.mono (Below.size D2.out))); have zf3 := XF3.lt; have zp3 := XP3.lt; have zr3 := XR3.lt; clear b3) | (go_at_call 13; refine (EVC.out v1 (NC.out.below D1.out)).mono ?_; rintro e v2 ⟨rfl, b2⟩; have XF2 := Blk.keep XF1 b2; have XP2 := Blk.keep XP1 b2; have XR2 := Blk.keep XR1 b2; have f2_0 := XF2.cell (i := 0) rfl; have f2_1 := XF2.cell (i := 1) rfl; have f2_2 := XF2.cell (i := 2) rfl; have f2_3 := XF2.cell (i := 3) rfl; have f2_4 := XF2.cell (i := 4) rfl; have f2_5 := XF2.cell (i := 5) rfl; have f2_6 := XF2.cell (i := 6) rfl; have f2_7 := XF2.cell (i := 7) rfl; have f2_8 := XF2.cell (i := 8) rfl; have f2_9 := XF2.cell (i := 9) rfl; have f2_10 := XF2.cell (i := 10) rfl; have f2_11 := XF2.cell (i := 11) rfl; have f2_12 := XF2.cell (i := 12) rfl; have f2_13 := XF2.cell (i := 13) rfl; have p2_0 := XP2.cell (i := 0) rfl; have p2_1 := XP2.cell (i := 1) rfl; have p2_2 := XP2.cell (i := 2) rfl; have p2_3 := XP2.cell (i := 3) rfl; have r2_0 := XR2.cell (i := 0) rfl; have r2_1 := XR2.cell (i := 1) rfl; have r2_2 := XR2.cell (i := 2) rfl; have r2_3 := XR2.cell (i := 3) rfl; have D2 := hid (Below.trans D1.out (b2.mono (Below.size D1.out))); have zf2 := XF2.lt; have zp2 := XP2.lt; have zr2 := XR2.lt; clear b2) | (go_at_call 14; refine (form10 v0.drew).mono ?_; rintro e v1 ⟨rfl, b1⟩; have XF1 := Blk.keep (Blk.drew XF0) b1; have XP1 := Blk.keep (Blk.drew XP0) b1; have XR1 := Blk.keep (Blk.drew XR0) b1; have f1_0 := XF1.cell (i := 0) rfl; have f1_1 := XF1.cell (i := 1) rfl; have f1_2 := XF1.cell (i := 2) rfl; have f1_3 := XF1.cell (i := 3) rfl; have f1_4 := XF1.cell (i := 4) rfl; have f1_5 := XF1.cell (i := 5) rfl; have f1_6 := XF1.cell (i := 6) rfl; have f1_7 := XF1.cell (i := 7) rfl; have f1_8 := XF1.cell (i := 8) rfl; have f1_9 := XF1.cell (i := 9) rfl; have f1_10 := XF1.cell (i := 10) rfl; have f1_11 := XF1.cell (i := 11) rfl; have f1_12 := XF1.cell (i := 12) rfl; have f1_13 := XF1.cell (i := 13) rfl; have p1_0 := XP1.cell (i := 0) rfl; have p1_1 := XP1.cell (i := 1) rfl; have p1_2 := XP1.cell (i := 2) rfl; have p1_3 := XP1.cell (i := 3) rfl; have r1_0 := XR1.cell (i := 0) rfl; have r1_1 := XR1.cell (i := 1) rfl; have r1_2 := XR1.cell (i := 2) rfl; have r1_3 := XR1.cell (i := 3) rfl; have D1 := hid (Below.trans (Below.drew D0.out) (b1.mono (Below.size (Below.drew D0.out)))); have zf1 := XF1.lt; have zp1 := XP1.lt; have zr1 := XR1.lt; clear b1) | (go_at_call 22; refine (same_any P2 _ _ [1, 2, 1] (v3.alloc (.cells #[.int .u64 1, .int .u64 0, .int .u64 0, .int .u64 0, .int .u64 2, .int .u64 0, .int .u64 0, .int .u64 0, .int .u64 1, .int .u64 0, .int .u64 0, .int .u64 0] 24)) P2_lt (by decide) ((NM.out.below D3.out).below ((Below.refl _ v3).alloc (Nat.le_refl _) _)) (blk_nums (t := 24) (by rw [nums121]; exact Blk.new rfl) (by decide)) (by decide)).mono ?_; rintro e v4 ⟨rfl, b4⟩; have XF4 := Blk.keep (Blk.alloc XF3 (.cells #[.int .u64 1, .int .u64 0, .int .u64 0, .int .u64 0, .int .u64 2, .int .u64 0, .int .u64 0, .int .u64 0, .int .u64 1, .int .u64 0, .int .u64 0, .int .u64 0] 24)) b4; have XP4 := Blk.keep (Blk.alloc XP3 (.cells #[.int .u64 1, .int .u64 0, .int .u64 0, .int .u64 0, .int .u64 2, .int .u64 0, .int .u64 0, .int .u64 0, .int .u64 1, .int .u64 0, .int .u64 0, .int .u64 0] 24)) b4; have XR4 := Blk.keep (Blk.alloc XR3 (.cells #[.int .u64 1, .int .u64 0, .int .u64 0, .int .u64 0, .int .u64 2, .int .u64 0, .int .u64 0, .int .u64 0, .int .u64 1, .int .u64 0, .int .u64 0, .int .u64 0] 24)) b4; have f4_0 := XF4.cell (i := 0) rfl; have f4_1 := XF4.cell (i := 1) rfl; have f4_2 := XF4.cell (i := 2) rfl; have f4_3 := XF4.cell (i := 3) rfl; have f4_4 := XF4.cell (i := 4) rfl; have f4_5 := XF4.cell (i := 5) rfl; have f4_6 := XF4.cell (i := 6) rfl; have f4_7 := XF4.cell (i := 7) rfl; have f4_8 := XF4.cell (i := 8) rfl; have f4_9 := XF4.cell (i := 9) rfl; have f4_10 := XF4.cell (i := 10) rfl; have f4_11 := XF4.cell (i := 11) rfl; have f4_12 := XF4.cell (i := 12) rfl; have f4_13 := XF4.cell (i := 13) rfl; have p4_0 := XP4.cell (i := 0) rfl; have p4_1 := XP4.cell (i := 1) rfl; have p4_2 := XP4.cell (i := 2) rfl; have p4_3 := XP4.cell (i := 3) rfl; have r4_0 := XR4.cell (i := 0) rfl; have r4_1 := XR4.cell (i := 1) rfl; have r4_2 := XR4.cell (i := 2) rfl; have r4_3 := XR4.cell (i := 3) rfl; have D4 := hid (Below.trans (Below.alloc D3.out D3.out.size (.cells #[.int .u64 1, .int .u64 0, .int .u64 0, .int .u64 0, .int .u64 2, .int .u64 0, .int .u64 0, .int .u64 0, .int .u64 1, .int .u64 0, .int .u64 0, .int .u64 0] 24)) (b4.mono (Below.size (Below.alloc D3.out D3.out.size (.cells #[.int .u64 1, .int .u64 0, .int .u64 0, .int .u64 0, .int .u64 2, .int .u64 0, .int .u64 0, .int .u64 0, .int .u64 1, .int .u64 0, .int .u64 0, .int .u64 0] 24))))); have zf4 := XF4.lt; have zp4 := XP4.lt; have zr4 := XR4.lt; clear b4))
    go_wp2
    go_ret
    exact ⟨rfl, B0.out.trans (D6.out.mono B0.out.size)⟩
  · obtain ⟨v0, hv⟩ : ∃ v, ((((w6.setCell ⟨w4.heap.size, 0, none⟩ (.int .u64 (limb (frm P2 321) 0 : Int))).setCell ⟨w4.heap.size, 1, none⟩ (.int .u64 (limb (frm P2 321) 1 : Int))).setCell ⟨w4.heap.size, 2, none⟩ (.int .u64 (limb (frm P2 321) 2 : Int))).setCell ⟨w4.heap.size, 3, none⟩ (.int .u64 (limb (frm P2 321) 3 : Int))) = v := ⟨_, rfl⟩
    have F0 : Blk v0 bf 28 [.int .i64 2, .int .u64 (limb P2 0 : Int), .int .u64 (limb P2 1 : Int), .int .u64 (limb P2 2 : Int), .int .u64 (limb P2 3 : Int), .int .u64 (I2 : Int), .int .u64 (limb O2 0 : Int), .int .u64 (limb O2 1 : Int), .int .u64 (limb O2 2 : Int), .int .u64 (limb O2 3 : Int), .int .u64 (limb S2 0 : Int), .int .u64 (limb S2 1 : Int), .int .u64 (limb S2 2 : Int), .int .u64 (limb S2 3 : Int)] := by rw [← hv]; exact F6.other4 (c := w4.heap.size) (by omega) (.int .u64 (limb (frm P2 321) 0 : Int)) (.int .u64 (limb (frm P2 321) 1 : Int)) (.int .u64 (limb (frm P2 321) 2 : Int)) (.int .u64 (limb (frm P2 321) 3 : Int))
    have P0 : Blk v0 (bf + 1) 24 [.int .u64 (limb P2 0 : Int), .int .u64 (limb P2 1 : Int), .int .u64 (limb P2 2 : Int), .int .u64 (limb P2 3 : Int)] := by rw [← hv]; exact P6.other4 (c := w4.heap.size) (by omega) (.int .u64 (limb (frm P2 321) 0 : Int)) (.int .u64 (limb (frm P2 321) 1 : Int)) (.int .u64 (limb (frm P2 321) 2 : Int)) (.int .u64 (limb (frm P2 321) 3 : Int))
    have R0 : Blk v0 w4.heap.size 26 [.int .u64 (limb (frm P2 321) 0 : Int), .int .u64 (limb (frm P2 321) 1 : Int), .int .u64 (limb (frm P2 321) 2 : Int), .int .u64 (limb (frm P2 321) 3 : Int)] := by rw [← hv]; exact Z6.set4 (.int .u64 (limb (frm P2 321) 0 : Int)) (.int .u64 (limb (frm P2 321) 1 : Int)) (.int .u64 (limb (frm P2 321) 2 : Int)) (.int .u64 (limb (frm P2 321) 3 : Int))
    have GA : Below w4.heap.size w4 v0 := by rw [← hv]; exact below_set4 (G5h.out.trans (G6h.out.mono G5h.out.size)) (Nat.le_refl _) (.int .u64 (limb (frm P2 321) 0 : Int)) (.int .u64 (limb (frm P2 321) 1 : Int)) (.int .u64 (limb (frm P2 321) 2 : Int)) (.int .u64 (limb (frm P2 321) 3 : Int))
    have NC := hid (NC4.out.below GA)
    have NM := hid (NM4.out.below GA)
    have OE : Only (fun k => k = w4.heap.size) w6 v0 := by rw [← hv]; exact only_set4 w6 _ (.int .u64 (limb (frm P2 321) 0 : Int)) (.int .u64 (limb (frm P2 321) 1 : Int)) (.int .u64 (limb (frm P2 321) 2 : Int)) (.int .u64 (limb (frm P2 321) 3 : Int))
    have NQ := hid (nums_own (xs := [32, 3].map (frm P2)) (owns_only HQ.out OE (fun k h e => by have h9 := (HQ.out.lt k h).1; first | omega | (simp at h9; omega))) (fun x hx => by have := forms_lt (m := P2) _ (by decide) x hx; have := P2_lt; omega))
    have B0 := hid (B4.out.trans (GA.mono B4.out.size))
    clear GA OE
    rw [hv]
    clear hv
    obtain ⟨br, hbr⟩ : ∃ b, w4.heap.size = b := ⟨_, rfl⟩
    rw [hbr] at R0 ⊢
    clear hbr
    have f0_0 := F0.cell (i := 0) rfl
    have f0_1 := F0.cell (i := 1) rfl
    have f0_2 := F0.cell (i := 2) rfl
    have f0_3 := F0.cell (i := 3) rfl
    have f0_4 := F0.cell (i := 4) rfl
    have f0_5 := F0.cell (i := 5) rfl
    have f0_6 := F0.cell (i := 6) rfl
    have f0_7 := F0.cell (i := 7) rfl
    have f0_8 := F0.cell (i := 8) rfl
    have f0_9 := F0.cell (i := 9) rfl
    have f0_10 := F0.cell (i := 10) rfl
    have f0_11 := F0.cell (i := 11) rfl
    have f0_12 := F0.cell (i := 12) rfl
    have f0_13 := F0.cell (i := 13) rfl
    have p0_0 := P0.cell (i := 0) rfl
    have p0_1 := P0.cell (i := 1) rfl
    have p0_2 := P0.cell (i := 2) rfl
    have p0_3 := P0.cell (i := 3) rfl
    have r0_0 := R0.cell (i := 0) rfl
    have r0_1 := R0.cell (i := 1) rfl
    have r0_2 := R0.cell (i := 2) rfl
    have r0_3 := R0.cell (i := 3) rfl
    have zf0 := F0.lt
    have zp0 := P0.lt
    have zr0 := R0.lt
    clear F4 P4 F5 P5 F6 P6 NC4 NM4 NC5 NM5 NC6 NM6 B4 B5 B6 G5h G6h HQ QC
    have heq := fun W : World => eq_same_el (limb (frm P2 321) 0 : Int) (limb (frm P2 321) 1 : Int) (limb (frm P2 321) 2 : Int) (limb (frm P2 321) 3 : Int) W
    have XF0 := F0
    have XP0 := P0
    have XR0 := R0
    clear F0 P0 R0
    have D0 := hid (Below.refl v0.heap.size v0)
    go_wp2
    go_region_held3 (fun w' => w'.cell? ⟨bf, 0, none⟩ = some (.int .i64 2) ∧ w'.cell? ⟨bf, 1, none⟩ = some (.int .u64 (limb P2 0 : Int)) ∧ w'.cell? ⟨bf, 2, none⟩ = some (.int .u64 (limb P2 1 : Int)) ∧ w'.cell? ⟨bf, 3, none⟩ = some (.int .u64 (limb P2 2 : Int)) ∧ w'.cell? ⟨bf, 4, none⟩ = some (.int .u64 (limb P2 3 : Int)) ∧ w'.cell? ⟨bf, 5, none⟩ = some (.int .u64 (I2 : Int)) ∧ w'.cell? ⟨bf, 6, none⟩ = some (.int .u64 (limb O2 0 : Int)) ∧ w'.cell? ⟨bf, 7, none⟩ = some (.int .u64 (limb O2 1 : Int)) ∧ w'.cell? ⟨bf, 8, none⟩ = some (.int .u64 (limb O2 2 : Int)) ∧ w'.cell? ⟨bf, 9, none⟩ = some (.int .u64 (limb O2 3 : Int)) ∧ w'.cell? ⟨bf, 10, none⟩ = some (.int .u64 (limb S2 0 : Int)) ∧ w'.cell? ⟨bf, 11, none⟩ = some (.int .u64 (limb S2 1 : Int)) ∧ w'.cell? ⟨bf, 12, none⟩ = some (.int .u64 (limb S2 2 : Int)) ∧ w'.cell? ⟨bf, 13, none⟩ = some (.int .u64 (limb S2 3 : Int)) ∧ w'.cell? ⟨bf + 1, 0, none⟩ = some (.int .u64 (limb P2 0 : Int)) ∧ w'.cell? ⟨bf + 1, 1, none⟩ = some (.int .u64 (limb P2 1 : Int)) ∧ w'.cell? ⟨bf + 1, 2, none⟩ = some (.int .u64 (limb P2 2 : Int)) ∧ w'.cell? ⟨bf + 1, 3, none⟩ = some (.int .u64 (limb P2 3 : Int)) ∧ w'.cell? ⟨br, 0, none⟩ = some (.int .u64 (limb (frm P2 321) 0 : Int)) ∧ w'.cell? ⟨br, 1, none⟩ = some (.int .u64 (limb (frm P2 321) 1 : Int)) ∧ w'.cell? ⟨br, 2, none⟩ = some (.int .u64 (limb (frm P2 321) 2 : Int)) ∧ w'.cell? ⟨br, 3, none⟩ = some (.int .u64 (limb (frm P2 321) 3 : Int))) ((first | (go_simp; done) | go_keep)) (first | (go_at_call 14; refine (form321 v5).mono ?_; rintro e v6 ⟨rfl, b6⟩; have XF6 := Blk.keep XF5 b6; have XP6 := Blk.keep XP5 b6; have XR6 := Blk.keep XR5 b6; have f6_0 := XF6.cell (i := 0) rfl; have f6_1 := XF6.cell (i := 1) rfl; have f6_2 := XF6.cell (i := 2) rfl; have f6_3 := XF6.cell (i := 3) rfl; have f6_4 := XF6.cell (i := 4) rfl; have f6_5 := XF6.cell (i := 5) rfl; have f6_6 := XF6.cell (i := 6) rfl; have f6_7 := XF6.cell (i := 7) rfl; have f6_8 := XF6.cell (i := 8) rfl; have f6_9 := XF6.cell (i := 9) rfl; have f6_10 := XF6.cell (i := 10) rfl; have f6_11 := XF6.cell (i := 11) rfl; have f6_12 := XF6.cell (i := 12) rfl; have f6_13 := XF6.cell (i := 13) rfl; have p6_0 := XP6.cell (i := 0) rfl; have p6_1 := XP6.cell (i := 1) rfl; have p6_2 := XP6.cell (i := 2) rfl; have p6_3 := XP6.cell (i := 3) rfl; have r6_0 := XR6.cell (i := 0) rfl; have r6_1 := XR6.cell (i := 1) rfl; have r6_2 := XR6.cell (i := 2) rfl; have r6_3 := XR6.cell (i := 3) rfl; have D6 := hid (Below.trans D5.out (b6.mono (Below.size D5.out))); have zf6 := XF6.lt; have zp6 := XP6.lt; have zr6 := XR6.lt; clear b6) | (go_at_call 22; refine (same_any P2 _ _ [32, 3] (v4.alloc (.cells #[.int .u64 32, .int .u64 0, .int .u64 0, .int .u64 0, .int .u64 3, .int .u64 0, .int .u64 0, .int .u64 0] 24)) P2_lt (by decide) ((NQ.out.below D4.out).below ((Below.refl _ v4).alloc (Nat.le_refl _) _)) (blk_nums (t := 24) (by rw [nums323]; exact Blk.new rfl) (by decide)) (by decide)).mono ?_; rintro e v5 ⟨rfl, b5⟩; have XF5 := Blk.keep (Blk.alloc XF4 (.cells #[.int .u64 32, .int .u64 0, .int .u64 0, .int .u64 0, .int .u64 3, .int .u64 0, .int .u64 0, .int .u64 0] 24)) b5; have XP5 := Blk.keep (Blk.alloc XP4 (.cells #[.int .u64 32, .int .u64 0, .int .u64 0, .int .u64 0, .int .u64 3, .int .u64 0, .int .u64 0, .int .u64 0] 24)) b5; have XR5 := Blk.keep (Blk.alloc XR4 (.cells #[.int .u64 32, .int .u64 0, .int .u64 0, .int .u64 0, .int .u64 3, .int .u64 0, .int .u64 0, .int .u64 0] 24)) b5; have f5_0 := XF5.cell (i := 0) rfl; have f5_1 := XF5.cell (i := 1) rfl; have f5_2 := XF5.cell (i := 2) rfl; have f5_3 := XF5.cell (i := 3) rfl; have f5_4 := XF5.cell (i := 4) rfl; have f5_5 := XF5.cell (i := 5) rfl; have f5_6 := XF5.cell (i := 6) rfl; have f5_7 := XF5.cell (i := 7) rfl; have f5_8 := XF5.cell (i := 8) rfl; have f5_9 := XF5.cell (i := 9) rfl; have f5_10 := XF5.cell (i := 10) rfl; have f5_11 := XF5.cell (i := 11) rfl; have f5_12 := XF5.cell (i := 12) rfl; have f5_13 := XF5.cell (i := 13) rfl; have p5_0 := XP5.cell (i := 0) rfl; have p5_1 := XP5.cell (i := 1) rfl; have p5_2 := XP5.cell (i := 2) rfl; have p5_3 := XP5.cell (i := 3) rfl; have r5_0 := XR5.cell (i := 0) rfl; have r5_1 := XR5.cell (i := 1) rfl; have r5_2 := XR5.cell (i := 2) rfl; have r5_3 := XR5.cell (i := 3) rfl; have D5 := hid (Below.trans (Below.alloc D4.out D4.out.size (.cells #[.int .u64 32, .int .u64 0, .int .u64 0, .int .u64 0, .int .u64 3, .int .u64 0, .int .u64 0, .int .u64 0] 24)) (b5.mono (Below.size (Below.alloc D4.out D4.out.size (.cells #[.int .u64 32, .int .u64 0, .int .u64 0, .int .u64 0, .int .u64 3, .int .u64 0, .int .u64 0, .int .u64 0] 24))))); have zf5 := XF5.lt; have zp5 := XP5.lt; have zr5 := XR5.lt; clear b5) | (go_at_call 14; refine (form321 v2).mono ?_; rintro e v3 ⟨rfl, b3⟩; have XF3 := Blk.keep XF2 b3; have XP3 := Blk.keep XP2 b3; have XR3 := Blk.keep XR2 b3; have f3_0 := XF3.cell (i := 0) rfl; have f3_1 := XF3.cell (i := 1) rfl; have f3_2 := XF3.cell (i := 2) rfl; have f3_3 := XF3.cell (i := 3) rfl; have f3_4 := XF3.cell (i := 4) rfl; have f3_5 := XF3.cell (i := 5) rfl; have f3_6 := XF3.cell (i := 6) rfl; have f3_7 := XF3.cell (i := 7) rfl; have f3_8 := XF3.cell (i := 8) rfl; have f3_9 := XF3.cell (i := 9) rfl; have f3_10 := XF3.cell (i := 10) rfl; have f3_11 := XF3.cell (i := 11) rfl; have f3_12 := XF3.cell (i := 12) rfl; have f3_13 := XF3.cell (i := 13) rfl; have p3_0 := XP3.cell (i := 0) rfl; have p3_1 := XP3.cell (i := 1) rfl; have p3_2 := XP3.cell (i := 2) rfl; have p3_3 := XP3.cell (i := 3) rfl; have r3_0 := XR3.cell (i := 0) rfl; have r3_1 := XR3.cell (i := 1) rfl; have r3_2 := XR3.cell (i := 2) rfl; have r3_3 := XR3.cell (i := 3) rfl; have D3 := hid (Below.trans D2.out (b3.mono (Below.size D2.out))); have zf3 := XF3.lt; have zp3 := XP3.lt; have zr3 := XR3.lt; clear b3) | (go_at_call 13; refine (EVC.out v1 (NC.out.below D1.out)).mono ?_; rintro e v2 ⟨rfl, b2⟩; have XF2 := Blk.keep XF1 b2; have XP2 := Blk.keep XP1 b2; have XR2 := Blk.keep XR1 b2; have f2_0 := XF2.cell (i := 0) rfl; have f2_1 := XF2.cell (i := 1) rfl; have f2_2 := XF2.cell (i := 2) rfl; have f2_3 := XF2.cell (i := 3) rfl; have f2_4 := XF2.cell (i := 4) rfl; have f2_5 := XF2.cell (i := 5) rfl; have f2_6 := XF2.cell (i := 6) rfl; have f2_7 := XF2.cell (i := 7) rfl; have f2_8 := XF2.cell (i := 8) rfl; have f2_9 := XF2.cell (i := 9) rfl; have f2_10 := XF2.cell (i := 10) rfl; have f2_11 := XF2.cell (i := 11) rfl; have f2_12 := XF2.cell (i := 12) rfl; have f2_13 := XF2.cell (i := 13) rfl; have p2_0 := XP2.cell (i := 0) rfl; have p2_1 := XP2.cell (i := 1) rfl; have p2_2 := XP2.cell (i := 2) rfl; have p2_3 := XP2.cell (i := 3) rfl; have r2_0 := XR2.cell (i := 0) rfl; have r2_1 := XR2.cell (i := 1) rfl; have r2_2 := XR2.cell (i := 2) rfl; have r2_3 := XR2.cell (i := 3) rfl; have D2 := hid (Below.trans D1.out (b2.mono (Below.size D1.out))); have zf2 := XF2.lt; have zp2 := XP2.lt; have zr2 := XR2.lt; clear b2) | (go_at_call 14; refine (form10 v0.drew).mono ?_; rintro e v1 ⟨rfl, b1⟩; have XF1 := Blk.keep (Blk.drew XF0) b1; have XP1 := Blk.keep (Blk.drew XP0) b1; have XR1 := Blk.keep (Blk.drew XR0) b1; have f1_0 := XF1.cell (i := 0) rfl; have f1_1 := XF1.cell (i := 1) rfl; have f1_2 := XF1.cell (i := 2) rfl; have f1_3 := XF1.cell (i := 3) rfl; have f1_4 := XF1.cell (i := 4) rfl; have f1_5 := XF1.cell (i := 5) rfl; have f1_6 := XF1.cell (i := 6) rfl; have f1_7 := XF1.cell (i := 7) rfl; have f1_8 := XF1.cell (i := 8) rfl; have f1_9 := XF1.cell (i := 9) rfl; have f1_10 := XF1.cell (i := 10) rfl; have f1_11 := XF1.cell (i := 11) rfl; have f1_12 := XF1.cell (i := 12) rfl; have f1_13 := XF1.cell (i := 13) rfl; have p1_0 := XP1.cell (i := 0) rfl; have p1_1 := XP1.cell (i := 1) rfl; have p1_2 := XP1.cell (i := 2) rfl; have p1_3 := XP1.cell (i := 3) rfl; have r1_0 := XR1.cell (i := 0) rfl; have r1_1 := XR1.cell (i := 1) rfl; have r1_2 := XR1.cell (i := 2) rfl; have r1_3 := XR1.cell (i := 3) rfl; have D1 := hid (Below.trans (Below.drew D0.out) (b1.mono (Below.size (Below.drew D0.out)))); have zf1 := XF1.lt; have zp1 := XP1.lt; have zr1 := XR1.lt; clear b1) | (go_at_call 22; refine (same_any P2 _ _ [1, 2, 1] (v3.alloc (.cells #[.int .u64 1, .int .u64 0, .int .u64 0, .int .u64 0, .int .u64 2, .int .u64 0, .int .u64 0, .int .u64 0, .int .u64 1, .int .u64 0, .int .u64 0, .int .u64 0] 24)) P2_lt (by decide) ((NM.out.below D3.out).below ((Below.refl _ v3).alloc (Nat.le_refl _) _)) (blk_nums (t := 24) (by rw [nums121]; exact Blk.new rfl) (by decide)) (by decide)).mono ?_; rintro e v4 ⟨rfl, b4⟩; have XF4 := Blk.keep (Blk.alloc XF3 (.cells #[.int .u64 1, .int .u64 0, .int .u64 0, .int .u64 0, .int .u64 2, .int .u64 0, .int .u64 0, .int .u64 0, .int .u64 1, .int .u64 0, .int .u64 0, .int .u64 0] 24)) b4; have XP4 := Blk.keep (Blk.alloc XP3 (.cells #[.int .u64 1, .int .u64 0, .int .u64 0, .int .u64 0, .int .u64 2, .int .u64 0, .int .u64 0, .int .u64 0, .int .u64 1, .int .u64 0, .int .u64 0, .int .u64 0] 24)) b4; have XR4 := Blk.keep (Blk.alloc XR3 (.cells #[.int .u64 1, .int .u64 0, .int .u64 0, .int .u64 0, .int .u64 2, .int .u64 0, .int .u64 0, .int .u64 0, .int .u64 1, .int .u64 0, .int .u64 0, .int .u64 0] 24)) b4; have f4_0 := XF4.cell (i := 0) rfl; have f4_1 := XF4.cell (i := 1) rfl; have f4_2 := XF4.cell (i := 2) rfl; have f4_3 := XF4.cell (i := 3) rfl; have f4_4 := XF4.cell (i := 4) rfl; have f4_5 := XF4.cell (i := 5) rfl; have f4_6 := XF4.cell (i := 6) rfl; have f4_7 := XF4.cell (i := 7) rfl; have f4_8 := XF4.cell (i := 8) rfl; have f4_9 := XF4.cell (i := 9) rfl; have f4_10 := XF4.cell (i := 10) rfl; have f4_11 := XF4.cell (i := 11) rfl; have f4_12 := XF4.cell (i := 12) rfl; have f4_13 := XF4.cell (i := 13) rfl; have p4_0 := XP4.cell (i := 0) rfl; have p4_1 := XP4.cell (i := 1) rfl; have p4_2 := XP4.cell (i := 2) rfl; have p4_3 := XP4.cell (i := 3) rfl; have r4_0 := XR4.cell (i := 0) rfl; have r4_1 := XR4.cell (i := 1) rfl; have r4_2 := XR4.cell (i := 2) rfl; have r4_3 := XR4.cell (i := 3) rfl; have D4 := hid (Below.trans (Below.alloc D3.out D3.out.size (.cells #[.int .u64 1, .int .u64 0, .int .u64 0, .int .u64 0, .int .u64 2, .int .u64 0, .int .u64 0, .int .u64 0, .int .u64 1, .int .u64 0, .int .u64 0, .int .u64 0] 24)) (b4.mono (Below.size (Below.alloc D3.out D3.out.size (.cells #[.int .u64 1, .int .u64 0, .int .u64 0, .int .u64 0, .int .u64 2, .int .u64 0, .int .u64 0, .int .u64 0, .int .u64 1, .int .u64 0, .int .u64 0, .int .u64 0] 24))))); have zf4 := XF4.lt; have zp4 := XP4.lt; have zr4 := XR4.lt; clear b4))
    go_wp2
    go_ret
    exact ⟨rfl, B0.out.trans (D6.out.mono B0.out.size)⟩
end Go.Proofs.YtfaicnileghjiaaDoor
