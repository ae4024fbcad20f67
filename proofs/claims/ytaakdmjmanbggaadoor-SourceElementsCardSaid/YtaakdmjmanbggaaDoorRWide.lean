/-
  The reference: what 64 bytes are modulo p.
-/
import Derived.Test.YtaakdmjmanbggaaDoorRNum
import Derived.Test.YtaakdmjmanbggaaDoorRefV
import Derived.Test.YtaakdmjmanbggaaDoorSet4
import Derived.Deep.RegionHeld3
import Derived.Deep.DeepCutAuto
import Derived.Deep.QuietTactic
namespace Go.Proofs.YtaakdmjmanbggaaDoor
open Go.RowKit

theorem wid_walk (p : Nat) (l : List Nat) : addm p (mulm p 1 (num (l.take 32))) (mulm p (powm p 2 256) (mulm p 1 (num (l.drop 32)))) = wid p l := by
  rw [mulm_eq p 1, mulm_eq p 1, Nat.one_mul, Nat.one_mul]; exact wid_ref p l
theorem ByteSl.tail32 {w : World} {l : List Nat} {g off cap : Nat} (h : ByteSl w (.slice (some ⟨g, off, none⟩) 64 cap) l) (hl : l.length = 64) (hc : 64 ≤ cap) : ByteSl w (.slice (some ⟨g, off + 32, none⟩) 32 (cap - 32)) (l.drop 32) := by
  have h1 := h.tail (k := 32) (by omega) (by omega)
  rw [hl] at h1
  exact h1
set_option maxRecDepth 100000 in
set_option maxHeartbeats 8000000 in
theorem rwide_any (b : Bool) (v : Value) (l : List Nat) (hl : l.length = 64) (w : World) (hS : ByteSl w v l) :
    Calls Tryd.prog 29 #[vec (fP b), v] w (Ret (.tuple #[vec (wid (fP b) l), .int .i64 0]) w) := by
  have BW := hid (Below.refl w.heap.size w)
  have hbt := hS.byt
  obtain ⟨a, cap, rfl, hcap, _⟩ := id hS
  obtain ⟨g, off, rfl⟩ := hS.ptr (by omega)
  rw [hl] at hS hcap ⊢
  have hcap2 : (32 : Int) ≤ (cap : Int) := by omega
  have hcap3 : ¬ cap = 32 := by omega
  have q1 : 1 < fP b := by have := fP_two b; omega
  have N1 := hid (fun (v : Value) (W : World) (h : ByteSl W v (l.take 32)) => rnumber_any v (l.take 32) (by simp; omega) W h)
  have N2 := hid (fun (v : Value) (W : World) (h : ByteSl W v (l.drop 32)) => rnumber_any v (l.drop 32) (by simp; omega) W h)
  have M1 := hid (fun W : World => rmod_any (fP b) (num (l.take 32)) (fP_lt b) q1 (num_lt (hbt.take 32)) W)
  have M2 := hid (fun W : World => rmod_any (fP b) (num (l.drop 32)) (fP_lt b) q1 (num_lt (hbt.drop 32)) W)
  have l1 : mulm (fP b) 1 (num (l.take 32)) < fP b := mulm_lt _ _ (by omega)
  have l2 : mulm (fP b) 1 (num (l.drop 32)) < fP b := mulm_lt _ _ (by omega)
  have W0 := hid (wid_walk (fP b) l)
  obtain ⟨x1, hx1⟩ : ∃ q, mulm (fP b) 1 (num (l.take 32)) = q := ⟨_, rfl⟩
  obtain ⟨x2, hx2⟩ : ∃ q, mulm (fP b) 1 (num (l.drop 32)) = q := ⟨_, rfl⟩
  rw [hx1, hx2] at W0
  rw [hx1] at M1 l1
  rw [hx2] at M2 l2
  obtain ⟨n1, hn1⟩ : ∃ q, num (l.take 32) = q := ⟨_, rfl⟩
  obtain ⟨n2, hn2⟩ : ∃ q, num (l.drop 32) = q := ⟨_, rfl⟩
  rw [hn1] at N1 M1
  rw [hn2] at N2 M2
  have R := hid (fun W : World => rradix_any (fP b) (fP_lt b) q1 W)
  have l3 : powm (fP b) 2 256 < fP b := powm_lt _ _ (by omega)
  obtain ⟨rd, hrd⟩ : ∃ q, powm (fP b) 2 256 = q := ⟨_, rfl⟩
  rw [hrd] at R l3 W0
  have M := hid (fun W : World => rmul_any (fP b) rd x2 (fP_lt b) l3 (Nat.lt_trans l2 (fP_lt b)) W)
  have l4 : mulm (fP b) rd x2 < fP b := mulm_lt _ _ (by omega)
  have A := hid (fun W : World => radd_any (fP b) x1 (mulm (fP b) rd x2) (fP_lt b) l1 l4 W)
  rw [W0.out] at A
  obtain ⟨y, hy⟩ : ∃ q, mulm (fP b) rd x2 = q := ⟨_, rfl⟩
  rw [hy] at M A
  obtain ⟨z, hz⟩ : ∃ q, wid (fP b) l = q := ⟨_, rfl⟩
  rw [hz] at A ⊢
  have N_A := hid (hS.head (k := 32) (by omega) (by omega))
  have N_B := hid (hS.tail32 hl hcap)
  clear hbt q1 l1 l2 l3 l4 hx1 hx2 hn1 hn2 hy hz hrd W0 hS
  go_enter Tryd.func29, Tryd.ntmps29
  go_upto_region 3 with (fail)
  obtain ⟨v1, hv9⟩ : ∃ v, ((w.alloc (.cells #[.int .u64 (limb (fP b) 0 : Int), .int .u64 (limb (fP b) 1 : Int), .int .u64 (limb (fP b) 2 : Int), .int .u64 (limb (fP b) 3 : Int)] 41)).alloc (.cells #[.int .u64 0, .int .u64 0, .int .u64 0, .int .u64 0] 41)) = v := ⟨_, rfl⟩
  have hG9 : Below w.heap.size w v1 := by rw [← hv9]; go_grown
  have X_P : Blk v1 (w.heap.size) 41 [.int .u64 (limb (fP b) 0 : Int), .int .u64 (limb (fP b) 1 : Int), .int .u64 (limb (fP b) 2 : Int), .int .u64 (limb (fP b) 3 : Int)] := by rw [← hv9]; exact Blk.alloc (Blk.new rfl) _
  have X_R : Blk v1 (w.heap.size + 1) 41 [.int .u64 0, .int .u64 0, .int .u64 0, .int .u64 0] := by rw [← hv9]; exact Blk.new (by simp)
  obtain ⟨bP, hb9⟩ : ∃ k, w.heap.size = k := ⟨_, rfl⟩
  rw [hb9] at X_P
  rw [hb9] at X_R
  have g_bP : w.heap.size ≤ bP := by rw [← hb9]; exact BW.out.size
  replace N_A := hid (N_A.out.below hG9)
  replace N_B := hid (N_B.out.below hG9)
  replace BW := hid (BW.out.trans (hG9.mono BW.out.size))
  clear hG9
  rw [hv9]
  try rw [hb9]
  clear hv9 hb9
  have z_P := X_P.lt
  have c_P0 := X_P.cell (i := 0) rfl
  have c_P1 := X_P.cell (i := 1) rfl
  have c_P2 := X_P.cell (i := 2) rfl
  have c_P3 := X_P.cell (i := 3) rfl
  go_cut [6] (fun t wx => ∃ br, t = .pointer (some ⟨br, 0, none⟩) ∧ Blk wx br 41 [.int .u64 (limb x1 0 : Int), .int .u64 (limb x1 1 : Int), .int .u64 (limb x1 2 : Int), .int .u64 (limb x1 3 : Int)] ∧ Below v1.heap.size v1 wx)
  case first =>
    go_region_held3 (fun w' => ∀ b o, b < v1.heap.size → w'.cell? ⟨b, o, none⟩ = v1.cell? ⟨b, o, none⟩) ((intro b o h; first | with_reducible exact c2 b o h | with_reducible exact c1 b o h | with_reducible exact cell_drew | with_reducible exact cell_drew.trans (cell_alloc h) | (with_reducible refine (cell_alloc (by (try simp); omega)).trans ?_; first | with_reducible exact c2 b o h | with_reducible exact c1 b o h | with_reducible exact cell_drew) | with_reducible exact (below_set4 H2.out (by omega) _ _ _ _).cell (p := ⟨b, o, none⟩) h | with_reducible exact (below_set4 H1.out (by omega) _ _ _ _).cell (p := ⟨b, o, none⟩) h)) (first | (go_at_call 35; refine (M1.out _).mono ?_; rintro e ra2 ⟨rfl, b9⟩; have H2 : Hid (Below v1.heap.size v1 ra2) := hid (by first | exact H1.out.trans (b9.mono H1.out.size) | exact (H1.out.alloc H1.out.size _).trans (b9.mono (by have := H1.out.size; simp; omega))); (first | (replace Z := Z.keep b9) | (have Z : Blk ra2 ra1.heap.size 41 [.int .u64 0, .int .u64 0, .int .u64 0, .int .u64 0] := Blk.keep (Blk.new rfl) b9) | skip); (try (have zz := Z.lt; have y0 := Z.cell (i := 0) rfl; have yf0 := Z.frozen 0; have y1 := Z.cell (i := 1) rfl; have yf1 := Z.frozen 1; have y2 := Z.cell (i := 2) rfl; have yf2 := Z.frozen 2; have y3 := Z.cell (i := 3) rfl; have yf3 := Z.frozen 3)); clear b9; have c2 := bcell H2.out; have z2 := H2.out.size) | (go_at_call 36; refine (N1.out _ _ (N_A.out.below (by first | with_reducible exact Below.drew (Below.refl _ _) | with_reducible exact Below.drew ((Below.refl _ _).alloc (Nat.le_refl _) _)))).mono ?_; rintro e ra1 ⟨rfl, b9⟩; have H1 : Hid (Below v1.heap.size v1 ra1) := hid (by first | exact (Below.drew (Below.refl _ v1)).trans b9 | exact ((Below.drew (Below.refl _ v1)).alloc (Nat.le_refl _) _).trans (b9.mono (by simp)) | exact (Below.drew ((Below.refl _ v1).alloc (Nat.le_refl _) _)).trans (b9.mono (by simp))); (try (have Z : Blk ra1 v1.heap.size 41 [.int .u64 0, .int .u64 0, .int .u64 0, .int .u64 0] := (by first | exact Blk.keep (Blk.drew (Blk.new rfl)) b9 | exact Blk.keep (Blk.new rfl) b9))); clear b9; have c1 := bcell H1.out; have z1 := H1.out.size))
    all_goals (go_wp2_with (fail); go_meet)
    all_goals (refine ⟨_, rfl, ?_, ?_⟩)
    all_goals (first | with_reducible exact Z.set4 (.int .u64 (limb x1 0 : Int)) (.int .u64 (limb x1 1 : Int)) (.int .u64 (limb x1 2 : Int)) (.int .u64 (limb x1 3 : Int)) | with_reducible exact below_set4 H2.out (by omega) (.int .u64 (limb x1 0 : Int)) (.int .u64 (limb x1 1 : Int)) (.int .u64 (limb x1 2 : Int)) (.int .u64 (limb x1 3 : Int)) | with_reducible exact Blk.new rfl | with_reducible exact H2.out.alloc H2.out.size _)
  case rest =>
    obtain ⟨bL, rfl, hx9, hbel⟩ := hcut
    obtain ⟨wc1, hwc⟩ : ∃ v, wc = v := ⟨_, rfl⟩
    rw [hwc] at hx9 hbel ⊢
    clear hwc
    clear z_P c_P0 c_P1 c_P2 c_P3
    replace X_P := X_P.keep hbel
    replace X_R := X_R.keep hbel
    replace N_A := hid (N_A.out.below hbel)
    replace N_B := hid (N_B.out.below hbel)
    replace BW := hid (BW.out.trans (hbel.mono BW.out.size))
    clear hbel
    have X_L := hx9
    clear hx9
    have z_P := X_P.lt
    have c_P0 := X_P.cell (i := 0) rfl
    have c_P1 := X_P.cell (i := 1) rfl
    have c_P2 := X_P.cell (i := 2) rfl
    have c_P3 := X_P.cell (i := 3) rfl
    go_upto_region 4 with (fail)
    go_cut [7] (fun t wx => ∃ br, t = .pointer (some ⟨br, 0, none⟩) ∧ Blk wx br 41 [.int .u64 (limb x2 0 : Int), .int .u64 (limb x2 1 : Int), .int .u64 (limb x2 2 : Int), .int .u64 (limb x2 3 : Int)] ∧ Below wc1.heap.size wc1 wx)
    case first =>
      go_region_held3 (fun w' => ∀ b o, b < wc1.heap.size → w'.cell? ⟨b, o, none⟩ = wc1.cell? ⟨b, o, none⟩) ((intro b o h; first | with_reducible exact c2 b o h | with_reducible exact c1 b o h | with_reducible exact cell_drew | with_reducible exact cell_drew.trans (cell_alloc h) | (with_reducible refine (cell_alloc (by (try simp); omega)).trans ?_; first | with_reducible exact c2 b o h | with_reducible exact c1 b o h | with_reducible exact cell_drew) | with_reducible exact (below_set4 H2.out (by omega) _ _ _ _).cell (p := ⟨b, o, none⟩) h | with_reducible exact (below_set4 H1.out (by omega) _ _ _ _).cell (p := ⟨b, o, none⟩) h)) (first | (go_at_call 35; refine (M2.out _).mono ?_; rintro e rb2 ⟨rfl, b9⟩; have H2 : Hid (Below wc1.heap.size wc1 rb2) := hid (by first | exact H1.out.trans (b9.mono H1.out.size) | exact (H1.out.alloc H1.out.size _).trans (b9.mono (by have := H1.out.size; simp; omega))); (first | (replace Z := Z.keep b9) | (have Z : Blk rb2 rb1.heap.size 41 [.int .u64 0, .int .u64 0, .int .u64 0, .int .u64 0] := Blk.keep (Blk.new rfl) b9) | skip); (try (have zz := Z.lt; have y0 := Z.cell (i := 0) rfl; have yf0 := Z.frozen 0; have y1 := Z.cell (i := 1) rfl; have yf1 := Z.frozen 1; have y2 := Z.cell (i := 2) rfl; have yf2 := Z.frozen 2; have y3 := Z.cell (i := 3) rfl; have yf3 := Z.frozen 3)); clear b9; have c2 := bcell H2.out; have z2 := H2.out.size) | (go_at_call 36; refine (N2.out _ _ (N_B.out.below (by first | with_reducible exact Below.drew (Below.refl _ _) | with_reducible exact Below.drew ((Below.refl _ _).alloc (Nat.le_refl _) _)))).mono ?_; rintro e rb1 ⟨rfl, b9⟩; have H1 : Hid (Below wc1.heap.size wc1 rb1) := hid (by first | exact (Below.drew (Below.refl _ wc1)).trans b9 | exact ((Below.drew (Below.refl _ wc1)).alloc (Nat.le_refl _) _).trans (b9.mono (by simp)) | exact (Below.drew ((Below.refl _ wc1).alloc (Nat.le_refl _) _)).trans (b9.mono (by simp))); (try (have Z : Blk rb1 wc1.heap.size 41 [.int .u64 0, .int .u64 0, .int .u64 0, .int .u64 0] := (by first | exact Blk.keep (Blk.drew (Blk.new rfl)) b9 | exact Blk.keep (Blk.new rfl) b9))); clear b9; have c1 := bcell H1.out; have z1 := H1.out.size))
      all_goals (go_wp2_with (fail); go_meet)
      all_goals (refine ⟨_, rfl, ?_, ?_⟩)
      all_goals (first | with_reducible exact Z.set4 (.int .u64 (limb x2 0 : Int)) (.int .u64 (limb x2 1 : Int)) (.int .u64 (limb x2 2 : Int)) (.int .u64 (limb x2 3 : Int)) | with_reducible exact below_set4 H2.out (by omega) (.int .u64 (limb x2 0 : Int)) (.int .u64 (limb x2 1 : Int)) (.int .u64 (limb x2 2 : Int)) (.int .u64 (limb x2 3 : Int)) | with_reducible exact Blk.new rfl | with_reducible exact H2.out.alloc H2.out.size _)
    case rest =>
      obtain ⟨bU, rfl, hx9, hbel⟩ := hcut
      obtain ⟨wc2, hwc⟩ : ∃ v, wc = v := ⟨_, rfl⟩
      rw [hwc] at hx9 hbel ⊢
      clear hwc
      clear z_P c_P0 c_P1 c_P2 c_P3
      replace X_P := X_P.keep hbel
      replace X_R := X_R.keep hbel
      replace X_L := X_L.keep hbel
      replace N_A := hid (N_A.out.below hbel)
      replace N_B := hid (N_B.out.below hbel)
      replace BW := hid (BW.out.trans (hbel.mono BW.out.size))
      clear hbel
      have X_U := hx9
      clear hx9
      have z_P := X_P.lt
      have c_P0 := X_P.cell (i := 0) rfl
      have c_P1 := X_P.cell (i := 1) rfl
      have c_P2 := X_P.cell (i := 2) rfl
      have c_P3 := X_P.cell (i := 3) rfl
      have z_L := X_L.lt
      have c_L0 := X_L.cell (i := 0) rfl
      have c_L1 := X_L.cell (i := 1) rfl
      have c_L2 := X_L.cell (i := 2) rfl
      have c_L3 := X_L.cell (i := 3) rfl
      have z_U := X_U.lt
      have c_U0 := X_U.cell (i := 0) rfl
      have c_U1 := X_U.cell (i := 1) rfl
      have c_U2 := X_U.cell (i := 2) rfl
      have c_U3 := X_U.cell (i := 3) rfl
      go_upto_region 5 with (fail)
      refine wp_region_soft (C := fun W' => Below wc2.heap.size wc2 W') 8 (by kernel_rfl) (by kernel_rfl) ((Below.refl _ _).drew) ?_
      simp only [List.take_succ_cons, List.take_zero, List.drop_succ_cons, List.drop_zero]
      refine wpQuiet_step (fun K hK => ?_)
      rw [if_pos (by rfl)]
      refine ⟨vec (fP b), fun W' hW => ?_, hK _ ?_⟩
      · have e_0 := (hW.cell (p := ⟨bP, 0, none⟩) z_P).trans c_P0
        have e_1 := (hW.cell (p := ⟨bP, 1, none⟩) z_P).trans c_P1
        have e_2 := (hW.cell (p := ⟨bP, 2, none⟩) z_P).trans c_P2
        have e_3 := (hW.cell (p := ⟨bP, 3, none⟩) z_P).trans c_P3
        go_simp
      clear hK K
      simp only [Act.put, List.setIfInBounds_toArray, List.set_cons_zero, List.set_cons_succ]
      refine wpQuiet_step (fun K hK => ?_)
      rw [if_pos (by rfl)]
      refine ⟨vec x1, fun W' hW => ?_, hK _ ?_⟩
      · have e_0 := (hW.cell (p := ⟨bL, 0, none⟩) z_L).trans c_L0
        have e_1 := (hW.cell (p := ⟨bL, 1, none⟩) z_L).trans c_L1
        have e_2 := (hW.cell (p := ⟨bL, 2, none⟩) z_L).trans c_L2
        have e_3 := (hW.cell (p := ⟨bL, 3, none⟩) z_L).trans c_L3
        go_simp
      clear hK K
      simp only [Act.put, List.setIfInBounds_toArray, List.set_cons_zero, List.set_cons_succ]
      refine wpQuiet_step (fun K hK => ?_)
      rw [if_pos (by rfl)]
      refine ⟨vec (fP b), fun W' hW => ?_, hK _ ?_⟩
      · have e_0 := (hW.cell (p := ⟨bP, 0, none⟩) z_P).trans c_P0
        have e_1 := (hW.cell (p := ⟨bP, 1, none⟩) z_P).trans c_P1
        have e_2 := (hW.cell (p := ⟨bP, 2, none⟩) z_P).trans c_P2
        have e_3 := (hW.cell (p := ⟨bP, 3, none⟩) z_P).trans c_P3
        go_simp
      clear hK K
      simp only [Act.put, List.setIfInBounds_toArray, List.set_cons_zero, List.set_cons_succ]
      refine wpQuiet_step (fun K hK => ?_)
      rw [if_pos (by rfl)]
      refine ⟨vec (fP b), fun W' hW => ?_, hK _ ?_⟩
      · have e_0 := (hW.cell (p := ⟨bP, 0, none⟩) z_P).trans c_P0
        have e_1 := (hW.cell (p := ⟨bP, 1, none⟩) z_P).trans c_P1
        have e_2 := (hW.cell (p := ⟨bP, 2, none⟩) z_P).trans c_P2
        have e_3 := (hW.cell (p := ⟨bP, 3, none⟩) z_P).trans c_P3
        go_simp
      clear hK K
      simp only [Act.put, List.setIfInBounds_toArray, List.set_cons_zero, List.set_cons_succ]
      refine wpQuiet_step (fun K hK => ?_)
      rw [if_pos (by rfl)]
      refine ⟨vec rd, fun W' hW => ?_, hK _ ?_⟩
      · go_simp
        refine (R.out _).mono ?_
        rintro e w' ⟨rfl, b⟩
        exact ⟨rfl, hW.trans (b.mono hW.size)⟩
      clear hK K
      simp only [Act.put, List.setIfInBounds_toArray, List.set_cons_zero, List.set_cons_succ]
      refine wpQuiet_step (fun K hK => ?_)
      rw [if_pos (by rfl)]
      refine ⟨vec x2, fun W' hW => ?_, hK _ ?_⟩
      · have e_0 := (hW.cell (p := ⟨bU, 0, none⟩) z_U).trans c_U0
        have e_1 := (hW.cell (p := ⟨bU, 1, none⟩) z_U).trans c_U1
        have e_2 := (hW.cell (p := ⟨bU, 2, none⟩) z_U).trans c_U2
        have e_3 := (hW.cell (p := ⟨bU, 3, none⟩) z_U).trans c_U3
        go_simp
      clear hK K
      simp only [Act.put, List.setIfInBounds_toArray, List.set_cons_zero, List.set_cons_succ]
      refine wpQuiet_step (fun K hK => ?_)
      rw [if_pos (by rfl)]
      refine ⟨vec y, fun W' hW => ?_, hK _ ?_⟩
      · go_simp
        refine (M.out _).mono ?_
        rintro e w' ⟨rfl, b⟩
        exact ⟨rfl, hW.trans (b.mono hW.size)⟩
      clear hK K
      simp only [Act.put, List.setIfInBounds_toArray, List.set_cons_zero, List.set_cons_succ]
      refine wpQuiet_step (fun K hK => ?_)
      rw [if_pos (by rfl)]
      refine ⟨vec z, fun W' hW => ?_, hK _ ?_⟩
      · go_simp
        refine (A.out _).mono ?_
        rintro e w' ⟨rfl, b⟩
        exact ⟨rfl, hW.trans (b.mono hW.size)⟩
      clear hK K
      simp only [Act.put, List.setIfInBounds_toArray, List.set_cons_zero, List.set_cons_succ]
      refine wpQuiet_nil ?_
      intro ws2 hW9
      clear z_P c_P0 c_P1 c_P2 c_P3 z_L c_L0 c_L1 c_L2 c_L3 z_U c_U0 c_U1 c_U2 c_U3
      replace X_P := X_P.keep hW9
      replace X_R := X_R.keep hW9
      replace X_L := X_L.keep hW9
      replace X_U := X_U.keep hW9
      replace N_A := hid (N_A.out.below hW9)
      replace N_B := hid (N_B.out.below hW9)
      replace BW := hid (BW.out.trans (hW9.mono BW.out.size))
      clear hW9
      have z_R := X_R.lt
      have c_R0 := X_R.cell (i := 0) rfl
      have f_R0 := X_R.frozen 0
      have c_R1 := X_R.cell (i := 1) rfl
      have f_R1 := X_R.frozen 1
      have c_R2 := X_R.cell (i := 2) rfl
      have f_R2 := X_R.frozen 2
      have c_R3 := X_R.cell (i := 3) rfl
      have f_R3 := X_R.frozen 3
      have hBW := BW.out
      have zBW := hBW.size
      go_wp2
      refine bodyPost_ret (by simp only [results, Tryd.results29]; go_simp; try rfl) rfl ?_
      exact ⟨rfl, by go_grown⟩
end Go.Proofs.YtaakdmjmanbggaaDoor
