/-
  ViewVanishes: for every field and up to 6 numbers, Vanish returns the polynomial of the reference, or the error.
-/
import Derived.Test.YtogenbggjodcnaaDoorAlive22
import Derived.Test.YtogenbggjodcnaaDoorRShf22
import Derived.Deep.RegionHeld3
namespace Go.Proofs.YtogenbggjodcnaaDoor
open Go.RowKit

attribute [local go_sem] Oper.semAt_some
set_option maxRecDepth 100000 in
set_option maxHeartbeats 4000000 in
theorem vvanish_law (b : Bool) (v : Value) (xs : List Int) (w : World) (hT : Tab w) (hS : IntSl w v xs) :
    Calls Tryd.prog 8 #[.bool b, v] w (Ret (.bool true) w) := by
  have BW := hid (Below.refl w.heap.size w)
  have T := hid hT
  clear hT
  have HS := hid hS
  obtain ⟨sa, sc, rfl, _⟩ := hS
  obtain ⟨n, hn⟩ : ∃ n, xs.length = n := ⟨_, rfl⟩
  rw [hn] at HS ⊢
  have HN := hid hn
  by_cases h6 : 6 < n
  · skip
    have h6i : (6 : Int) < (n : Int) := by omega
    clear hn
    go_enter Tryd.func8, Tryd.ntmps8
    go_wp2_with fail
    refine (alive22_any _ T.out).mono ?_
    rintro e v1 ⟨rfl, b9⟩
    replace T := hid (T.out.keep b9)
    replace BW := hid (BW.out.trans (b9.mono BW.out.size))
    clear b9
    go_wp2
    go_ret
    exact ⟨rfl, BW.out⟩
  have hlx : xs.length < 1000000 := by omega
  have h6i : ¬ (6 : Int) < (n : Int) := by omega
  have RCC := hid (fun (W : World) (h : IntSl W (.slice sa n sc) xs) => rlcheck_any (.slice sa n sc) xs W h hlx)
  have hp2 := fP_two b
  have hpb := fP_lt b
  by_cases hc : chkx xs = 0
  · skip
    rw [hc] at RCC
    have hx := hid (chkx_zero hc).1
    have VC := hid (fun (W : World) (h : IntSl W (.slice sa n sc) xs) => vanish_ok b (.slice sa n sc) xs W h (by omega) hc)
    have RV := hid (fun (W : World) (h : IntSl W (.slice sa n sc) xs) => rvanish_any b (.slice sa n sc) xs W h (by omega) hx)
    have SC := hid (fun (W : World) (v1 v2 : Value) (h1 : NumSl W v1 ((vanV (fP b) (pts xs)).map (frm (fP b)))) (h2 : NumSl W v2 (vanV (fP b) (pts xs))) => same22_any (fP b) v1 v2 _ W hpb (by omega) h1 h2 (by rw [vanV_len (by omega), pts_len, hn]; omega))
    obtain ⟨zs, hzs⟩ : ∃ z, vanV (fP b) (pts xs) = z := ⟨_, rfl⟩
    rw [hzs] at VC RV SC
    clear hc hn hlx hzs
    go_enter Tryd.func8, Tryd.ntmps8
    go_wp2_with fail
    refine (get22_any b _ T.out).mono ?_
    rintro e v1 ⟨rfl, b9⟩
    replace T := hid (T.out.keep b9)
    replace BW := hid (BW.out.trans (b9.mono BW.out.size))
    clear b9
    go_wp2_with fail
    obtain ⟨v2, hv9⟩ : ∃ v, ((v1.alloc (.cells #[.int .i64 (fID b), .int .u64 (limb (fP b) 0 : Int), .int .u64 (limb (fP b) 1 : Int), .int .u64 (limb (fP b) 2 : Int), .int .u64 (limb (fP b) 3 : Int), .int .u64 (fI b : Int), .int .u64 (limb (fO b) 0 : Int), .int .u64 (limb (fO b) 1 : Int), .int .u64 (limb (fO b) 2 : Int), .int .u64 (limb (fO b) 3 : Int), .int .u64 (limb (fS b) 0 : Int), .int .u64 (limb (fS b) 1 : Int), .int .u64 (limb (fS b) 2 : Int), .int .u64 (limb (fS b) 3 : Int)] 31)).alloc (.cells #[.int .u64 (limb (fP b) 0 : Int), .int .u64 (limb (fP b) 1 : Int), .int .u64 (limb (fP b) 2 : Int), .int .u64 (limb (fP b) 3 : Int)] 28)) = v := ⟨_, rfl⟩
    have hG9 : Below v1.heap.size v1 v2 := by rw [← hv9]; go_grown
    have X_F : Blk v2 (v1.heap.size) 31 [.int .i64 (fID b), .int .u64 (limb (fP b) 0 : Int), .int .u64 (limb (fP b) 1 : Int), .int .u64 (limb (fP b) 2 : Int), .int .u64 (limb (fP b) 3 : Int), .int .u64 (fI b : Int), .int .u64 (limb (fO b) 0 : Int), .int .u64 (limb (fO b) 1 : Int), .int .u64 (limb (fO b) 2 : Int), .int .u64 (limb (fO b) 3 : Int), .int .u64 (limb (fS b) 0 : Int), .int .u64 (limb (fS b) 1 : Int), .int .u64 (limb (fS b) 2 : Int), .int .u64 (limb (fS b) 3 : Int)] := by rw [← hv9]; exact Blk.alloc (Blk.new rfl) _
    have X_P : Blk v2 (v1.heap.size + 1) 28 [.int .u64 (limb (fP b) 0 : Int), .int .u64 (limb (fP b) 1 : Int), .int .u64 (limb (fP b) 2 : Int), .int .u64 (limb (fP b) 3 : Int)] := by rw [← hv9]; exact Blk.new (by simp)
    obtain ⟨bF, hb9⟩ : ∃ k, v1.heap.size = k := ⟨_, rfl⟩
    rw [hb9] at X_F
    rw [hb9] at X_P
    have g_bF : w.heap.size ≤ bF := by rw [← hb9]; exact BW.out.size
    replace T := hid (T.out.keep hG9)
    replace BW := hid (BW.out.trans (hG9.mono BW.out.size))
    clear hG9
    rw [hv9]
    try rw [hb9]
    clear hv9 hb9
    refine (VC.out _ (HS.out.below BW.out)).mono ?_
    rintro e v3 ⟨vz, rfl, hn9, b9⟩
    have N_z := hid hn9
    clear hn9
    replace X_F := X_F.keep b9
    replace X_P := X_P.keep b9
    replace T := hid (T.out.keep b9)
    replace BW := hid (BW.out.trans (b9.mono BW.out.size))
    clear b9
    go_wp2_with fail
    refine (RCC.out _ (HS.out.below BW.out)).mono ?_
    rintro e v4 ⟨rfl, b9⟩
    replace X_F := X_F.keep b9
    replace X_P := X_P.keep b9
    replace N_z := hid (N_z.out.below b9)
    replace T := hid (T.out.keep b9)
    replace BW := hid (BW.out.trans (b9.mono BW.out.size))
    clear b9
    have z_P := X_P.lt
    have c_P0 := X_P.cell (i := 0) rfl
    have c_P1 := X_P.cell (i := 1) rfl
    have c_P2 := X_P.cell (i := 2) rfl
    have c_P3 := X_P.cell (i := 3) rfl
    go_upto_region 8 with (fail)
    go_region_held3 (fun w' => ∀ b o, b < v4.heap.size → w'.cell? ⟨b, o, none⟩ = v4.cell? ⟨b, o, none⟩) ((intro b o h; first | with_reducible exact c3 b o h | with_reducible exact c2 b o h | with_reducible exact c1 b o h | with_reducible exact cell_drew | with_reducible exact cell_drew.trans (cell_alloc h) | (with_reducible refine (cell_alloc (by (try simp); omega)).trans ?_; first | with_reducible exact c3 b o h | with_reducible exact c2 b o h | with_reducible exact c1 b o h | with_reducible exact cell_drew) | with_reducible exact (below_set4 H3.out (by omega) _ _ _ _).cell (p := ⟨b, o, none⟩) h | with_reducible exact (below_set4 H2.out (by omega) _ _ _ _).cell (p := ⟨b, o, none⟩) h | with_reducible exact (below_set4 H1.out (by omega) _ _ _ _).cell (p := ⟨b, o, none⟩) h)) (first | (go_at_call 38; refine (SC.out _ _ _ (N_z.out.below H2.out) hr9.out).mono ?_; rintro e ra3 ⟨rfl, b9⟩; have H3 : Hid (Below v4.heap.size v4 ra3) := hid H2.out.trans (b9.mono H2.out.size); clear b9; have c3 := bcell H3.out; have z3 := H3.out.size) | (go_at_call 39; refine (RV.out _ ((HS.out.below BW.out).below H1.out)).mono ?_; rintro e ra2 ⟨vr, rfl, hr9, b9⟩; have H2 : Hid (Below v4.heap.size v4 ra2) := hid H1.out.trans (b9.mono H1.out.size); have hr9 := hid hr9; clear b9; have c2 := bcell H2.out; have z2 := H2.out.size) | (go_at_call 35; refine (alive22_any _ (T.out.keep (by first | with_reducible exact Below.drew (Below.refl _ _) | with_reducible exact Below.drew ((Below.refl _ _).alloc (Nat.le_refl _) _)))).mono ?_; rintro e ra1 ⟨rfl, b9⟩; have H1 : Hid (Below v4.heap.size v4 ra1) := hid (Below.drew (Below.refl _ v4)).trans b9; clear b9; have c1 := bcell H1.out; have z1 := H1.out.size))
    have hH9 := H3.out
    clear z_P c_P0 c_P1 c_P2 c_P3
    replace X_F := X_F.keep hH9
    replace X_P := X_P.keep hH9
    replace N_z := hid (N_z.out.below hH9)
    replace T := hid (T.out.keep hH9)
    replace BW := hid (BW.out.trans (hH9.mono BW.out.size))
    clear hH9
    clear H1 c1 z1 H2 c2 z2 H3 c3 z3
    go_wp2
    go_ret
    exact ⟨rfl, BW.out⟩
  · skip
    have VC := hid (fun (W : World) (h : IntSl W (.slice sa n sc) xs) => vanish_bad b (.slice sa n sc) xs W h (by omega) hc)
    obtain ⟨c, hc9⟩ : ∃ c, chkx xs = c := ⟨_, rfl⟩
    rw [hc9] at hc VC RCC
    have hd : (c != 0) = true := by simp [hc]
    have hd2 : (c == c) = true := by simp
    clear hc hc9 hn hlx
    go_enter Tryd.func8, Tryd.ntmps8
    go_wp2_with fail
    refine (get22_any b _ T.out).mono ?_
    rintro e v1 ⟨rfl, b9⟩
    replace T := hid (T.out.keep b9)
    replace BW := hid (BW.out.trans (b9.mono BW.out.size))
    clear b9
    go_wp2_with fail
    obtain ⟨v2, hv9⟩ : ∃ v, ((v1.alloc (.cells #[.int .i64 (fID b), .int .u64 (limb (fP b) 0 : Int), .int .u64 (limb (fP b) 1 : Int), .int .u64 (limb (fP b) 2 : Int), .int .u64 (limb (fP b) 3 : Int), .int .u64 (fI b : Int), .int .u64 (limb (fO b) 0 : Int), .int .u64 (limb (fO b) 1 : Int), .int .u64 (limb (fO b) 2 : Int), .int .u64 (limb (fO b) 3 : Int), .int .u64 (limb (fS b) 0 : Int), .int .u64 (limb (fS b) 1 : Int), .int .u64 (limb (fS b) 2 : Int), .int .u64 (limb (fS b) 3 : Int)] 31)).alloc (.cells #[.int .u64 (limb (fP b) 0 : Int), .int .u64 (limb (fP b) 1 : Int), .int .u64 (limb (fP b) 2 : Int), .int .u64 (limb (fP b) 3 : Int)] 28)) = v := ⟨_, rfl⟩
    have hG9 : Below v1.heap.size v1 v2 := by rw [← hv9]; go_grown
    have X_F : Blk v2 (v1.heap.size) 31 [.int .i64 (fID b), .int .u64 (limb (fP b) 0 : Int), .int .u64 (limb (fP b) 1 : Int), .int .u64 (limb (fP b) 2 : Int), .int .u64 (limb (fP b) 3 : Int), .int .u64 (fI b : Int), .int .u64 (limb (fO b) 0 : Int), .int .u64 (limb (fO b) 1 : Int), .int .u64 (limb (fO b) 2 : Int), .int .u64 (limb (fO b) 3 : Int), .int .u64 (limb (fS b) 0 : Int), .int .u64 (limb (fS b) 1 : Int), .int .u64 (limb (fS b) 2 : Int), .int .u64 (limb (fS b) 3 : Int)] := by rw [← hv9]; exact Blk.alloc (Blk.new rfl) _
    have X_P : Blk v2 (v1.heap.size + 1) 28 [.int .u64 (limb (fP b) 0 : Int), .int .u64 (limb (fP b) 1 : Int), .int .u64 (limb (fP b) 2 : Int), .int .u64 (limb (fP b) 3 : Int)] := by rw [← hv9]; exact Blk.new (by simp)
    obtain ⟨bF, hb9⟩ : ∃ k, v1.heap.size = k := ⟨_, rfl⟩
    rw [hb9] at X_F
    rw [hb9] at X_P
    have g_bF : w.heap.size ≤ bF := by rw [← hb9]; exact BW.out.size
    replace T := hid (T.out.keep hG9)
    replace BW := hid (BW.out.trans (hG9.mono BW.out.size))
    clear hG9
    rw [hv9]
    try rw [hb9]
    clear hv9 hb9
    refine (VC.out _ (HS.out.below BW.out)).mono ?_
    rintro e v3 ⟨rfl, b9⟩
    replace X_F := X_F.keep b9
    replace X_P := X_P.keep b9
    replace T := hid (T.out.keep b9)
    replace BW := hid (BW.out.trans (b9.mono BW.out.size))
    clear b9
    go_wp2_with fail
    refine (RCC.out _ (HS.out.below BW.out)).mono ?_
    rintro e v4 ⟨rfl, b9⟩
    replace X_F := X_F.keep b9
    replace X_P := X_P.keep b9
    replace T := hid (T.out.keep b9)
    replace BW := hid (BW.out.trans (b9.mono BW.out.size))
    clear b9
    go_wp2_with fail
    refine (alive22_any _ T.out).mono ?_
    rintro e v5 ⟨rfl, b9⟩
    replace X_F := X_F.keep b9
    replace X_P := X_P.keep b9
    replace T := hid (T.out.keep b9)
    replace BW := hid (BW.out.trans (b9.mono BW.out.size))
    clear b9
    go_wp2
    go_ret
    exact ⟨rfl, BW.out⟩
end Go.Proofs.YtogenbggjodcnaaDoor
