/-
  LagrangeWeights: for every field and up to 6 numbers, Weights and Zero return the same elements, or the same error, as the reference.
-/
import Derived.Test.YthdjjogdjabflaaDoorAlive09
import Derived.Test.YthdjjogdjabflaaDoorRZero9
import Derived.Test.YthdjjogdjabflaaDoorRItp9
import Derived.Test.YthdjjogdjabflaaDoorDot9
import Derived.Deep.RegionHeld3
namespace Go.Proofs.YthdjjogdjabflaaDoor
open Go.RowKit

attribute [local go_sem] Oper.semAt_some
set_option maxRecDepth 100000 in
set_option maxHeartbeats 4000000 in
theorem weights9_law (b : Bool) (v : Value) (xs : List Int) (w : World) (hT : Tab w) (hS : IntSl w v xs) :
    Calls Tryd.prog 4 #[.bool b, v] w (Ret (.bool true) w) := by
  have BW := hid (Below.refl w.heap.size w)
  have T := hid hT
  clear hT
  have HS := hid hS
  obtain ⟨sa, sc, rfl, _⟩ := hS
  obtain ⟨n, hn⟩ : ∃ n, xs.length = n := ⟨_, rfl⟩
  rw [hn] at HS ⊢
  have HN := hid hn
  by_cases h6 : 6 < n
  · skip
    go_enter Tryd.func4, Tryd.ntmps4
    go_wp2_with fail
    refine (alive9_any _ T.out).mono ?_
    rintro e v1 ⟨rfl, b9⟩
    replace T := hid (T.out.keep b9)
    replace BW := hid (BW.out.trans (b9.mono BW.out.size))
    clear b9
    go_wp2
    go_ret
    exact ⟨rfl, BW.out⟩
  have hlx : xs.length < 1000000 := by omega
  have RCC := hid (fun (W : World) (h : IntSl W (.slice sa n sc) xs) => rlcheck_any (.slice sa n sc) xs W h hlx)
  by_cases hc : chkx xs = 0
  · skip
    rw [hc] at RCC
    have hp2 := fP_two b
    have hpb := fP_lt b
    have HALL := (chkx_zero hc).1
    have W1 := hid (fun (W : World) (h : IntSl W (.slice sa n sc) xs) => weights_ok b (.slice sa n sc) xs W h hlx hc)
    have W2 := hid (fun (W : World) (h : IntSl W (.slice sa n sc) xs) => zero_ok b (.slice sa n sc) xs W h (by omega) hc)
    have R1 := hid (fun (W : World) (h : IntSl W (.slice sa n sc) xs) => rweights_any b (.slice sa n sc) xs W h hlx HALL)
    have R2 := hid (fun (W : World) (h : IntSl W (.slice sa n sc) xs) => rzero_any b (.slice sa n sc) xs W h hlx HALL)
    unfold RetE at W1 W2
    unfold RetNums RetOwn at R1 R2
    have HA := hid (wgs_lt (p := fP b) (by omega) (pts xs))
    have HBz : Hid (∀ y ∈ zcs (fP b) (pts xs), y < fP b) := hid (fun y hy => by obtain ⟨i, _, rfl⟩ := List.mem_map.1 hy; exact negs_lt (by omega) _ (invm_lt _ (by omega)))
    have HLA : Hid ((wgs (fP b) (pts xs)).length = n) := hid (by rw [wgs_len, pts_len, hn])
    have HLB : Hid ((zcs (fP b) (pts xs)).length = n) := hid (by rw [zcs_len, pts_len, hn])
    obtain ⟨ua, hua⟩ : ∃ z, wgs (fP b) (pts xs) = z := ⟨_, rfl⟩
    obtain ⟨uz, huz⟩ : ∃ z, zcs (fP b) (pts xs) = z := ⟨_, rfl⟩
    rw [hua] at W1 R1 HA HLA
    rw [huz] at W2 R2 HBz HLB
    rw [List.length_map, HLA.out] at W1
    rw [List.length_map, HLB.out] at W2
    rw [HLA.out] at R1
    rw [HLB.out] at R2
    clear hua huz hc hlx hn HALL
    have S1 := hid (fun (W : World) (v1 v2 : Value) (h1 : NumSl W v1 (ua.map (frm (fP b)))) (h2 : NumSl W v2 ua) => same9_any (fP b) v1 v2 _ W hpb (by omega) h1 h2 (by rw [HLA.out]; omega))
    have S2 := hid (fun (W : World) (v1 v2 : Value) (h1 : NumSl W v1 (uz.map (frm (fP b)))) (h2 : NumSl W v2 uz) => same9_any (fP b) v1 v2 _ W hpb (by omega) h1 h2 (by rw [HLB.out]; omega))
    go_enter Tryd.func4, Tryd.ntmps4
    go_wp2_with fail
    refine (get9_any b _ T.out).mono ?_
    rintro e v2 ⟨rfl, b9⟩
    replace T := hid (T.out.keep b9)
    replace BW := hid (BW.out.trans (b9.mono BW.out.size))
    clear b9
    go_wp2_with fail
    obtain ⟨v3, hv9⟩ : ∃ v, ((v2.alloc (.cells #[.int .i64 (fID b), .int .u64 (limb (fP b) 0 : Int), .int .u64 (limb (fP b) 1 : Int), .int .u64 (limb (fP b) 2 : Int), .int .u64 (limb (fP b) 3 : Int), .int .u64 (fI b : Int), .int .u64 (limb (fO b) 0 : Int), .int .u64 (limb (fO b) 1 : Int), .int .u64 (limb (fO b) 2 : Int), .int .u64 (limb (fO b) 3 : Int), .int .u64 (limb (fS b) 0 : Int), .int .u64 (limb (fS b) 1 : Int), .int .u64 (limb (fS b) 2 : Int), .int .u64 (limb (fS b) 3 : Int)] 32)).alloc (.cells #[.int .u64 (limb (fP b) 0 : Int), .int .u64 (limb (fP b) 1 : Int), .int .u64 (limb (fP b) 2 : Int), .int .u64 (limb (fP b) 3 : Int)] 29)) = v := ⟨_, rfl⟩
    have hG9 : Below v2.heap.size v2 v3 := by rw [← hv9]; go_grown
    have X_F : Blk v3 (v2.heap.size) 32 [.int .i64 (fID b), .int .u64 (limb (fP b) 0 : Int), .int .u64 (limb (fP b) 1 : Int), .int .u64 (limb (fP b) 2 : Int), .int .u64 (limb (fP b) 3 : Int), .int .u64 (fI b : Int), .int .u64 (limb (fO b) 0 : Int), .int .u64 (limb (fO b) 1 : Int), .int .u64 (limb (fO b) 2 : Int), .int .u64 (limb (fO b) 3 : Int), .int .u64 (limb (fS b) 0 : Int), .int .u64 (limb (fS b) 1 : Int), .int .u64 (limb (fS b) 2 : Int), .int .u64 (limb (fS b) 3 : Int)] := by rw [← hv9]; exact Blk.alloc (Blk.new rfl) _
    have X_P : Blk v3 (v2.heap.size + 1) 29 [.int .u64 (limb (fP b) 0 : Int), .int .u64 (limb (fP b) 1 : Int), .int .u64 (limb (fP b) 2 : Int), .int .u64 (limb (fP b) 3 : Int)] := by rw [← hv9]; exact Blk.new (by simp)
    obtain ⟨bF, hb9⟩ : ∃ k, v2.heap.size = k := ⟨_, rfl⟩
    rw [hb9] at X_F
    rw [hb9] at X_P
    have g_bF : w.heap.size ≤ bF := by rw [← hb9]; exact BW.out.size
    replace T := hid (T.out.keep hG9)
    replace BW := hid (BW.out.trans (hG9.mono BW.out.size))
    clear hG9
    rw [hv9]
    try rw [hb9]
    clear hv9 hb9
    refine (W1.out _ (HS.out.below BW.out)).mono ?_
    rintro e v4 ⟨vw, rfl, ho, b9⟩
    have N_w := hid (nums_own (xs := ua.map (frm (fP b))) (by rw [List.length_map, HLA.out]; exact ho) (small9 (forms9 b _)))
    clear ho
    replace X_F := X_F.keep b9
    replace X_P := X_P.keep b9
    replace T := hid (T.out.keep b9)
    replace BW := hid (BW.out.trans (b9.mono BW.out.size))
    clear b9
    have z_F := X_F.lt
    have c_F0 := X_F.cell (i := 0) rfl
    have c_F1 := X_F.cell (i := 1) rfl
    have c_F2 := X_F.cell (i := 2) rfl
    have c_F3 := X_F.cell (i := 3) rfl
    have c_F4 := X_F.cell (i := 4) rfl
    have c_F5 := X_F.cell (i := 5) rfl
    have c_F6 := X_F.cell (i := 6) rfl
    have c_F7 := X_F.cell (i := 7) rfl
    have c_F8 := X_F.cell (i := 8) rfl
    have c_F9 := X_F.cell (i := 9) rfl
    have c_F10 := X_F.cell (i := 10) rfl
    have c_F11 := X_F.cell (i := 11) rfl
    have c_F12 := X_F.cell (i := 12) rfl
    have c_F13 := X_F.cell (i := 13) rfl
    go_wp2_with fail
    refine (W2.out _ (HS.out.below BW.out)).mono ?_
    rintro e v5 ⟨vz, rfl, ho, b9⟩
    have N_z := hid (nums_own (xs := uz.map (frm (fP b))) (by rw [List.length_map, HLB.out]; exact ho) (small9 (forms9 b _)))
    clear ho
    clear z_F c_F0 c_F1 c_F2 c_F3 c_F4 c_F5 c_F6 c_F7 c_F8 c_F9 c_F10 c_F11 c_F12 c_F13
    replace X_F := X_F.keep b9
    replace X_P := X_P.keep b9
    replace N_w := hid (N_w.out.below b9)
    replace T := hid (T.out.keep b9)
    replace BW := hid (BW.out.trans (b9.mono BW.out.size))
    clear b9
    go_wp2_with fail
    refine (RCC.out _ (HS.out.below BW.out)).mono ?_
    rintro e v6 ⟨rfl, b9⟩
    replace X_F := X_F.keep b9
    replace X_P := X_P.keep b9
    replace N_w := hid (N_w.out.below b9)
    replace N_z := hid (N_z.out.below b9)
    replace T := hid (T.out.keep b9)
    replace BW := hid (BW.out.trans (b9.mono BW.out.size))
    clear b9
    have HSV := hid (HS.out.below BW.out)
    have z_P := X_P.lt
    have c_P0 := X_P.cell (i := 0) rfl
    have c_P1 := X_P.cell (i := 1) rfl
    have c_P2 := X_P.cell (i := 2) rfl
    have c_P3 := X_P.cell (i := 3) rfl
    go_upto_region 9 with (fail)
    go_region_held3 (fun w' => ∀ b o, b < v6.heap.size → w'.cell? ⟨b, o, none⟩ = v6.cell? ⟨b, o, none⟩) ((intro b o h; first | with_reducible exact c5 b o h | with_reducible exact c4 b o h | with_reducible exact c3 b o h | with_reducible exact c2 b o h | with_reducible exact c1 b o h | with_reducible exact cell_drew | with_reducible exact cell_drew.trans (cell_alloc h) | (with_reducible refine (cell_alloc (by (try simp); omega)).trans ?_; first | with_reducible exact c5 b o h | with_reducible exact c4 b o h | with_reducible exact c3 b o h | with_reducible exact c2 b o h | with_reducible exact c1 b o h | with_reducible exact cell_drew) | with_reducible exact (below_set4 H5.out (by omega) _ _ _ _).cell (p := ⟨b, o, none⟩) h | with_reducible exact (below_set4 H4.out (by omega) _ _ _ _).cell (p := ⟨b, o, none⟩) h | with_reducible exact (below_set4 H3.out (by omega) _ _ _ _).cell (p := ⟨b, o, none⟩) h | with_reducible exact (below_set4 H2.out (by omega) _ _ _ _).cell (p := ⟨b, o, none⟩) h | with_reducible exact (below_set4 H1.out (by omega) _ _ _ _).cell (p := ⟨b, o, none⟩) h)) (first | (go_at_call 15; refine (S2.out _ _ _ (N_z.out.below H4.out) hz.out).mono ?_; rintro e ra5 ⟨rfl, b9⟩; have H5 : Hid (Below v6.heap.size v6 ra5) := hid H4.out.trans (b9.mono H4.out.size); clear b9; have c5 := bcell H5.out; have z5 := H5.out.size) | (go_at_call 17; refine (R2.out _ (HSV.out.below H3.out)).mono ?_; rintro e ra4 ⟨vr2, rfl, ho, b9⟩; have H4 : Hid (Below v6.heap.size v6 ra4) := hid H3.out.trans (b9.mono H3.out.size); have hz := hid (nums_own (xs := uz) (by rw [HLB.out]; exact ho) (small9 HBz.out)); clear ho; clear b9; have c4 := bcell H4.out; have z4 := H4.out.size) | (go_at_call 15; refine (S1.out _ _ _ (N_w.out.below H2.out) hw.out).mono ?_; rintro e ra3 ⟨rfl, b9⟩; have H3 : Hid (Below v6.heap.size v6 ra3) := hid H2.out.trans (b9.mono H2.out.size); clear b9; have c3 := bcell H3.out; have z3 := H3.out.size) | (go_at_call 16; refine (R1.out _ (HSV.out.below H1.out)).mono ?_; rintro e ra2 ⟨vr, rfl, ho, b9⟩; have H2 : Hid (Below v6.heap.size v6 ra2) := hid H1.out.trans (b9.mono H1.out.size); have hw := hid (nums_own (xs := ua) (by rw [HLA.out]; exact ho) (small9 HA.out)); clear ho; clear b9; have c2 := bcell H2.out; have z2 := H2.out.size) | (go_at_call 9; refine (alive9_any v6.drew T.out).mono ?_; rintro e ra1 ⟨rfl, b9⟩; have H1 : Hid (Below v6.heap.size v6 ra1) := hid (Below.drew (Below.refl _ v6)).trans b9; clear b9; have c1 := bcell H1.out; have z1 := H1.out.size))
    have hH9 := H5.out
    clear z_P c_P0 c_P1 c_P2 c_P3
    replace X_F := X_F.keep hH9
    replace X_P := X_P.keep hH9
    replace N_w := hid (N_w.out.below hH9)
    replace N_z := hid (N_z.out.below hH9)
    replace T := hid (T.out.keep hH9)
    replace BW := hid (BW.out.trans (hH9.mono BW.out.size))
    clear hH9
    clear H1 c1 z1 H2 c2 z2 H3 c3 z3 H4 c4 z4 H5 c5 z5
    go_wp2
    go_ret
    exact ⟨rfl, BW.out⟩
  · skip
    have W1 := hid (fun (W : World) (h : IntSl W (.slice sa n sc) xs) => weights_bad b (.slice sa n sc) xs W h hlx hc)
    have W2 := hid (fun (W : World) (h : IntSl W (.slice sa n sc) xs) => zero_bad b (.slice sa n sc) xs W h hlx hc)
    obtain ⟨c, hc9⟩ : ∃ c, chkx xs = c := ⟨_, rfl⟩
    rw [hc9] at hc W1 W2 RCC
    have hd : (c != 0) = true := by simp [hc]
    have hd2 : (c == c) = true := by simp
    clear hc hc9 hlx hn
    go_enter Tryd.func4, Tryd.ntmps4
    go_wp2_with fail
    refine (get9_any b _ T.out).mono ?_
    rintro e v7 ⟨rfl, b9⟩
    replace T := hid (T.out.keep b9)
    replace BW := hid (BW.out.trans (b9.mono BW.out.size))
    clear b9
    go_wp2_with fail
    obtain ⟨v8, hv9⟩ : ∃ v, ((v7.alloc (.cells #[.int .i64 (fID b), .int .u64 (limb (fP b) 0 : Int), .int .u64 (limb (fP b) 1 : Int), .int .u64 (limb (fP b) 2 : Int), .int .u64 (limb (fP b) 3 : Int), .int .u64 (fI b : Int), .int .u64 (limb (fO b) 0 : Int), .int .u64 (limb (fO b) 1 : Int), .int .u64 (limb (fO b) 2 : Int), .int .u64 (limb (fO b) 3 : Int), .int .u64 (limb (fS b) 0 : Int), .int .u64 (limb (fS b) 1 : Int), .int .u64 (limb (fS b) 2 : Int), .int .u64 (limb (fS b) 3 : Int)] 32)).alloc (.cells #[.int .u64 (limb (fP b) 0 : Int), .int .u64 (limb (fP b) 1 : Int), .int .u64 (limb (fP b) 2 : Int), .int .u64 (limb (fP b) 3 : Int)] 29)) = v := ⟨_, rfl⟩
    have hG9 : Below v7.heap.size v7 v8 := by rw [← hv9]; go_grown
    have X_F : Blk v8 (v7.heap.size) 32 [.int .i64 (fID b), .int .u64 (limb (fP b) 0 : Int), .int .u64 (limb (fP b) 1 : Int), .int .u64 (limb (fP b) 2 : Int), .int .u64 (limb (fP b) 3 : Int), .int .u64 (fI b : Int), .int .u64 (limb (fO b) 0 : Int), .int .u64 (limb (fO b) 1 : Int), .int .u64 (limb (fO b) 2 : Int), .int .u64 (limb (fO b) 3 : Int), .int .u64 (limb (fS b) 0 : Int), .int .u64 (limb (fS b) 1 : Int), .int .u64 (limb (fS b) 2 : Int), .int .u64 (limb (fS b) 3 : Int)] := by rw [← hv9]; exact Blk.alloc (Blk.new rfl) _
    have X_P : Blk v8 (v7.heap.size + 1) 29 [.int .u64 (limb (fP b) 0 : Int), .int .u64 (limb (fP b) 1 : Int), .int .u64 (limb (fP b) 2 : Int), .int .u64 (limb (fP b) 3 : Int)] := by rw [← hv9]; exact Blk.new (by simp)
    obtain ⟨bF, hb9⟩ : ∃ k, v7.heap.size = k := ⟨_, rfl⟩
    rw [hb9] at X_F
    rw [hb9] at X_P
    have g_bF : w.heap.size ≤ bF := by rw [← hb9]; exact BW.out.size
    replace T := hid (T.out.keep hG9)
    replace BW := hid (BW.out.trans (hG9.mono BW.out.size))
    clear hG9
    rw [hv9]
    try rw [hb9]
    clear hv9 hb9
    refine (W1.out _ (HS.out.below BW.out)).mono ?_
    rintro e v9 ⟨rfl, b9⟩
    replace X_F := X_F.keep b9
    replace X_P := X_P.keep b9
    replace T := hid (T.out.keep b9)
    replace BW := hid (BW.out.trans (b9.mono BW.out.size))
    clear b9
    have z_F := X_F.lt
    have c_F0 := X_F.cell (i := 0) rfl
    have c_F1 := X_F.cell (i := 1) rfl
    have c_F2 := X_F.cell (i := 2) rfl
    have c_F3 := X_F.cell (i := 3) rfl
    have c_F4 := X_F.cell (i := 4) rfl
    have c_F5 := X_F.cell (i := 5) rfl
    have c_F6 := X_F.cell (i := 6) rfl
    have c_F7 := X_F.cell (i := 7) rfl
    have c_F8 := X_F.cell (i := 8) rfl
    have c_F9 := X_F.cell (i := 9) rfl
    have c_F10 := X_F.cell (i := 10) rfl
    have c_F11 := X_F.cell (i := 11) rfl
    have c_F12 := X_F.cell (i := 12) rfl
    have c_F13 := X_F.cell (i := 13) rfl
    go_wp2_with fail
    refine (W2.out _ (HS.out.below BW.out)).mono ?_
    rintro e v10 ⟨rfl, b9⟩
    clear z_F c_F0 c_F1 c_F2 c_F3 c_F4 c_F5 c_F6 c_F7 c_F8 c_F9 c_F10 c_F11 c_F12 c_F13
    replace X_F := X_F.keep b9
    replace X_P := X_P.keep b9
    replace T := hid (T.out.keep b9)
    replace BW := hid (BW.out.trans (b9.mono BW.out.size))
    clear b9
    go_wp2_with fail
    refine (RCC.out _ (HS.out.below BW.out)).mono ?_
    rintro e v11 ⟨rfl, b9⟩
    replace X_F := X_F.keep b9
    replace X_P := X_P.keep b9
    replace T := hid (T.out.keep b9)
    replace BW := hid (BW.out.trans (b9.mono BW.out.size))
    clear b9
    go_wp2_with fail
    refine (alive9_any _ T.out).mono ?_
    rintro e v12 ⟨rfl, b9⟩
    replace X_F := X_F.keep b9
    replace X_P := X_P.keep b9
    replace T := hid (T.out.keep b9)
    replace BW := hid (BW.out.trans (b9.mono BW.out.size))
    clear b9
    go_wp2
    go_ret
    exact ⟨rfl, BW.out⟩
end Go.Proofs.YthdjjogdjabflaaDoor
