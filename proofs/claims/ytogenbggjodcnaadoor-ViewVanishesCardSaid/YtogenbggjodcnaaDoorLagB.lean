/-
  The master, the coefficients for the value at zero, sums of products.
-/
import Derived.Test.YtogenbggjodcnaaDoorLagA
import Derived.Test.YtogenbggjodcnaaDoorPolyB2
import Derived.Test.YtogenbggjodcnaaDoorEval08
import Derived.Deep.RegionHeld3
/-
  The polynomial whose zeros are the points.
-/
namespace Go.Proofs.YtogenbggjodcnaaDoor
open Go.RowKit

attribute [local go_sem] Oper.semAt_some
/-- The product of the first k factors. -/
noncomputable def mas (p : Nat) (ns : List Nat) (k : Nat) : List Nat := flV p [1] (ns.take k)
theorem mas_zero (p : Nat) (ns : List Nat) : mas p ns 0 = [1] := by unfold mas; rw [List.take_zero]; rfl
theorem mas_all (p : Nat) (ns : List Nat) {n : Nat} (h : ns.length ≤ n) : mas p ns n = flV p [1] ns := by unfold mas; rw [List.take_of_length_le h]
theorem mas_next {p : Nat} {ns : List Nat} {k y : Nat} (h : ns[k]? = some y) : mas p ns (k + 1) = pmulV p (mas p ns k) [subm p 0 y, 1] := by unfold mas; rw [take_next h, flV_snoc]; rfl
theorem mas_len {p : Nat} (hp : 0 < p) {ns : List Nat} {k : Nat} (h : k ≤ ns.length) : (mas p ns k).length = k + 1 := by
  unfold mas
  rw [flV_len hp _ (by simp)]
  simp; omega
theorem mas_lt {p : Nat} (hp : 1 < p) (ns : List Nat) (k : Nat) : ∀ y ∈ mas p ns k, y < p := flV_lt (by omega) _ (by simp) (fun x hx => by rw [List.mem_singleton.1 hx]; exact hp)
theorem forms9 (b : Bool) (l : List Nat) : ∀ y ∈ l.map (frm (fP b)), y < fP b := fun y hy => by
  obtain ⟨z, _, rfl⟩ := List.mem_map.1 hy
  exact frm_lt _ (by have := fP_two b; omega)
theorem small9 {b : Bool} {l : List Nat} (h : ∀ y ∈ l, y < fP b) : ∀ y ∈ l, y < B256 := fun y hy => Nat.lt_trans (h y hy) (fP_lt b)
theorem RowF.built {w : World} {g base : Nat} {t : TypeId} {ys : List Nat} (h : Blk w g t (nums ys)) (hb : base ≤ g) (hl : ys.length < 1000000) : RowF w base t g ys.length ys.length (fun i => ys.getD i 0) := by
  refine ⟨nums ys, ⟨nums_len ys, .inr ⟨g, ys.length, (nums ys).toArray, rfl, hb, h, Nat.le_refl _, by unfold maxLen; omega, ?_, ?_⟩⟩, FRow.of ys⟩
  · simp [nums_len]
  · simp [nums_len, List.take_of_length_le]
/-- It returns a new slice of the n numbers xs. -/
def RetRowC (t : TypeId) (n : Nat) (xs : List Nat) (w : World) : Ending → World → Prop := fun e w' => ∃ g c, e = .returned (.slice (some ⟨g, 0, none⟩) n c) ∧ RowF w' w.heap.size t g n c (fun i => xs.getD i 0) ∧ Below w.heap.size w w'
theorem retRowC {t : TypeId} {n : Nat} {xs : List Nat} {w : World} {e : Ending} {w' : World} (h : RetOwn t 4 xs.length (nums xs) w e w') (hn : xs.length = n) (h0 : 0 < n) : RetRowC t n xs w e w' := by
  obtain ⟨v, rfl, ho, hb⟩ := h
  rw [hn] at ho
  obtain ⟨g, c, rfl, hr⟩ := RowF.of ho hn h0
  exact ⟨g, c, rfl, hr, hb⟩
theorem mas_mul (b : Bool) (ns : List Nat) (k gm cm y : Nat) (hy : ns[k]? = some y) (hk : k < 1000000) (W : World) (base : Nat) (a2 : Option Addr) (c2 : Nat) (hR : RowF W base 29 gm (k + 1) cm (fun i => ((mas (fP b) ns k).map (frm (fP b))).getD i 0)) (hN : NumSl W (.slice a2 2 c2) [frm (fP b) (subm (fP b) 0 y), frm (fP b) 1]) (hl : ns.length < 100000) :
    Calls Tryd.prog 76 #[.pointer none, FV b, .slice (some ⟨gm, 0, none⟩) (k + 1) cm, .slice a2 2 c2] W (RetRowC 29 (k + 1 + 1) ((mas (fP b) ns (k + 1)).map (frm (fP b))) W) := by
  have hp := fP_two b
  have hkl : k < ns.length := (List.getElem?_eq_some_iff.1 hy).1
  have hlen : ((mas (fP b) ns k).map (frm (fP b))).length = k + 1 := by rw [List.length_map]; exact mas_len (by omega) (by omega)
  have e : pmulF (fP b) ((mas (fP b) ns k).map (frm (fP b))) [frm (fP b) (subm (fP b) 0 y), frm (fP b) 1] = ((mas (fP b) ns (k + 1)).map (frm (fP b))) := by
    rw [mas_next hy, ← pmul_forms (fP_inv b)]; rfl
  have M := pmul_pos (fID b) (fP b) (fI b) (fO b) (fS b) k 1 cm c2 (some ⟨gm, 0, none⟩) a2 ((mas (fP b) ns k).map (frm (fP b))) [frm (fP b) (subm (fP b) 0 y), frm (fP b) 1] W (hid (fOK b)) (hR.sl hlen (fun _ _ => rfl) (small9 (forms9 b _))) hN (hid (forms9 b _)) (hid (forms9 b [subm (fP b) 0 y, 1])) hlen rfl (by omega) (by omega)
  rw [e] at M
  exact M.mono (fun e w' h => retRowC h (by rw [List.length_map]; exact mas_len (by omega) (by omega)) (by omega))
set_option maxRecDepth 100000 in
set_option maxHeartbeats 2000000 in
theorem master_any (b : Bool) (v : Value) (ns : List Nat) (w : World) (hS : NumSl w v (ns.map (frm (fP b)))) (hx : ∀ y ∈ ns, y < fP b) (hl : ns.length < 100000) :
    Calls Tryd.prog 93 #[FV b, v] w (RetRowC 29 (ns.length + 1) ((flV (fP b) [1] ns).map (frm (fP b))) w) := by
  have BW := hid (Below.refl w.heap.size w)
  have HS := hid hS
  obtain ⟨a, cap, rfl, _⟩ := hS
  rw [List.length_map] at HS ⊢
  obtain ⟨n, hn⟩ : ∃ n, ns.length = n := ⟨_, rfl⟩
  have HN := hid hn
  have HX := hid hx
  have HL := hid hl
  rw [hn] at hl HS ⊢
  clear hn hx
  have hp2 := fP_two b
  go_enter Tryd.func93, Tryd.ntmps93
  go_wp2
  obtain ⟨v1, hv9⟩ : ∃ v, ((w.alloc (.cells #[.int .i64 (fID b), .int .u64 (limb (fP b) 0 : Int), .int .u64 (limb (fP b) 1 : Int), .int .u64 (limb (fP b) 2 : Int), .int .u64 (limb (fP b) 3 : Int), .int .u64 (fI b : Int), .int .u64 (limb (fO b) 0 : Int), .int .u64 (limb (fO b) 1 : Int), .int .u64 (limb (fO b) 2 : Int), .int .u64 (limb (fO b) 3 : Int), .int .u64 (limb (fS b) 0 : Int), .int .u64 (limb (fS b) 1 : Int), .int .u64 (limb (fS b) 2 : Int), .int .u64 (limb (fS b) 3 : Int)] 31)).alloc (.cells #[.int .u64 (limb (fO b) 0 : Int), .int .u64 (limb (fO b) 1 : Int), .int .u64 (limb (fO b) 2 : Int), .int .u64 (limb (fO b) 3 : Int)] 29)) = v := ⟨_, rfl⟩
  have hG9 : Below w.heap.size w v1 := by rw [← hv9]; go_grown
  have X_F : Blk v1 (w.heap.size) 31 [.int .i64 (fID b), .int .u64 (limb (fP b) 0 : Int), .int .u64 (limb (fP b) 1 : Int), .int .u64 (limb (fP b) 2 : Int), .int .u64 (limb (fP b) 3 : Int), .int .u64 (fI b : Int), .int .u64 (limb (fO b) 0 : Int), .int .u64 (limb (fO b) 1 : Int), .int .u64 (limb (fO b) 2 : Int), .int .u64 (limb (fO b) 3 : Int), .int .u64 (limb (fS b) 0 : Int), .int .u64 (limb (fS b) 1 : Int), .int .u64 (limb (fS b) 2 : Int), .int .u64 (limb (fS b) 3 : Int)] := by rw [← hv9]; exact Blk.alloc (Blk.new rfl) _
  have X_O : Blk v1 (w.heap.size + 1) 29 [.int .u64 (limb (fO b) 0 : Int), .int .u64 (limb (fO b) 1 : Int), .int .u64 (limb (fO b) 2 : Int), .int .u64 (limb (fO b) 3 : Int)] := by rw [← hv9]; exact Blk.new (by simp)
  obtain ⟨bF, hb9⟩ : ∃ k, w.heap.size = k := ⟨_, rfl⟩
  rw [hb9] at X_F
  rw [hb9] at X_O
  have g_bF : w.heap.size ≤ bF := by rw [← hb9]; exact BW.out.size
  replace BW := hid (BW.out.trans (hG9.mono BW.out.size))
  clear hG9
  rw [hv9]
  try rw [hb9]
  clear hv9 hb9
  have R0 := RowF.built (base := w.heap.size) (ys := [fO b]) (X_O) (by have := g_bF; omega) (by simp)
  rw [fO_eq] at R0
  have HR0 := hid R0
  clear R0 X_O
  go_loopw [5, 13] (fun y ix wr => ∃ k : Nat, k ≤ n ∧ ix = .int .i64 (k : Int) ∧ Blk wr (bF) 31 [.int .i64 (fID b), .int .u64 (limb (fP b) 0 : Int), .int .u64 (limb (fP b) 1 : Int), .int .u64 (limb (fP b) 2 : Int), .int .u64 (limb (fP b) 3 : Int), .int .u64 (fI b : Int), .int .u64 (limb (fO b) 0 : Int), .int .u64 (limb (fO b) 1 : Int), .int .u64 (limb (fO b) 2 : Int), .int .u64 (limb (fO b) 3 : Int), .int .u64 (limb (fS b) 0 : Int), .int .u64 (limb (fS b) 1 : Int), .int .u64 (limb (fS b) 2 : Int), .int .u64 (limb (fS b) 3 : Int)] ∧ Below w.heap.size w wr ∧ ∃ g c, y = .slice (some ⟨g, 0, none⟩) (k + 1) c ∧ RowF wr w.heap.size 29 g (k + 1) c (fun i => ((mas (fP b) ns k).map (frm (fP b))).getD i 0)) (fun _ ix _ => n - (intOf ix).toNat)
  case atStart => exact ⟨0, Nat.zero_le _, rfl, X_F, BW.out, _, _, rfl, by rw [mas_zero]; exact HR0.out⟩
  case round =>
    clear X_F BW
    obtain ⟨k, hk_k, rfl, X_F, b9, hm_k⟩ := hrel
    obtain ⟨v2, hv9⟩ : ∃ v, v = wr := ⟨_, rfl⟩
    subst hv9
    have BW := hid b9
    clear b9
    have HM_k := hid hm_k
    clear hm_k
    by_cases hlt : k < n
    · skip
      obtain ⟨gm, cm, rfl, hR9⟩ := HM_k.out
      have R_m := hid hR9
      clear hR9 HM_k
      obtain ⟨y, hy⟩ : ∃ y, ns[k]? = some y := ⟨ns[k]'(by rw [HN.out]; exact hlt), List.getElem?_eq_getElem _⟩
      have hyl := HX.out y (List.mem_of_getElem? hy)
      obtain ⟨g, off, rfl, hg, d0, d1, d2, d3⟩ := (HS.out.below BW.out).at4 (k := k) (y := frm (fP b) y) (by rw [List.getElem?_map, hy]; rfl)
      have hk0 : (0 : Int) ≤ (k : Int) := by omega
      have hkn : (k : Int) < (n : Int) := by omega
      have NG := hid (fun W : World => mneg_any b (frm (fP b) y) (frm_lt _ (by omega)) W)
      have ENG := frm_subm (show 0 < fP b by omega) 0 (Nat.le_of_lt hyl)
      rw [frm_zero] at ENG
      rw [ENG] at NG
      have MC := hid (fun (W : World) (base : Nat) (a2 : Option Addr) (c2 : Nat) (hR : RowF W base 29 gm (k + 1) cm (fun i => ((mas (fP b) ns k).map (frm (fP b))).getD i 0)) (hN : NumSl W (.slice a2 2 c2) [frm (fP b) (subm (fP b) 0 y), frm (fP b) 1]) => mas_mul b ns k gm cm y hy (by omega) W base a2 c2 hR hN HL.out)
      have HNB := hid (small9 (forms9 b [subm (fP b) 0 y, 1]))
      obtain ⟨ng, hng⟩ : ∃ z, frm (fP b) (subm (fP b) 0 y) = z := ⟨_, rfl⟩
      rw [← fO_eq] at MC
      have HNB2 : Hid (∀ z ∈ [ng, fO b], z < B256) := hid (by rw [← hng, fO_eq]; exact HNB.out)
      rw [hng] at NG MC
      obtain ⟨yf, hyf⟩ : ∃ z, frm (fP b) y = z := ⟨_, rfl⟩
      rw [hyf] at NG d0 d1 d2 d3
      clear hyf hng ENG hy HNB hyl
      have z_F := X_F.lt
      have c_F0 := X_F.cell (i := 0) rfl
      have c_F1 := X_F.cell (i := 1) rfl
      have c_F2 := X_F.cell (i := 2) rfl
      have c_F3 := X_F.cell (i := 3) rfl
      have c_F4 := X_F.cell (i := 4) rfl
      have c_F5 := X_F.cell (i := 5) rfl
      have c_F6 := X_F.cell (i := 6) rfl
      have c_F7 := X_F.cell (i := 7) rfl
      have c_F8 := X_F.cell (i := 8) rfl
      have c_F9 := X_F.cell (i := 9) rfl
      have c_F10 := X_F.cell (i := 10) rfl
      have c_F11 := X_F.cell (i := 11) rfl
      have c_F12 := X_F.cell (i := 12) rfl
      have c_F13 := X_F.cell (i := 13) rfl
      go_upto_region 5 with (fail)
      obtain ⟨v3, hv9⟩ : ∃ v, (v2.alloc (.cells #[.int .u64 (limb yf 0 : Int), .int .u64 (limb yf 1 : Int), .int .u64 (limb yf 2 : Int), .int .u64 (limb yf 3 : Int)] 29)) = v := ⟨_, rfl⟩
      have hG9 : Below v2.heap.size v2 v3 := by rw [← hv9]; go_grown
      have X_Y : Blk v3 (v2.heap.size) 29 [.int .u64 (limb yf 0 : Int), .int .u64 (limb yf 1 : Int), .int .u64 (limb yf 2 : Int), .int .u64 (limb yf 3 : Int)] := by rw [← hv9]; exact Blk.new rfl
      obtain ⟨bY, hb9⟩ : ∃ k, v2.heap.size = k := ⟨_, rfl⟩
      rw [hb9] at X_Y
      have g_bY : w.heap.size ≤ bY := by rw [← hb9]; exact BW.out.size
      have q_F_bY : bF < bY := by rw [← hb9]; exact X_F.lt
      have q_m_bY := R_m.out.lt
      rw [hb9] at q_m_bY
      clear z_F c_F0 c_F1 c_F2 c_F3 c_F4 c_F5 c_F6 c_F7 c_F8 c_F9 c_F10 c_F11 c_F12 c_F13
      replace R_m := hid (R_m.out.keep hG9)
      replace X_F := X_F.keep hG9
      replace BW := hid (BW.out.trans (hG9.mono BW.out.size))
      clear hG9
      rw [hv9]
      try rw [hb9]
      clear hv9 hb9
      have z_F := X_F.lt
      have c_F0 := X_F.cell (i := 0) rfl
      have c_F1 := X_F.cell (i := 1) rfl
      have c_F2 := X_F.cell (i := 2) rfl
      have c_F3 := X_F.cell (i := 3) rfl
      have c_F4 := X_F.cell (i := 4) rfl
      have c_F5 := X_F.cell (i := 5) rfl
      have c_F6 := X_F.cell (i := 6) rfl
      have c_F7 := X_F.cell (i := 7) rfl
      have c_F8 := X_F.cell (i := 8) rfl
      have c_F9 := X_F.cell (i := 9) rfl
      have c_F10 := X_F.cell (i := 10) rfl
      have c_F11 := X_F.cell (i := 11) rfl
      have c_F12 := X_F.cell (i := 12) rfl
      have c_F13 := X_F.cell (i := 13) rfl
      have z_Y := X_Y.lt
      have c_Y0 := X_Y.cell (i := 0) rfl
      have c_Y1 := X_Y.cell (i := 1) rfl
      have c_Y2 := X_Y.cell (i := 2) rfl
      have c_Y3 := X_Y.cell (i := 3) rfl
      go_wp2_with fail
      go_region_held3 (fun w' => ∀ b o, b < v3.heap.size → w'.cell? ⟨b, o, none⟩ = v3.cell? ⟨b, o, none⟩) ((intro b o h; first | with_reducible exact c2 b o h | with_reducible exact c1 b o h | with_reducible exact cell_drew | with_reducible exact cell_drew.trans (cell_alloc h) | (with_reducible refine (cell_alloc (by (try simp); omega)).trans ?_; first | with_reducible exact c2 b o h | with_reducible exact c1 b o h | with_reducible exact cell_drew) | with_reducible exact (below_set4 H2.out (by omega) _ _ _ _).cell (p := ⟨b, o, none⟩) h | with_reducible exact (below_set4 H1.out (by omega) _ _ _ _).cell (p := ⟨b, o, none⟩) h)) (first | (go_at_call 76; refine (MC.out _ _ _ _ (R_m.out.keep (H1.out.alloc H1.out.size _)) (blk_nums (t := 29) (by exact Blk.new rfl) HNB2.out)).mono ?_; rintro e ra2 ⟨gq, cq, rfl, hq, b9⟩; have H2 : Hid (Below v3.heap.size v3 ra2) := hid (by first | exact H1.out.trans (b9.mono H1.out.size) | exact (H1.out.alloc H1.out.size _).trans (b9.mono (by have := H1.out.size; simp; omega))); have hq := hid (hq.mono (show w.heap.size ≤ _ by have := H1.out.size; have := BW.out.size; simp; omega)); clear b9; have c2 := bcell H2.out; have z2 := H2.out.size) | (go_at_call 109; refine (NG.out _).mono ?_; rintro e ra1 ⟨rfl, b9⟩; have H1 : Hid (Below v3.heap.size v3 ra1) := hid (Below.drew (Below.refl _ v3)).trans b9; clear b9; have c1 := bcell H1.out; have z1 := H1.out.size))
      have hH9 := H2.out
      clear z_F c_F0 c_F1 c_F2 c_F3 c_F4 c_F5 c_F6 c_F7 c_F8 c_F9 c_F10 c_F11 c_F12 c_F13 z_Y c_Y0 c_Y1 c_Y2 c_Y3
      replace R_m := hid (R_m.out.keep hH9)
      replace X_F := X_F.keep hH9
      replace X_Y := X_Y.keep hH9
      replace BW := hid (BW.out.trans (hH9.mono BW.out.size))
      clear hH9
      clear H1 c1 z1 H2 c2 z2
      clear X_Y
      clear R_m
      go_wp2
      go_roundw
      case rel => exact ⟨k + 1, by omega, by go_num, X_F, BW.out, gq, cq, rfl, hq.out⟩
      case measure => simp [intOf]; omega
    · skip
      obtain rfl : n = k := by omega
      clear hlt
      obtain ⟨g, c, rfl, hR9⟩ := HM_k.out
      have HR := hid hR9
      clear hR9 HM_k
      go_wp2
      refine bodyPost_ret (by simp only [results, Tryd.results93]; go_simp; try rfl) rfl ?_
      exact ⟨g, c, rfl, by rw [← mas_all (fP b) ns (Nat.le_of_eq HN.out)]; exact HR.out, BW.out⟩
end Go.Proofs.YtogenbggjodcnaaDoor
/-
  Zero: the coefficients of the values at the points for the value at zero.
-/
namespace Go.Proofs.YtogenbggjodcnaaDoor
open Go.RowKit

attribute [local go_sem] Oper.semAt_some
/-- A slice of numbers in memory that the call has made. -/
def NewQ (u w : World) (v : Value) (xs : List Nat) : Prop := NumSl w v xs ∧ ∀ a n c, v = .slice a n c → ∀ ad, a = some ad → u.heap.size ≤ ad.block
theorem NewQ.own {t : TypeId} {n : Nat} {zs : List Nat} {u w : World} {v : Value} (h : w.ownsRow u.heap.size t 4 v n (nums zs)) (hn : zs.length = n) (hz : ∀ z ∈ zs, z < B256) : NewQ u w v zs := by
  obtain ⟨a, c, rfl, _, hb, _⟩ := owns_form h
  refine ⟨nums_own (by rw [hn]; exact h) hz, fun a' n' c' e ad he => ?_⟩
  cases e
  obtain ⟨g, rfl, hg, _⟩ := hb ad he
  exact hg
theorem NewQ.set4 {u w : World} {v : Value} {xs : List Nat} (h : NewQ u w v xs) {c : Nat} (hc : c < u.heap.size) (v0 v1 v2 v3 : Value) : NumSl ((((w.setCell ⟨c, 0, none⟩ v0).setCell ⟨c, 1, none⟩ v1).setCell ⟨c, 2, none⟩ v2).setCell ⟨c, 3, none⟩ v3) v xs := by
  obtain ⟨⟨a, cap, rfl, hl, hr⟩, h2⟩ := h
  exact NumSl.only ⟨a, cap, rfl, hl, hr⟩ (only_set4 w c v0 v1 v2 v3) (fun ad e k => by have := h2 _ _ _ rfl ad e; omega)
theorem NewQ.alloc {u w : World} {v : Value} {xs : List Nat} (h : NewQ u w v xs) (o : Obj) : NumSl (w.alloc o) v xs := h.1.below ((Below.refl _ _).alloc (Nat.le_refl _) _)
/-- A slice of numbers in memory from N on. -/
def NewB (N : Nat) (w : World) (v : Value) (xs : List Nat) : Prop := NumSl w v xs ∧ ∀ a n c, v = .slice a n c → ∀ ad, a = some ad → N ≤ ad.block
theorem NewQ.set4b {N : Nat} {u w : World} {v : Value} {xs : List Nat} (h : NewQ u w v xs) (hn : N ≤ u.heap.size) {c : Nat} (hc : c < u.heap.size) (v0 v1 v2 v3 : Value) : NewB N ((((w.setCell ⟨c, 0, none⟩ v0).setCell ⟨c, 1, none⟩ v1).setCell ⟨c, 2, none⟩ v2).setCell ⟨c, 3, none⟩ v3) v xs :=
  ⟨h.set4 hc v0 v1 v2 v3, fun a n c e ad he => Nat.le_trans hn (h.2 a n c e ad he)⟩
theorem NewQ.allocb {N : Nat} {u w : World} {v : Value} {xs : List Nat} (h : NewQ u w v xs) (hn : N ≤ u.heap.size) (o : Obj) : NewB N (w.alloc o) v xs := ⟨h.alloc o, fun a n c e ad he => Nat.le_trans hn (h.2 a n c e ad he)⟩
def RetQ9 (r : Nat) (qs : List Nat) (w : World) : Ending → World → Prop := fun e w' => ∃ q, e = .returned (.tuple #[q, vec r]) ∧ NewQ w w' q qs ∧ Below w.heap.size w w'
/-- The master's quotient by a point. -/
theorem quo9 (b : Bool) (ns : List Nat) (i : Nat) (hx : ∀ y ∈ ns, y < fP b) (hi : i < ns.length) (hl : ns.length < 100000) (v : Value) (W : World) (hS : NumSl W v ((flV (fP b) [1] ns).map (frm (fP b)))) :
    Calls Tryd.prog 97 #[.pointer none, FV b, v, vec (frm (fP b) (ns.getD i 0))] W (RetQ9 (frm (fP b) (evm (fP b) (ns.getD i 0) (flV (fP b) [1] ns))) ((flV (fP b) [1] (oth ns i)).map (frm (fP b))) W) := by
  have hp := fP_two b
  have hlen : (flV (fP b) [1] ns).length = ns.length + 1 := by rw [flV_len (by omega) _ (by simp)]; simp; omega
  refine (quotient_any (fID b) (fP b) (fI b) (fO b) (fS b) (frm (fP b) (ns.getD i 0)) v ((flV (fP b) [1] ns).map (frm (fP b))) W (hid (fOK b)) (hid (frm_lt _ (by omega))) hS (forms9 b _) (by rw [List.length_map, hlen]; omega)).mono fun e w' h => ?_
  obtain ⟨q, he, ho, hb⟩ := h
  have e1 : quo (fP b) (frm (fP b) (ns.getD i 0)) ((flV (fP b) [1] ns).map (frm (fP b))) = ((flV (fP b) [1] (oth ns i)).map (frm (fP b))) := by rw [quo_forms (fP_inv b), quo_point (by omega) hx hi]
  rw [e1] at ho
  refine ⟨q, by rw [he, horP_forms (fP_inv b)], NewQ.own ho ?_ (small9 (forms9 b _)), hb⟩
  rw [← e1, quo_len]
theorem put_over {f g : Nat → Nat} {k r n : Nat} (h : f k = r) : ∀ t, t < n → (fun u => if u < k + 1 then f u else g u) t = (fun u => if u = k then r else (if u < k then f u else g u)) t := fun t _ => by
  by_cases e : t = k
  · subst e; simp [h]
  · by_cases l : t < k
    · have : t < k + 1 := by omega
      simp [e, l, this]
    · have : ¬ t < k + 1 := by omega
      simp [e, l, this]
/-- All coefficients. -/
noncomputable def zcs (p : Nat) (xs : List Nat) : List Nat := (List.range xs.length).map (zco p xs)
theorem zcs_len (p : Nat) (xs : List Nat) : (zcs p xs).length = xs.length := by simp [zcs]
theorem zcs_at {p : Nat} {xs : List Nat} {i : Nat} (h : i < xs.length) : (zcs p xs)[i]? = some (zco p xs i) := by unfold zcs; rw [List.getElem?_map, List.getElem?_range h]; rfl
end Go.Proofs.YtogenbggjodcnaaDoor
/-
  The sum of products.
-/
namespace Go.Proofs.YtogenbggjodcnaaDoor
open Go.RowKit

attribute [local go_sem] Oper.semAt_some
theorem blk_zero9 {w : World} {b v : Nat} {t : TypeId} (h : Blk w b t [.int .u64 0, .int .u64 0, .int .u64 0, .int .u64 0]) (e : v = 0) : Blk w b t (limbs v) := by
  subst e; rw [limbs_0]; exact h
end Go.Proofs.YtogenbggjodcnaaDoor
