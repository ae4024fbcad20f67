/-
  The factors of the polynomial that vanishes at points, one by one.
-/
import Derived.Test.YtogenbggjodcnaaDoorByteB
import Derived.Test.YtogenbggjodcnaaDoorLagA
import Derived.Test.YtogenbggjodcnaaDoorLagB
import Derived.TacticsInMore
import Derived.LoopIn
import Derived.LoopNIn
namespace Go.Proofs.YtogenbggjodcnaaDoor
open Go.RowKit Go.Shelf

attribute [local go_sem] Oper.semAt_some
theorem owns_keeps {w w' : World} {N base n : Nat} {e : TypeId} {size : Nat} {v : Value} {xs : List Value} (h : w.ownsRow base e size v n xs) (k : Keeps N w w') (hN : N ≤ base) (hz : w.heap.size ≤ w'.heap.size) : w'.ownsRow base e size v n xs := by
  obtain ⟨h1, h2⟩ := h
  refine ⟨h1, ?_⟩
  rcases h2 with h2 | ⟨g, cap, cur, hv, hb, hh, hr⟩
  · exact .inl h2
  · exact .inr ⟨g, cap, cur, hv, hb, k g _ (Nat.le_trans hN hb) hh rfl, hr⟩
/-- How a factor is spelled. -/
def facE (b : Bool) (y : Nat) (args : Array Value) (W : World) : Prop := ∃ a c, args = #[.slice a 2 c] ∧ NumSl W (.slice a 2 c) [frm (fP b) 1, frm (fP b) (subm (fP b) 0 y)]
theorem factors_any (b : Bool) (a : Option Addr) (n c : Nat) (w : World) : Calls Tryd.prog 75 #[FV b, .slice a n c] w fun e w' => e = .returned (.func (.func 106) #[] #[ptr' (w.heap.size + 1), ptr' w.heap.size]) ∧ (w.alloc (.cells #[.int .i64 (fID b), .int .u64 (limb (fP b) 0 : Int), .int .u64 (limb (fP b) 1 : Int), .int .u64 (limb (fP b) 2 : Int), .int .u64 (limb (fP b) 3 : Int), .int .u64 (fI b : Int), .int .u64 (limb (fO b) 0 : Int), .int .u64 (limb (fO b) 1 : Int), .int .u64 (limb (fO b) 2 : Int), .int .u64 (limb (fO b) 3 : Int), .int .u64 (limb (fS b) 0 : Int), .int .u64 (limb (fS b) 1 : Int), .int .u64 (limb (fS b) 2 : Int), .int .u64 (limb (fS b) 3 : Int)] 31)).alloc (.cells #[.slice a n c] 22) = w' := by
  go_enter Tryd.func75, Tryd.ntmps75
  go_wp2
  go_ret
  exact ⟨rfl, rfl⟩
set_option maxRecDepth 100000 in
set_option maxHeartbeats 4000000 in
theorem factors_seq (b : Bool) (v : Value) (xs : List Int) (bx bf N : Nat) (w : World) (X_X : Blk w bx 22 [v]) (X_F : Blk w bf 31 [.int .i64 (fID b), .int .u64 (limb (fP b) 0 : Int), .int .u64 (limb (fP b) 1 : Int), .int .u64 (limb (fP b) 2 : Int), .int .u64 (limb (fP b) 3 : Int), .int .u64 (fI b : Int), .int .u64 (limb (fO b) 0 : Int), .int .u64 (limb (fO b) 1 : Int), .int .u64 (limb (fO b) 2 : Int), .int .u64 (limb (fO b) 3 : Int), .int .u64 (limb (fS b) 0 : Int), .int .u64 (limb (fS b) 1 : Int), .int .u64 (limb (fS b) 2 : Int), .int .u64 (limb (fS b) 3 : Int)]) (hS : IntSl w v xs) (hx : Hid (∀ x ∈ xs, 1 ≤ x ∧ x ≤ 255)) (hl : xs.length < 1000000) (hNx : N ≤ bx) (hNf : N ≤ bf) :
    SeqR Tryd.prog 106 #[ptr' bx, ptr' bf] (facE b) (fun A B => Keeps N A B ∧ A.heap.size ≤ B.heap.size) ((pts xs).map (invm (fP b))) w := by
  intro L J Jx hJ hJx hY h0
  have BW := hid (Below.refl w.heap.size w)
  have HS := hid hS
  obtain ⟨sa, sc, rfl, _⟩ := hS
  obtain ⟨n, hn⟩ : ∃ n, xs.length = n := ⟨_, rfl⟩
  have HN := hid hn
  have HPL := hid (pts_len xs)
  have HPB := hid (pts_lt hx.out (show 255 < fP b by cases b <;> decide))
  rw [hn] at hl HS HPL X_X
  have HJ0 := hid h0
  have HJS := hid hJ
  have HY := hid hY
  have hNw : N ≤ w.heap.size := Nat.le_of_lt (Nat.lt_of_le_of_lt hNx X_X.lt)
  clear h0 hJ hJx hY hn
  have hp2 := fP_two b
  obtain ⟨ys, hys⟩ : ∃ ys, (pts xs).map (invm (fP b)) = ys := ⟨_, rfl⟩
  rw [hys] at HY ⊢
  have HYS := hid hys
  clear hys
  refine (callsIn_wide (n := 5)).1 ?_
  refine callsIn_of_wp Tryd.func106 rfl trivial ?_ rfl
  simp only [Tryd.ntmps106, List.size_toArray, List.length_cons, List.length_nil, Nat.reduceAdd, Nat.reduceSub, Array.replicate_succ, Array.replicate_zero, List.push_toArray, List.append_toArray, List.nil_append, List.cons_append]
  have hmix : Tryd.prog.follows .mixedOrders = true := by kernel_rfl
  refine wpIn_wide.2 ?_
  obtain ⟨wq_o, hmk_o, hR_o, hgq_o⟩ := run_made w n hl
  have z_X := X_X.lt
  have c_X0 := X_X.cell (i := 0) rfl
  go_upto_region 1 with (fail)
  have b9 : Below w.heap.size w wq_o := Below.grown (Below.refl _ _) hgq_o (Nat.le_refl _) (fun j hj => by cases hj)
  obtain ⟨go, hg9⟩ : ∃ q, w.heap.size = q := ⟨_, rfl⟩
  have lt9 : w.heap.size ≤ go := by omega
  have q_X_go : bx < go := Nat.lt_of_lt_of_le X_X.lt lt9
  have q_F_go : bf < go := Nat.lt_of_lt_of_le X_F.lt lt9
  have z0_go : w.heap.size ≤ go := Nat.le_trans BW.out.size lt9
  have R_o := hid (hR_o.mono BW.out.size)
  rw [hg9] at R_o
  try rw [hg9]
  clear hR_o hgq_o hmk_o hg9 lt9
  clear z_X c_X0
  replace X_X := X_X.keep b9
  replace X_F := X_F.keep b9
  replace BW := hid (BW.out.trans (b9.mono BW.out.size))
  clear b9
  replace R_o := hid (R_o.out.mono (b' := w.heap.size) z0_go)
  have z_X := X_X.lt
  have c_X0 := X_X.cell (i := 0) rfl
  go_wp2
  clear z_X c_X0
  go_loopw [14] (fun ix wr => ∃ k : Nat, k ≤ n ∧ ix = .int .i64 (k : Int) ∧ Blk wr (bx) 22 [.slice sa n sc] ∧ Blk wr (bf) 31 [.int .i64 (fID b), .int .u64 (limb (fP b) 0 : Int), .int .u64 (limb (fP b) 1 : Int), .int .u64 (limb (fP b) 2 : Int), .int .u64 (limb (fP b) 3 : Int), .int .u64 (fI b : Int), .int .u64 (limb (fO b) 0 : Int), .int .u64 (limb (fO b) 1 : Int), .int .u64 (limb (fO b) 2 : Int), .int .u64 (limb (fO b) 3 : Int), .int .u64 (limb (fS b) 0 : Int), .int .u64 (limb (fS b) 1 : Int), .int .u64 (limb (fS b) 2 : Int), .int .u64 (limb (fS b) 3 : Int)] ∧ RowF wr w.heap.size 29 go n n (fun t => if t < k then frm (fP b) ((pts xs).getD t 0) else 0) ∧ Below w.heap.size w wr) (fun ix _ => n - (intOf ix).toNat)
  case atStart => exact ⟨0, Nat.zero_le _, rfl, X_X, X_F, (R_o.out.congr put_none), BW.out⟩
  case round =>
    clear X_X X_F R_o BW
    obtain ⟨k, hk_k, rfl, X_X, X_F, r9_o, b9⟩ := hrel
    obtain ⟨v2, hv9⟩ : ∃ v, v = wr := ⟨_, rfl⟩
    subst hv9
    have R_o := hid r9_o
    clear r9_o
    have BW := hid b9
    clear b9
    by_cases hlt : k < n
    · skip
      obtain ⟨x, hx9⟩ : ∃ x, xs[k]? = some x := ⟨xs[k]'(by rw [HN.out]; exact hlt), List.getElem?_eq_getElem _⟩
      obtain ⟨h1, h2⟩ := hx.out x (List.mem_of_getElem? hx9)
      have HP := hid (pts_at hx9)
      obtain ⟨g, off, rfl, hg, d0⟩ := (HS.out.below BW.out).at hx9
      clear hx9
      have hk0 : (0 : Int) ≤ (k : Int) := by omega
      have hkn : (k : Int) < (n : Int) := by omega
      obtain ⟨y, hy⟩ : ∃ y, frm (fP b) x.toNat = y := ⟨_, rfl⟩
      have HY9 := hid hy
      have M := hid (fun W : World => topt_any b x h1 h2 W)
      rw [hy] at M
      clear hy
      have z_F := X_F.lt
      have c_F0 := X_F.cell (i := 0) rfl
      have c_F1 := X_F.cell (i := 1) rfl
      have c_F2 := X_F.cell (i := 2) rfl
      have c_F3 := X_F.cell (i := 3) rfl
      have c_F4 := X_F.cell (i := 4) rfl
      have c_F5 := X_F.cell (i := 5) rfl
      have c_F6 := X_F.cell (i := 6) rfl
      have c_F7 := X_F.cell (i := 7) rfl
      have c_F8 := X_F.cell (i := 8) rfl
      have c_F9 := X_F.cell (i := 9) rfl
      have c_F10 := X_F.cell (i := 10) rfl
      have c_F11 := X_F.cell (i := 11) rfl
      have c_F12 := X_F.cell (i := 12) rfl
      have c_F13 := X_F.cell (i := 13) rfl
      go_wp2_with fail
      refine (M.out _).mono ?_
      rintro e v3 ⟨rfl, b9⟩
      clear z_F c_F0 c_F1 c_F2 c_F3 c_F4 c_F5 c_F6 c_F7 c_F8 c_F9 c_F10 c_F11 c_F12 c_F13
      replace R_o := hid (R_o.out.keep b9)
      replace X_X := X_X.keep b9
      replace X_F := X_F.keep b9
      replace BW := hid (BW.out.trans (b9.mono BW.out.size))
      clear b9
      obtain ⟨r0, r1, r2, r3⟩ := R_o.out.cells (i := k) (v := 0) hlt (by simp)
      have zr := R_o.out.lt
      have fr0 := R_o.out.frozen (k * 4)
      have fr1 := R_o.out.frozen (k * 4 + 1)
      have fr2 := R_o.out.frozen (k * 4 + 2)
      have fr3 := R_o.out.frozen (k * 4 + 3)
      have hk0 : (0 : Int) ≤ (k : Int) := by omega
      have hkn : (k : Int) < (n : Int) := by omega
      go_wp2
      obtain ⟨v4, hs9⟩ : ∃ q, ((((v3.setCell ⟨go, k * 4, none⟩ (.int .u64 (limb y 0 : Int))).setCell ⟨go, k * 4 + 1, none⟩ (.int .u64 (limb y 1 : Int))).setCell ⟨go, k * 4 + 2, none⟩ (.int .u64 (limb y 2 : Int))).setCell ⟨go, k * 4 + 3, none⟩ (.int .u64 (limb y 3 : Int))) = q := ⟨_, rfl⟩
      have O9 : Only (fun k => k = go) v3 v4 := by rw [← hs9]; exact only_row _ _ _ _ _ _ _
      have S9 : RowF v4 w.heap.size 29 go n n (fun t => if t < k + 1 then frm (fP b) ((pts xs).getD t 0) else 0) := by rw [← hs9]; exact (R_o.out.store hlt y).congr (put_next (by rw [HP.out]; exact HY9.out))
      rw [hs9]
      clear hs9
      clear r0 r1 r2 r3 zr fr0 fr1 fr2 fr3
      replace X_X := X_X.only O9 (show ¬ (bx = go) by omega)
      replace X_F := X_F.only O9 (show ¬ (bf = go) by omega)
      replace BW := hid (BW.out.trans (O9.below (fun k h => by cases h; exact z0_go) BW.out.size))
      replace R_o := hid S9
      clear O9 S9
      go_roundw
      case rel => exact ⟨k + 1, by omega, by go_num, X_X, X_F, R_o.out, BW.out⟩
      case measure => simp [intOf]; omega
    · skip
      obtain rfl : n = k := by omega
      clear hlt
      have hNo : NumSl v2 (.slice (some ⟨go, 0, none⟩) n n) ((pts xs).map (frm (fP b))) := R_o.out.sl (by rw [List.length_map]; exact HPL.out) (fun i hi => by simp only [hi, if_true]; rw [getD_frm]) (small9 (forms9 b _))
      have BC := batch_any (fID b) (fP b) (fI b) (fS b) _ (pts xs) v2 (hid (fOK b)) (hid (fer_b b)) hNo (hid HPB.out) (by rw [HPL.out]; exact hl)
      rw [← fO_eq, HPL.out] at BC
      have HBC := hid BC
      clear BC hNo
      have z_F := X_F.lt
      have c_F0 := X_F.cell (i := 0) rfl
      have c_F1 := X_F.cell (i := 1) rfl
      have c_F2 := X_F.cell (i := 2) rfl
      have c_F3 := X_F.cell (i := 3) rfl
      have c_F4 := X_F.cell (i := 4) rfl
      have c_F5 := X_F.cell (i := 5) rfl
      have c_F6 := X_F.cell (i := 6) rfl
      have c_F7 := X_F.cell (i := 7) rfl
      have c_F8 := X_F.cell (i := 8) rfl
      have c_F9 := X_F.cell (i := 9) rfl
      have c_F10 := X_F.cell (i := 10) rfl
      have c_F11 := X_F.cell (i := 11) rfl
      have c_F12 := X_F.cell (i := 12) rfl
      have c_F13 := X_F.cell (i := 13) rfl
      go_wp2_with fail
      clear z_F c_F0 c_F1 c_F2 c_F3 c_F4 c_F5 c_F6 c_F7 c_F8 c_F9 c_F10 c_F11 c_F12 c_F13
      refine HBC.out.mono ?_
      rintro e v5 ⟨vq, rfl, ho9, b9⟩
      clear HBC
      have N_q := hid (owns_mono ho9 (base' := N) (by have := BW.out.size; omega))
      clear ho9
      replace R_o := hid (R_o.out.keep b9)
      replace X_X := X_X.keep b9
      replace X_F := X_F.keep b9
      replace BW := hid (BW.out.trans (b9.mono BW.out.size))
      clear b9
      clear R_o
      obtain ⟨aq, cq, rfl, _, _, _⟩ := owns_form N_q.out
      go_wp2
      have hYL : ((pts xs).map (invm (fP b))).length = n := by rw [List.length_map]; exact HPL.out
      have HYL := hid hYL
      have HYB : Hid (∀ y ∈ ((pts xs).map (invm (fP b))), y < fP b) := hid (fun y hy => by obtain ⟨z, _, rfl⟩ := List.mem_map.1 hy; exact invm_lt _ (by omega))
      have J1 := hid (HJS.out [] _ _ HJ0.out (Below.grow BW.out w.heap.size))
      have zNw : w.heap.size ≤ v5.heap.size := BW.out.size
      have HQ := N_q
      clear BW hYL
      rw [HYS.out] at HYL HYB HQ
      clear N_q
      refine (wpIn_wide (n := 5)).1 ?_
      gi_loopw [32] (fun i wr => ∃ k : Nat, k ≤ n ∧ i = .int .i64 (k : Int) ∧ Blk wr bx 22 [.slice sa n sc] ∧ Blk wr bf 31 [.int .i64 (fID b), .int .u64 (limb (fP b) 0 : Int), .int .u64 (limb (fP b) 1 : Int), .int .u64 (limb (fP b) 2 : Int), .int .u64 (limb (fP b) 3 : Int), .int .u64 (fI b : Int), .int .u64 (limb (fO b) 0 : Int), .int .u64 (limb (fO b) 1 : Int), .int .u64 (limb (fO b) 2 : Int), .int .u64 (limb (fO b) 3 : Int), .int .u64 (limb (fS b) 0 : Int), .int .u64 (limb (fS b) 1 : Int), .int .u64 (limb (fS b) 2 : Int), .int .u64 (limb (fS b) 3 : Int)] ∧ wr.ownsRow N 29 4 (.slice aq n cq) n (nums (ys.map (frm (fP b)))) ∧ w.heap.size ≤ wr.heap.size ∧ J (ys.take k) wr) (fun i _ => n - (intOf i).toNat)
      case atStart => exact ⟨0, Nat.zero_le _, rfl, X_X, X_F, HQ.out, zNw, J1.out⟩
      case round =>
        clear X_X X_F HQ J1 zNw
        obtain ⟨k, hk, rfl, X_X, X_F, hQ, hz, hJs⟩ := hrel
        have HJs := hid hJs
        have N_q := hid hQ
        have HZ := hid hz
        clear hJs hQ hz
        obtain ⟨u, hu9⟩ : ∃ u, u = wr := ⟨_, rfl⟩
        subst hu9
        by_cases hlt : k < n
        · skip
          have BW := hid (Below.refl u.heap.size u)
          obtain ⟨y, hy⟩ : ∃ y, ys[k]? = some y := ⟨ys[k]'(by rw [HYL.out]; exact hlt), List.getElem?_eq_getElem _⟩
          have hyl := HYB.out y (List.mem_of_getElem? hy)
          have hsnoc : ys.take k ++ [y] = ys.take (k + 1) := (take_next hy).symm
          obtain ⟨g, off, hge, hg, d0, d1, d2, d3⟩ := (nums_own (xs := ys.map (frm (fP b))) (by rw [List.length_map, HYL.out]; exact N_q.out) (small9 (forms9 b _))).at4 (k := k) (y := frm (fP b) y) (by rw [List.getElem?_map, hy]; rfl)
          subst hge
          have hk0 : (0 : Int) ≤ (k : Int) := by omega
          have hkn : (k : Int) < (n : Int) := by omega
          have NG := hid (fun W : World => mneg_any b (frm (fP b) y) (frm_lt _ (by omega)) W)
          have ENG := frm_subm (show 0 < fP b by omega) 0 (Nat.le_of_lt hyl)
          rw [frm_zero] at ENG
          rw [ENG] at NG
          have HNB := hid (small9 (forms9 b [1, subm (fP b) 0 y]))
          have HSN := hid hsnoc
          have HPX := hid (show ys.take (k + 1) <+: ys from List.take_prefix _ _)
          obtain ⟨ng, hng⟩ : ∃ z, frm (fP b) (subm (fP b) 0 y) = z := ⟨_, rfl⟩
          have HNB2 : Hid (∀ z ∈ [fO b, ng], z < B256) := hid (by rw [← hng, fO_eq]; exact HNB.out)
          have HEN := hid (fun (W : World) (a : Option Addr) (c : Nat) (h : NumSl W (.slice a 2 c) [fO b, ng]) => (show facE b y #[.slice a 2 c] W from ⟨a, c, rfl, by rw [hng, ← fO_eq]; exact h⟩))
          rw [hng] at NG
          obtain ⟨yf, hyf⟩ : ∃ z, frm (fP b) y = z := ⟨_, rfl⟩
          rw [hyf] at NG d0 d1 d2 d3
          clear hyf hng ENG HNB hyl hsnoc
          gi_wp2
          obtain ⟨v6, hv9⟩ : ∃ v, (u.alloc (.cells #[.int .u64 (limb yf 0 : Int), .int .u64 (limb yf 1 : Int), .int .u64 (limb yf 2 : Int), .int .u64 (limb yf 3 : Int)] 29)) = v := ⟨_, rfl⟩
          have hG9 : Below u.heap.size u v6 := by rw [← hv9]; go_grown
          have X_Y : Blk v6 (u.heap.size) 29 [.int .u64 (limb yf 0 : Int), .int .u64 (limb yf 1 : Int), .int .u64 (limb yf 2 : Int), .int .u64 (limb yf 3 : Int)] := by rw [← hv9]; exact Blk.new rfl
          obtain ⟨bY, hb9⟩ : ∃ k, u.heap.size = k := ⟨_, rfl⟩
          rw [hb9] at X_Y
          have g_bY : u.heap.size ≤ bY := by rw [← hb9]; exact BW.out.size
          have q_X_bY : bx < bY := by rw [← hb9]; exact X_X.lt
          have q_F_bY : bf < bY := by rw [← hb9]; exact X_F.lt
          replace X_X := X_X.keep hG9
          replace X_F := X_F.keep hG9
          replace BW := hid (BW.out.trans (hG9.mono BW.out.size))
          clear hG9
          rw [hv9]
          try rw [hb9]
          clear hv9 hb9
          have z_F := X_F.lt
          have c_F0 := X_F.cell (i := 0) rfl
          have c_F1 := X_F.cell (i := 1) rfl
          have c_F2 := X_F.cell (i := 2) rfl
          have c_F3 := X_F.cell (i := 3) rfl
          have c_F4 := X_F.cell (i := 4) rfl
          have c_F5 := X_F.cell (i := 5) rfl
          have c_F6 := X_F.cell (i := 6) rfl
          have c_F7 := X_F.cell (i := 7) rfl
          have c_F8 := X_F.cell (i := 8) rfl
          have c_F9 := X_F.cell (i := 9) rfl
          have c_F10 := X_F.cell (i := 10) rfl
          have c_F11 := X_F.cell (i := 11) rfl
          have c_F12 := X_F.cell (i := 12) rfl
          have c_F13 := X_F.cell (i := 13) rfl
          have z_Y := X_Y.lt
          have c_Y0 := X_Y.cell (i := 0) rfl
          have c_Y1 := X_Y.cell (i := 1) rfl
          have c_Y2 := X_Y.cell (i := 2) rfl
          have c_Y3 := X_Y.cell (i := 3) rfl
          refine wpIn_round_soft1_w (v0 := .func (.yield L) #[] #[]) (C := fun W' => Below v6.heap.size v6 W') 5 (by kernel_rfl) (by kernel_rfl) (by decide) (by kernel_rfl) (by kernel_rfl) (by kernel_rfl) (by kernel_rfl) (by kernel_rfl) (by kernel_rfl) (fun _ _ _ h => h) ⟨Or.inl ⟨by rfl, fun _ => rfl⟩, fun _ => rfl⟩ ((Below.refl _ _).drew) ?_
          simp only [List.take_succ_cons, List.take_zero, List.drop_succ_cons, List.drop_zero]
          simp only [Act.put, List.setIfInBounds_toArray, List.set_cons_zero, List.set_cons_succ]
          refine wpQuiet_step (fun K hK => ?_)
          rw [if_pos (by rfl)]
          refine ⟨.pointer (some ⟨bf, 6, none⟩), fun W' hW => ?_, hK _ ?_⟩
          · go_simp
          clear hK K
          simp only [Act.put, List.setIfInBounds_toArray, List.set_cons_zero, List.set_cons_succ]
          refine wpQuiet_step (fun K hK => ?_)
          rw [if_pos (by rfl)]
          refine ⟨vec (fO b), fun W' hW => ?_, hK _ ?_⟩
          · have e_6 := (hW.cell (p := ⟨bf, 6, none⟩) z_F).trans c_F6
            have e_7 := (hW.cell (p := ⟨bf, 7, none⟩) z_F).trans c_F7
            have e_8 := (hW.cell (p := ⟨bf, 8, none⟩) z_F).trans c_F8
            have e_9 := (hW.cell (p := ⟨bf, 9, none⟩) z_F).trans c_F9
            go_simp
          clear hK K
          simp only [Act.put, List.setIfInBounds_toArray, List.set_cons_zero, List.set_cons_succ]
          refine wpQuiet_step (fun K hK => ?_)
          rw [if_pos (by rfl)]
          refine ⟨.agg #[.int .i64 (fID b), .int .u64 (limb (fP b) 0 : Int), .int .u64 (limb (fP b) 1 : Int), .int .u64 (limb (fP b) 2 : Int), .int .u64 (limb (fP b) 3 : Int), .int .u64 (fI b : Int), .int .u64 (limb (fO b) 0 : Int), .int .u64 (limb (fO b) 1 : Int), .int .u64 (limb (fO b) 2 : Int), .int .u64 (limb (fO b) 3 : Int), .int .u64 (limb (fS b) 0 : Int), .int .u64 (limb (fS b) 1 : Int), .int .u64 (limb (fS b) 2 : Int), .int .u64 (limb (fS b) 3 : Int)], fun W' hW => ?_, hK _ ?_⟩
          · have e_0 := (hW.cell (p := ⟨bf, 0, none⟩) z_F).trans c_F0
            have e_1 := (hW.cell (p := ⟨bf, 1, none⟩) z_F).trans c_F1
            have e_2 := (hW.cell (p := ⟨bf, 2, none⟩) z_F).trans c_F2
            have e_3 := (hW.cell (p := ⟨bf, 3, none⟩) z_F).trans c_F3
            have e_4 := (hW.cell (p := ⟨bf, 4, none⟩) z_F).trans c_F4
            have e_5 := (hW.cell (p := ⟨bf, 5, none⟩) z_F).trans c_F5
            have e_6 := (hW.cell (p := ⟨bf, 6, none⟩) z_F).trans c_F6
            have e_7 := (hW.cell (p := ⟨bf, 7, none⟩) z_F).trans c_F7
            have e_8 := (hW.cell (p := ⟨bf, 8, none⟩) z_F).trans c_F8
            have e_9 := (hW.cell (p := ⟨bf, 9, none⟩) z_F).trans c_F9
            have e_10 := (hW.cell (p := ⟨bf, 10, none⟩) z_F).trans c_F10
            have e_11 := (hW.cell (p := ⟨bf, 11, none⟩) z_F).trans c_F11
            have e_12 := (hW.cell (p := ⟨bf, 12, none⟩) z_F).trans c_F12
            have e_13 := (hW.cell (p := ⟨bf, 13, none⟩) z_F).trans c_F13
            go_simp
          clear hK K
          simp only [Act.put, List.setIfInBounds_toArray, List.set_cons_zero, List.set_cons_succ]
          refine wpQuiet_step (fun K hK => ?_)
          rw [if_pos (by rfl)]
          refine ⟨vec yf, fun W' hW => ?_, hK _ ?_⟩
          · have e_0 := (hW.cell (p := ⟨bY, 0, none⟩) z_Y).trans c_Y0
            have e_1 := (hW.cell (p := ⟨bY, 1, none⟩) z_Y).trans c_Y1
            have e_2 := (hW.cell (p := ⟨bY, 2, none⟩) z_Y).trans c_Y2
            have e_3 := (hW.cell (p := ⟨bY, 3, none⟩) z_Y).trans c_Y3
            go_simp
          clear hK K
          simp only [Act.put, List.setIfInBounds_toArray, List.set_cons_zero, List.set_cons_succ]
          refine wpQuiet_step (fun K hK => ?_)
          rw [if_pos (by rfl)]
          refine ⟨vec ng, fun W' hW => ?_, hK _ ?_⟩
          · go_simp
            refine (NG.out _).mono ?_
            rintro e w' ⟨rfl, b⟩
            exact ⟨rfl, hW.trans (b.mono hW.size)⟩
          clear hK K
          simp only [Act.put, List.setIfInBounds_toArray, List.set_cons_zero, List.set_cons_succ]
          refine wpQuiet_nil ?_
          intro ws0 hW9
          clear z_F c_F0 c_F1 c_F2 c_F3 c_F4 c_F5 c_F6 c_F7 c_F8 c_F9 c_F10 c_F11 c_F12 c_F13 z_Y c_Y0 c_Y1 c_Y2 c_Y3
          replace X_X := X_X.keep hW9
          replace X_F := X_F.keep hW9
          replace X_Y := X_Y.keep hW9
          replace BW := hid (BW.out.trans (hW9.mono BW.out.size))
          clear hW9
          have HZ2 := HZ.out
          have zb9 := BW.out.size
          have G1 : Grow w.heap.size u (ws0.alloc (.cells #[.int .u64 (limb (fO b) 0 : Int), .int .u64 (limb (fO b) 1 : Int), .int .u64 (limb (fO b) 2 : Int), .int .u64 (limb (fO b) 3 : Int), .int .u64 (limb ng 0 : Int), .int .u64 (limb ng 1 : Int), .int .u64 (limb ng 2 : Int), .int .u64 (limb ng 3 : Int)] 29)) := (Below.grow BW.out w.heap.size).trans ((Grow.refl _ _).alloc _)
          have J2 := HJS.out _ _ _ HJs.out G1
          have hE : facE b y #[.slice (some ⟨ws0.heap.size, 0, none⟩) 2 2] (ws0.alloc (.cells #[.int .u64 (limb (fO b) 0 : Int), .int .u64 (limb (fO b) 1 : Int), .int .u64 (limb (fO b) 2 : Int), .int .u64 (limb (fO b) 3 : Int), .int .u64 (limb ng 0 : Int), .int .u64 (limb ng 1 : Int), .int .u64 (limb ng 2 : Int), .int .u64 (limb ng 3 : Int)] 29)) := HEN.out (ws0.alloc (.cells #[.int .u64 (limb (fO b) 0 : Int), .int .u64 (limb (fO b) 1 : Int), .int .u64 (limb (fO b) 2 : Int), .int .u64 (limb (fO b) 3 : Int), .int .u64 (limb ng 0 : Int), .int .u64 (limb ng 1 : Int), .int .u64 (limb ng 2 : Int), .int .u64 (limb ng 3 : Int)] 29)) _ _ (blk_nums (t := 29) (by exact Blk.new rfl) HNB2.out)
          obtain ⟨fn, tmps, assign, body, hy, hR⟩ := HY.out _ y _ _ J2 hE (by rw [HSN.out]; exact List.take_prefix _ _) 4
          have XX1 := hid (X_X.alloc (.cells #[.int .u64 (limb (fO b) 0 : Int), .int .u64 (limb (fO b) 1 : Int), .int .u64 (limb (fO b) 2 : Int), .int .u64 (limb (fO b) 3 : Int), .int .u64 (limb ng 0 : Int), .int .u64 (limb ng 1 : Int), .int .u64 (limb ng 2 : Int), .int .u64 (limb ng 3 : Int)] 29))
          have XF1 := hid (X_F.alloc (.cells #[.int .u64 (limb (fO b) 0 : Int), .int .u64 (limb (fO b) 1 : Int), .int .u64 (limb (fO b) 2 : Int), .int .u64 (limb (fO b) 3 : Int), .int .u64 (limb ng 0 : Int), .int .u64 (limb ng 1 : Int), .int .u64 (limb ng 2 : Int), .int .u64 (limb ng 3 : Int)] 29))
          have NQ1 := hid ((owns_keep N_q.out BW.out).alloc (.cells #[.int .u64 (limb (fO b) 0 : Int), .int .u64 (limb (fO b) 1 : Int), .int .u64 (limb (fO b) 2 : Int), .int .u64 (limb (fO b) 3 : Int), .int .u64 (limb ng 0 : Int), .int .u64 (limb ng 1 : Int), .int .u64 (limb ng 2 : Int), .int .u64 (limb ng 3 : Int)] 29))
          have hz1 : (ws0.alloc (.cells #[.int .u64 (limb (fO b) 0 : Int), .int .u64 (limb (fO b) 1 : Int), .int .u64 (limb (fO b) 2 : Int), .int .u64 (limb (fO b) 3 : Int), .int .u64 (limb ng 0 : Int), .int .u64 (limb ng 1 : Int), .int .u64 (limb ng 2 : Int), .int .u64 (limb ng 3 : Int)] 29)).heap.size = ws0.heap.size + 1 := by simp
          have HZ3 : Hid (w.heap.size ≤ (ws0.alloc (.cells #[.int .u64 (limb (fO b) 0 : Int), .int .u64 (limb (fO b) 1 : Int), .int .u64 (limb (fO b) 2 : Int), .int .u64 (limb (fO b) 3 : Int), .int .u64 (limb ng 0 : Int), .int .u64 (limb ng 1 : Int), .int .u64 (limb ng 2 : Int), .int .u64 (limb ng 3 : Int)] 29)).heap.size) := hid (by rw [hz1]; omega)
          clear X_X X_F X_Y G1 J2 hE N_q BW HZ2 zb9 hz1
          gi_wp2
          refine hR.mono ?_
          rintro e W3 (⟨rfl, hJ3, hk3, hz3⟩ | ⟨rfl, hJ3⟩)
          · skip
            have HJ3 := hid hJ3
            have XX3 := hid (XX1.out.keeps hk3 hNx)
            have XF3 := hid (XF1.out.keeps hk3 hNf)
            have NQ3 := hid (owns_keeps NQ1.out hk3 (Nat.le_refl _) hz3)
            have HZ4 := hid (Nat.le_trans HZ3.out hz3)
            clear hJ3 hk3 hz3 hy hR XX1 XF1 NQ1 HZ3
            gi_wp2
            go_roundw
            case rel => exact ⟨k + 1, by omega, by go_num, XX3.out, XF3.out, NQ3.out, HZ4.out, by rw [← HSN.out]; exact HJ3.out⟩
            case measure => simp [intOf] <;> omega
          · skip
            have HJ3 := hid hJ3
            clear hJ3 hy hR
            gi_wp2
            refine bodyPost_ret (by simp only [results, Tryd.results106]; go_simp; try rfl) rfl ?_
            exact ⟨⟨_, rfl⟩, .inr ⟨_, by rw [HSN.out]; exact HPX.out, HJ3.out⟩⟩
        · skip
          obtain rfl : k = n := by omega
          have he : ys.take k = ys := List.take_of_length_le (by rw [HYL.out]; exact Nat.le_refl _)
          have HE := hid he
          clear he
          gi_wp2
          go_end0
          exact ⟨⟨_, rfl⟩, .inl (by rw [← HE.out]; exact HJs.out)⟩
end Go.Proofs.YtogenbggjodcnaaDoor
