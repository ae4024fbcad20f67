/-
  DegreeRejects: with more points than coefficients, changing one of the values of a polynomial makes them not fit.
-/
import Derived.Test.YtogenbggjodcnaaDoorAlive10
import Derived.Test.YtogenbggjodcnaaDoorRFit10
import Derived.Test.YtogenbggjodcnaaDoorRep10
import Derived.Deep.RegionHeld3
namespace Go.Proofs.YtogenbggjodcnaaDoor
open Go.RowKit

attribute [local go_sem] Oper.semAt_some
/-- All ones but at i. -/
noncomputable def onb (p i d n : Nat) : List Nat := (List.range n).map fun t => if t = i then addm p 1 d else 1
theorem onb_len (p i d n : Nat) : (onb p i d n).length = n := by simp [onb]
theorem onb_at {p i d n t : Nat} (h : t < n) : (onb p i d n).getD t 0 = if t = i then addm p 1 d else 1 := by
  unfold onb
  rw [List.getD_eq_getElem?_getD, List.getElem?_map, List.getElem?_range h]; rfl
theorem onb_lt {p i d n : Nat} (hp : 1 < p) : ∀ y ∈ onb p i d n, y < p := fun y hy => by
  obtain ⟨t, _, rfl⟩ := List.mem_map.1 hy
  by_cases h : t = i
  · rw [if_pos h]; exact addm_lt _ _ (by omega)
  · rw [if_neg h]; exact hp
theorem onb_bmk (b : Bool) {ns : List Nat} (hx : ∀ x ∈ ns, x < fP b) (hd : ns.Nodup) {n i d : Nat} (hn : ns.length = n) (h2 : 2 ≤ n) (hi : i < n) (hdp : d < fP b) :
    bmk (itp (fP b) ns (onb (fP b) i d n) n) ((n : Int) - 1) = if d = 0 then 18446744073709551615 else 0 := by
  subst hn
  have hp := fP_two b
  have h := rejects (fer_b b) hp hx hd h2 hi hdp (ys := onb (fP b) i d ns.length) (fun j hj hji => by rw [onb_at hj, if_neg hji]) (by rw [onb_at hi, if_pos rfl])
  have hl : (itp (fP b) ns (onb (fP b) i d ns.length) ns.length).length = ns.length := itp_len (by omega) ns _ _ (Nat.le_refl _)
  have key : blw (itp (fP b) ns (onb (fP b) i d ns.length) ns.length) ((ns.length : Int) - 1) ns.length ↔ d = 0 := by
    rw [← h]
    constructor
    · intro h1 t ht
      by_cases e : t < ns.length
      · exact h1 t e (by omega)
      · exact getD_none (by omega)
    · intro h1 t ht hk
      exact h1 t (by omega)
  unfold bmk
  rw [veil_eq, hl]
  by_cases e : d = 0
  · rw [if_pos (key.2 e), if_pos e]
  · rw [if_neg (fun h9 => e (key.1 h9)), if_neg e]
set_option maxRecDepth 100000 in
set_option maxHeartbeats 8000000 in
theorem drejects_law (b : Bool) (v : Value) (xs : List Int) (a : Nat) (w : World) (hT : Tab w) (hS : IntSl w v xs) (ha : a < B256) :
    Calls Tryd.prog 6 #[.bool b, v, vec a] w (Ret (.bool true) w) := by
  have BW := hid (Below.refl w.heap.size w)
  have T := hid hT
  have T0 := T
  clear hT
  have HS := hid hS
  obtain ⟨sa, sc, rfl, _⟩ := hS
  obtain ⟨n, hn⟩ : ∃ n, xs.length = n := ⟨_, rfl⟩
  rw [hn] at HS ⊢
  have HN := hid hn
  by_cases h6 : 5 < n
  · skip
    go_enter Tryd.func6, Tryd.ntmps6
    go_wp2_with fail
    obtain ⟨v1, hv9⟩ : ∃ v, (w.alloc (.cells #[.int .u64 (limb a 0 : Int), .int .u64 (limb a 1 : Int), .int .u64 (limb a 2 : Int), .int .u64 (limb a 3 : Int)] 28)) = v := ⟨_, rfl⟩
    have hG9 : Below w.heap.size w v1 := by rw [← hv9]; go_grown
    have X_A : Blk v1 (w.heap.size) 28 [.int .u64 (limb a 0 : Int), .int .u64 (limb a 1 : Int), .int .u64 (limb a 2 : Int), .int .u64 (limb a 3 : Int)] := by rw [← hv9]; exact Blk.new rfl
    obtain ⟨bA, hb9⟩ : ∃ k, w.heap.size = k := ⟨_, rfl⟩
    rw [hb9] at X_A
    have g_bA : w.heap.size ≤ bA := by rw [← hb9]; exact BW.out.size
    replace T := hid (T.out.keep hG9)
    replace BW := hid (BW.out.trans (hG9.mono BW.out.size))
    clear hG9
    rw [hv9]
    try rw [hb9]
    clear hv9 hb9
    refine (alive10_any _ T.out).mono ?_
    rintro e v2 ⟨rfl, b9⟩
    replace X_A := X_A.keep b9
    replace T := hid (T.out.keep b9)
    replace BW := hid (BW.out.trans (b9.mono BW.out.size))
    clear b9
    go_wp2
    go_ret
    exact ⟨rfl, BW.out⟩
  by_cases h7 : n < 2
  · skip
    go_enter Tryd.func6, Tryd.ntmps6
    go_wp2_with fail
    obtain ⟨v3, hv9⟩ : ∃ v, (w.alloc (.cells #[.int .u64 (limb a 0 : Int), .int .u64 (limb a 1 : Int), .int .u64 (limb a 2 : Int), .int .u64 (limb a 3 : Int)] 28)) = v := ⟨_, rfl⟩
    have hG9 : Below w.heap.size w v3 := by rw [← hv9]; go_grown
    have X_A : Blk v3 (w.heap.size) 28 [.int .u64 (limb a 0 : Int), .int .u64 (limb a 1 : Int), .int .u64 (limb a 2 : Int), .int .u64 (limb a 3 : Int)] := by rw [← hv9]; exact Blk.new rfl
    obtain ⟨bA, hb9⟩ : ∃ k, w.heap.size = k := ⟨_, rfl⟩
    rw [hb9] at X_A
    have g_bA : w.heap.size ≤ bA := by rw [← hb9]; exact BW.out.size
    replace T := hid (T.out.keep hG9)
    replace BW := hid (BW.out.trans (hG9.mono BW.out.size))
    clear hG9
    rw [hv9]
    try rw [hb9]
    clear hv9 hb9
    refine (alive10_any _ T.out).mono ?_
    rintro e v4 ⟨rfl, b9⟩
    replace X_A := X_A.keep b9
    replace T := hid (T.out.keep b9)
    replace BW := hid (BW.out.trans (b9.mono BW.out.size))
    clear b9
    go_wp2
    go_ret
    exact ⟨rfl, BW.out⟩
  have hlx : xs.length < 1000000 := by omega
  have RCC := hid (fun (W : World) (h : IntSl W (.slice sa n sc) xs) => rlcheck_any (.slice sa n sc) xs W h hlx)
  have hp2 := fP_two b
  have hpb := fP_lt b
  by_cases hc : chkx xs = 0
  · skip
    rw [hc] at RCC
    have hall := (chkx_zero hc).1
    have hdp := (chkx_zero hc).2
    have hlt9 := pts_lt hall (show 255 < fP b by cases b <;> decide)
    have hnod := pts_nodup hall hdp
    have hlen9 := pts_len xs
    rw [hn] at hlen9
    have MD := hid (fun W : World => rmod_any (fP b) a hpb (by omega) ha W)
    have hdl : mulm (fP b) 1 a < fP b := mulm_lt _ _ (by omega)
    obtain ⟨d, hd9⟩ : ∃ d, mulm (fP b) 1 a = d := ⟨_, rfl⟩
    rw [hd9] at MD hdl
    clear hd9
    obtain ⟨i, hi9⟩ : ∃ i, limb a 0 % n = i := ⟨_, rfl⟩
    have hin : i < n := by rw [← hi9]; exact Nat.mod_lt _ (by omega)
    have hbm := onb_bmk b hlt9 hnod hlen9 (by omega) hin hdl
    have F1 := hid (fun (W : World) (v u : Value) (h : IntSl W v xs) (h2 : NumSl W u ((onb (fP b) i d n).map (frm (fP b)))) => fits_ok b v u xs (onb (fP b) i d n) ((n : Int) - 1) W h h2 (by omega) hc (by rw [onb_len, hn]))
    rw [hn, hbm] at F1
    have RP := hid (fun (W : World) (a : Option Addr) (cap : Nat) (h : NumSl W (.slice a 1 cap) [fO b]) => repeat_any a cap (fO b) n W h (by omega) (by omega))
    have AD := hid (fun W : World => radd_any (fP b) 1 d hpb (by omega) hdl W)
    rw [← vec_one] at AD
    have FM := hid (fun W : World => rform_any (fP b) (addm (fP b) 1 d) hpb (by omega) (Nat.lt_trans (addm_lt _ _ (by omega)) hpb) W)
    have HON := hid (fun t (ht : t < n) => onb_at (p := fP b) (i := i) (d := d) ht)
    have HOL := hid (onb_len (fP b) i d n)
    obtain ⟨sd, hsd⟩ : ∃ z, addm (fP b) 1 d = z := ⟨_, rfl⟩
    rw [hsd] at AD FM HON
    obtain ⟨yf, hyf⟩ : ∃ z, frm (fP b) sd = z := ⟨_, rfl⟩
    rw [hyf] at FM
    have HYF := hid hyf
    have hrem : (limb a 0 : Int) % (n : Int) = (i : Int) := by rw [← hi9]; exact (Int.natCast_emod _ _).symm
    have hrem2 : (limb a 0 : Int).tmod (n : Int) = (i : Int) := by rw [← hi9]; exact (Int.ofNat_tmod _ _).symm
    have hln := limb_lt a 0
    unfold B64 at hln
    have HFO : Hid (fO b < B256) := hid (by rw [fO_eq]; exact Nat.lt_trans (frm_lt _ (by omega)) hpb)
    have hi0 : (0 : Int) ≤ (i : Int) := by omega
    have hii : (i : Int) < (n : Int) := by omega
    have HIN := hid hin
    have hn0 : ¬ ((n : Int) = 0) := by omega
    have hnz : ((n : Int) == 0) = false := by simp; omega
    clear hc hlx hn hlen9 hlt9 hnod hall hdp hbm hsd hyf hi9
    by_cases hd0 : d = 0
    · skip
      rw [if_pos hd0] at F1
      have heq := fun W : World => eqv_eq (a := d) (Nat.lt_trans hdl hpb) W
      have e0 : vec d = .agg #[.int .u64 0, .int .u64 0, .int .u64 0, .int .u64 0] := by rw [hd0, vec_zero]
      have heq2 : ∀ W : World, (Op.equalIn 10000 28 (vec d) (.agg #[.int .u64 0, .int .u64 0, .int .u64 0, .int .u64 0])).run Tryd.prog W = .ok true W := fun W => by rw [← e0]; exact heq W
      clear heq e0 hd0
      rw [show ((18446744073709551615 : Nat) : Int) = 18446744073709551615 from rfl] at F1
      have MC := hid (fun W : World => rmask_any true W)
      have HEQ := hid heq2
      clear heq2
      simp only [if_true, Bool.false_eq_true, if_false] at MC
      go_enter Tryd.func6, Tryd.ntmps6
      go_wp2_with fail
      obtain ⟨v5, hv9⟩ : ∃ v, (w.alloc (.cells #[.int .u64 (limb a 0 : Int), .int .u64 (limb a 1 : Int), .int .u64 (limb a 2 : Int), .int .u64 (limb a 3 : Int)] 28)) = v := ⟨_, rfl⟩
      have hG9 : Below w.heap.size w v5 := by rw [← hv9]; go_grown
      have X_A : Blk v5 (w.heap.size) 28 [.int .u64 (limb a 0 : Int), .int .u64 (limb a 1 : Int), .int .u64 (limb a 2 : Int), .int .u64 (limb a 3 : Int)] := by rw [← hv9]; exact Blk.new rfl
      obtain ⟨bA, hb9⟩ : ∃ k, w.heap.size = k := ⟨_, rfl⟩
      rw [hb9] at X_A
      have g_bA : w.heap.size ≤ bA := by rw [← hb9]; exact BW.out.size
      replace T := hid (T.out.keep hG9)
      replace BW := hid (BW.out.trans (hG9.mono BW.out.size))
      clear hG9
      rw [hv9]
      try rw [hb9]
      clear hv9 hb9
      refine (RCC.out _ (HS.out.below BW.out)).mono ?_
      rintro e v6 ⟨rfl, b9⟩
      replace X_A := X_A.keep b9
      replace T := hid (T.out.keep b9)
      replace BW := hid (BW.out.trans (b9.mono BW.out.size))
      clear b9
      go_wp2_with fail
      refine (get10_any b _ T.out).mono ?_
      rintro e v7 ⟨rfl, b9⟩
      replace X_A := X_A.keep b9
      replace T := hid (T.out.keep b9)
      replace BW := hid (BW.out.trans (b9.mono BW.out.size))
      clear b9
      have z_A := X_A.lt
      have c_A0 := X_A.cell (i := 0) rfl
      have c_A1 := X_A.cell (i := 1) rfl
      have c_A2 := X_A.cell (i := 2) rfl
      have c_A3 := X_A.cell (i := 3) rfl
      go_wp2_with fail
      obtain ⟨v8, hv9⟩ : ∃ v, ((v7.alloc (.cells #[.int .i64 (fID b), .int .u64 (limb (fP b) 0 : Int), .int .u64 (limb (fP b) 1 : Int), .int .u64 (limb (fP b) 2 : Int), .int .u64 (limb (fP b) 3 : Int), .int .u64 (fI b : Int), .int .u64 (limb (fO b) 0 : Int), .int .u64 (limb (fO b) 1 : Int), .int .u64 (limb (fO b) 2 : Int), .int .u64 (limb (fO b) 3 : Int), .int .u64 (limb (fS b) 0 : Int), .int .u64 (limb (fS b) 1 : Int), .int .u64 (limb (fS b) 2 : Int), .int .u64 (limb (fS b) 3 : Int)] 31)).alloc (.cells #[.int .u64 (limb (fP b) 0 : Int), .int .u64 (limb (fP b) 1 : Int), .int .u64 (limb (fP b) 2 : Int), .int .u64 (limb (fP b) 3 : Int)] 28)) = v := ⟨_, rfl⟩
      have hG9 : Below v7.heap.size v7 v8 := by rw [← hv9]; go_grown
      have X_F : Blk v8 (v7.heap.size) 31 [.int .i64 (fID b), .int .u64 (limb (fP b) 0 : Int), .int .u64 (limb (fP b) 1 : Int), .int .u64 (limb (fP b) 2 : Int), .int .u64 (limb (fP b) 3 : Int), .int .u64 (fI b : Int), .int .u64 (limb (fO b) 0 : Int), .int .u64 (limb (fO b) 1 : Int), .int .u64 (limb (fO b) 2 : Int), .int .u64 (limb (fO b) 3 : Int), .int .u64 (limb (fS b) 0 : Int), .int .u64 (limb (fS b) 1 : Int), .int .u64 (limb (fS b) 2 : Int), .int .u64 (limb (fS b) 3 : Int)] := by rw [← hv9]; exact Blk.alloc (Blk.new rfl) _
      have X_P : Blk v8 (v7.heap.size + 1) 28 [.int .u64 (limb (fP b) 0 : Int), .int .u64 (limb (fP b) 1 : Int), .int .u64 (limb (fP b) 2 : Int), .int .u64 (limb (fP b) 3 : Int)] := by rw [← hv9]; exact Blk.new (by simp)
      obtain ⟨bF, hb9⟩ : ∃ k, v7.heap.size = k := ⟨_, rfl⟩
      rw [hb9] at X_F
      rw [hb9] at X_P
      have g_bF : w.heap.size ≤ bF := by rw [← hb9]; exact BW.out.size
      have q_A_bF : bA < bF := by rw [← hb9]; exact X_A.lt
      clear z_A c_A0 c_A1 c_A2 c_A3
      replace X_A := X_A.keep hG9
      replace T := hid (T.out.keep hG9)
      replace BW := hid (BW.out.trans (hG9.mono BW.out.size))
      clear hG9
      rw [hv9]
      try rw [hb9]
      clear hv9 hb9
      refine (MD.out _).mono ?_
      rintro e v9 ⟨rfl, b9⟩
      replace X_A := X_A.keep b9
      replace X_F := X_F.keep b9
      replace X_P := X_P.keep b9
      replace T := hid (T.out.keep b9)
      replace BW := hid (BW.out.trans (b9.mono BW.out.size))
      clear b9
      have z_F := X_F.lt
      have c_F0 := X_F.cell (i := 0) rfl
      have c_F1 := X_F.cell (i := 1) rfl
      have c_F2 := X_F.cell (i := 2) rfl
      have c_F3 := X_F.cell (i := 3) rfl
      have c_F4 := X_F.cell (i := 4) rfl
      have c_F5 := X_F.cell (i := 5) rfl
      have c_F6 := X_F.cell (i := 6) rfl
      have c_F7 := X_F.cell (i := 7) rfl
      have c_F8 := X_F.cell (i := 8) rfl
      have c_F9 := X_F.cell (i := 9) rfl
      have c_F10 := X_F.cell (i := 10) rfl
      have c_F11 := X_F.cell (i := 11) rfl
      have c_F12 := X_F.cell (i := 12) rfl
      have c_F13 := X_F.cell (i := 13) rfl
      go_wp2_with fail
      obtain ⟨v10, hv9⟩ : ∃ v, ((v9.alloc (.cells #[.int .u64 (limb d 0 : Int), .int .u64 (limb d 1 : Int), .int .u64 (limb d 2 : Int), .int .u64 (limb d 3 : Int)] 28)).alloc (.cells #[.int .u64 (limb (fO b) 0 : Int), .int .u64 (limb (fO b) 1 : Int), .int .u64 (limb (fO b) 2 : Int), .int .u64 (limb (fO b) 3 : Int)] 29)) = v := ⟨_, rfl⟩
      have hG9 : Below v9.heap.size v9 v10 := by rw [← hv9]; go_grown
      have X_D : Blk v10 (v9.heap.size) 28 [.int .u64 (limb d 0 : Int), .int .u64 (limb d 1 : Int), .int .u64 (limb d 2 : Int), .int .u64 (limb d 3 : Int)] := by rw [← hv9]; exact Blk.alloc (Blk.new rfl) _
      have X_O : Blk v10 (v9.heap.size + 1) 29 [.int .u64 (limb (fO b) 0 : Int), .int .u64 (limb (fO b) 1 : Int), .int .u64 (limb (fO b) 2 : Int), .int .u64 (limb (fO b) 3 : Int)] := by rw [← hv9]; exact Blk.new (by simp)
      obtain ⟨bD, hb9⟩ : ∃ k, v9.heap.size = k := ⟨_, rfl⟩
      rw [hb9] at X_D
      rw [hb9] at X_O
      have g_bD : w.heap.size ≤ bD := by rw [← hb9]; exact BW.out.size
      have q_A_bD : bA < bD := by rw [← hb9]; exact X_A.lt
      have q_F_bD : bF < bD := by rw [← hb9]; exact X_F.lt
      have q_P_bD : bF + 1 < bD := by rw [← hb9]; exact X_P.lt
      clear z_F c_F0 c_F1 c_F2 c_F3 c_F4 c_F5 c_F6 c_F7 c_F8 c_F9 c_F10 c_F11 c_F12 c_F13
      replace X_A := X_A.keep hG9
      replace X_F := X_F.keep hG9
      replace X_P := X_P.keep hG9
      replace T := hid (T.out.keep hG9)
      replace BW := hid (BW.out.trans (hG9.mono BW.out.size))
      clear hG9
      rw [hv9]
      try rw [hb9]
      clear hv9 hb9
      refine (RP.out _ _ _ (blk_nums (xs := [fO b]) (t := 29) (by exact X_O) (fun y hy => by rw [List.mem_singleton.1 hy]; exact HFO.out))).mono ?_
      rintro e v11 ⟨gy, rfl, hR9, b9⟩
      clear X_O
      have lt9 := hR9.ge
      have q_A_gy : bA < gy := Nat.lt_of_lt_of_le X_A.lt lt9
      have q_F_gy : bF < gy := Nat.lt_of_lt_of_le X_F.lt lt9
      have q_P_gy : bF + 1 < gy := Nat.lt_of_lt_of_le X_P.lt lt9
      have q_D_gy : bD < gy := Nat.lt_of_lt_of_le X_D.lt lt9
      have z0_gy : w.heap.size ≤ gy := Nat.le_trans BW.out.size lt9
      have R_y := hid (hR9.mono BW.out.size)
      clear hR9 lt9
      replace X_A := X_A.keep b9
      replace X_F := X_F.keep b9
      replace X_P := X_P.keep b9
      replace X_D := X_D.keep b9
      replace T := hid (T.out.keep b9)
      replace BW := hid (BW.out.trans (b9.mono BW.out.size))
      clear b9
      have z_A := X_A.lt
      have c_A0 := X_A.cell (i := 0) rfl
      have c_A1 := X_A.cell (i := 1) rfl
      have c_A2 := X_A.cell (i := 2) rfl
      have c_A3 := X_A.cell (i := 3) rfl
      have z_P := X_P.lt
      have c_P0 := X_P.cell (i := 0) rfl
      have c_P1 := X_P.cell (i := 1) rfl
      have c_P2 := X_P.cell (i := 2) rfl
      have c_P3 := X_P.cell (i := 3) rfl
      have z_D := X_D.lt
      have c_D0 := X_D.cell (i := 0) rfl
      have c_D1 := X_D.cell (i := 1) rfl
      have c_D2 := X_D.cell (i := 2) rfl
      have c_D3 := X_D.cell (i := 3) rfl
      have z_F := X_F.lt
      have c_F0 := X_F.cell (i := 0) rfl
      have c_F1 := X_F.cell (i := 1) rfl
      have c_F2 := X_F.cell (i := 2) rfl
      have c_F3 := X_F.cell (i := 3) rfl
      have c_F4 := X_F.cell (i := 4) rfl
      have c_F5 := X_F.cell (i := 5) rfl
      have c_F6 := X_F.cell (i := 6) rfl
      have c_F7 := X_F.cell (i := 7) rfl
      have c_F8 := X_F.cell (i := 8) rfl
      have c_F9 := X_F.cell (i := 9) rfl
      have c_F10 := X_F.cell (i := 10) rfl
      have c_F11 := X_F.cell (i := 11) rfl
      have c_F12 := X_F.cell (i := 12) rfl
      have c_F13 := X_F.cell (i := 13) rfl
      obtain ⟨d0, d1, d2, d3⟩ := R_y.out.cells (i := i) (v := fO b) HIN.out rfl
      have zd := R_y.out.lt
      have fd0 := R_y.out.frozen (i * 4)
      have fd1 := R_y.out.frozen (i * 4 + 1)
      have fd2 := R_y.out.frozen (i * 4 + 2)
      have fd3 := R_y.out.frozen (i * 4 + 3)
      go_wp2_with fail
      refine wp_region_soft (C := fun W' => Below v11.heap.size v11 W') 9 (by kernel_rfl) (by kernel_rfl) ((Below.refl _ _).drew) ?_
      simp only [List.take_succ_cons, List.take_zero, List.drop_succ_cons, List.drop_zero]
      refine wpQuiet_step (fun K hK => ?_)
      rw [if_pos (by rfl)]
      refine ⟨.slice (some ⟨gy, 0, none⟩) n n, fun W' hW => ?_, hK _ ?_⟩
      · go_simp
      clear hK K
      simp only [Act.put, List.setIfInBounds_toArray, List.set_cons_zero, List.set_cons_succ]
      refine wpQuiet_step (fun K hK => ?_)
      rw [if_pos (by rfl)]
      refine ⟨.int .i64 (i : Int), fun W' hW => ?_, hK _ ?_⟩
      · go_simp
      clear hK K
      simp only [Act.put, List.setIfInBounds_toArray, List.set_cons_zero, List.set_cons_succ]
      refine wpQuiet_step (fun K hK => ?_)
      rw [if_pos (by rfl)]
      refine ⟨vec (fP b), fun W' hW => ?_, hK _ ?_⟩
      · have e_0 := (hW.cell (p := ⟨bF + 1, 0, none⟩) z_P).trans c_P0
        have e_1 := (hW.cell (p := ⟨bF + 1, 1, none⟩) z_P).trans c_P1
        have e_2 := (hW.cell (p := ⟨bF + 1, 2, none⟩) z_P).trans c_P2
        have e_3 := (hW.cell (p := ⟨bF + 1, 3, none⟩) z_P).trans c_P3
        go_simp
      clear hK K
      simp only [Act.put, List.setIfInBounds_toArray, List.set_cons_zero, List.set_cons_succ]
      refine wpQuiet_step (fun K hK => ?_)
      rw [if_pos (by rfl)]
      refine ⟨vec (fP b), fun W' hW => ?_, hK _ ?_⟩
      · have e_0 := (hW.cell (p := ⟨bF + 1, 0, none⟩) z_P).trans c_P0
        have e_1 := (hW.cell (p := ⟨bF + 1, 1, none⟩) z_P).trans c_P1
        have e_2 := (hW.cell (p := ⟨bF + 1, 2, none⟩) z_P).trans c_P2
        have e_3 := (hW.cell (p := ⟨bF + 1, 3, none⟩) z_P).trans c_P3
        go_simp
      clear hK K
      simp only [Act.put, List.setIfInBounds_toArray, List.set_cons_zero, List.set_cons_succ]
      refine wpQuiet_step (fun K hK => ?_)
      rw [if_pos (by rfl)]
      refine ⟨.agg #[.int .u64 1, .int .u64 0, .int .u64 0, .int .u64 0], fun W' hW => ?_, hK _ ?_⟩
      · go_simp
      clear hK K
      simp only [Act.put, List.setIfInBounds_toArray, List.set_cons_zero, List.set_cons_succ]
      refine wpQuiet_step (fun K hK => ?_)
      rw [if_pos (by rfl)]
      refine ⟨vec d, fun W' hW => ?_, hK _ ?_⟩
      · have e_0 := (hW.cell (p := ⟨bD, 0, none⟩) z_D).trans c_D0
        have e_1 := (hW.cell (p := ⟨bD, 1, none⟩) z_D).trans c_D1
        have e_2 := (hW.cell (p := ⟨bD, 2, none⟩) z_D).trans c_D2
        have e_3 := (hW.cell (p := ⟨bD, 3, none⟩) z_D).trans c_D3
        go_simp
      clear hK K
      simp only [Act.put, List.setIfInBounds_toArray, List.set_cons_zero, List.set_cons_succ]
      refine wpQuiet_step (fun K hK => ?_)
      rw [if_pos (by rfl)]
      refine ⟨vec sd, fun W' hW => ?_, hK _ ?_⟩
      · go_simp
        refine (AD.out _).mono ?_
        rintro e w' ⟨rfl, b⟩
        exact ⟨rfl, hW.trans (b.mono hW.size)⟩
      clear hK K
      simp only [Act.put, List.setIfInBounds_toArray, List.set_cons_zero, List.set_cons_succ]
      refine wpQuiet_step (fun K hK => ?_)
      rw [if_pos (by rfl)]
      refine ⟨vec yf, fun W' hW => ?_, hK _ ?_⟩
      · go_simp
        refine (FM.out _).mono ?_
        rintro e w' ⟨rfl, b⟩
        exact ⟨rfl, hW.trans (b.mono hW.size)⟩
      clear hK K
      simp only [Act.put, List.setIfInBounds_toArray, List.set_cons_zero, List.set_cons_succ]
      refine wpQuiet_step (fun K hK => ?_)
      rw [if_pos (by rfl)]
      refine ⟨.pointer (some ⟨gy, i * 4, none⟩), fun W' hW => ?_, hK _ ?_⟩
      · go_simp
      clear hK K
      simp only [Act.put, List.setIfInBounds_toArray, List.set_cons_zero, List.set_cons_succ]
      refine wpQuiet_nil ?_
      intro ws0 hW9
      clear z_A c_A0 c_A1 c_A2 c_A3 z_P c_P0 c_P1 c_P2 c_P3 z_D c_D0 c_D1 c_D2 c_D3 z_F c_F0 c_F1 c_F2 c_F3 c_F4 c_F5 c_F6 c_F7 c_F8 c_F9 c_F10 c_F11 c_F12 c_F13 d0 d1 d2 d3 zd fd0 fd1 fd2 fd3
      replace R_y := hid (R_y.out.keep hW9)
      replace X_A := X_A.keep hW9
      replace X_F := X_F.keep hW9
      replace X_P := X_P.keep hW9
      replace X_D := X_D.keep hW9
      replace T := hid (T.out.keep hW9)
      replace BW := hid (BW.out.trans (hW9.mono BW.out.size))
      clear hW9
      obtain ⟨d0, d1, d2, d3⟩ := R_y.out.cells (i := i) (v := fO b) HIN.out rfl
      have zd := R_y.out.lt
      have fd0 := R_y.out.frozen (i * 4)
      have fd1 := R_y.out.frozen (i * 4 + 1)
      have fd2 := R_y.out.frozen (i * 4 + 2)
      have fd3 := R_y.out.frozen (i * 4 + 3)
      go_upto_region 8 with (fail)
      obtain ⟨v12, hs9⟩ : ∃ q, ((((ws0.setCell ⟨gy, i * 4, none⟩ (.int .u64 (limb yf 0 : Int))).setCell ⟨gy, i * 4 + 1, none⟩ (.int .u64 (limb yf 1 : Int))).setCell ⟨gy, i * 4 + 2, none⟩ (.int .u64 (limb yf 2 : Int))).setCell ⟨gy, i * 4 + 3, none⟩ (.int .u64 (limb yf 3 : Int))) = q := ⟨_, rfl⟩
      have O9 : Only (fun k => k = gy) ws0 v12 := by rw [← hs9]; exact only_row _ _ _ _ _ _ _
      have S9 : RowF v12 w.heap.size 29 gy n n (fun t => if t = i then yf else fO b) := by rw [← hs9]; exact (R_y.out.store HIN.out yf).congr (fun _ _ => rfl)
      rw [hs9]
      clear hs9
      clear d0 d1 d2 d3 zd fd0 fd1 fd2 fd3
      replace X_A := X_A.only O9 (show ¬ (bA = gy) by omega)
      replace X_F := X_F.only O9 (show ¬ (bF = gy) by omega)
      replace X_P := X_P.only O9 (show ¬ (bF + 1 = gy) by omega)
      replace X_D := X_D.only O9 (show ¬ (bD = gy) by omega)
      replace BW := hid (BW.out.trans (O9.below (fun k h => by cases h; exact z0_gy) BW.out.size))
      replace R_y := hid S9
      clear O9 S9
      replace T := hid (T0.out.below BW.out (Nat.le_refl _))
      have N_y : NumSl v12 (.slice (some ⟨gy, 0, none⟩) n n) ((onb (fP b) i d n).map (frm (fP b))) := R_y.out.sl (by rw [List.length_map, HOL.out]) (fun t ht => by rw [getD_frm, HON.out t ht]; by_cases h : t = i <;> simp only [h, if_true, if_false, HYF.out, fO_eq]) (small9 (forms9 b _))
      have NY := hid N_y
      clear N_y
      have z_F := X_F.lt
      have c_F0 := X_F.cell (i := 0) rfl
      have c_F1 := X_F.cell (i := 1) rfl
      have c_F2 := X_F.cell (i := 2) rfl
      have c_F3 := X_F.cell (i := 3) rfl
      have c_F4 := X_F.cell (i := 4) rfl
      have c_F5 := X_F.cell (i := 5) rfl
      have c_F6 := X_F.cell (i := 6) rfl
      have c_F7 := X_F.cell (i := 7) rfl
      have c_F8 := X_F.cell (i := 8) rfl
      have c_F9 := X_F.cell (i := 9) rfl
      have c_F10 := X_F.cell (i := 10) rfl
      have c_F11 := X_F.cell (i := 11) rfl
      have c_F12 := X_F.cell (i := 12) rfl
      have c_F13 := X_F.cell (i := 13) rfl
      go_wp2_with fail
      refine (F1.out _ _ _ (HS.out.below BW.out) NY.out).mono ?_
      rintro e v13 ⟨rfl, b9⟩
      clear NY
      clear z_F c_F0 c_F1 c_F2 c_F3 c_F4 c_F5 c_F6 c_F7 c_F8 c_F9 c_F10 c_F11 c_F12 c_F13
      replace R_y := hid (R_y.out.keep b9)
      replace X_A := X_A.keep b9
      replace X_F := X_F.keep b9
      replace X_P := X_P.keep b9
      replace X_D := X_D.keep b9
      replace T := hid (T.out.keep b9)
      replace BW := hid (BW.out.trans (b9.mono BW.out.size))
      clear b9
      go_wp2_with fail
      refine (alive10_any _ T.out).mono ?_
      rintro e v14 ⟨rfl, b9⟩
      replace R_y := hid (R_y.out.keep b9)
      replace X_A := X_A.keep b9
      replace X_F := X_F.keep b9
      replace X_P := X_P.keep b9
      replace X_D := X_D.keep b9
      replace T := hid (T.out.keep b9)
      replace BW := hid (BW.out.trans (b9.mono BW.out.size))
      clear b9
      have heq2 := HEQ.out
      have z_D := X_D.lt
      have c_D0 := X_D.cell (i := 0) rfl
      have c_D1 := X_D.cell (i := 1) rfl
      have c_D2 := X_D.cell (i := 2) rfl
      have c_D3 := X_D.cell (i := 3) rfl
      go_wp2_with fail
      refine (MC.out _).mono ?_
      rintro e v15 ⟨rfl, b9⟩
      clear z_D c_D0 c_D1 c_D2 c_D3
      replace R_y := hid (R_y.out.keep b9)
      replace X_A := X_A.keep b9
      replace X_F := X_F.keep b9
      replace X_P := X_P.keep b9
      replace X_D := X_D.keep b9
      replace T := hid (T.out.keep b9)
      replace BW := hid (BW.out.trans (b9.mono BW.out.size))
      clear b9
      go_wp2
      go_ret
      exact ⟨rfl, BW.out⟩
    · skip
      rw [if_neg hd0] at F1
      have heq2 : ∀ W : World, (Op.equalIn 10000 28 (vec d) (.agg #[.int .u64 0, .int .u64 0, .int .u64 0, .int .u64 0])).run Tryd.prog W = .ok false W := fun W => by rw [vec_zero]; exact eqv_ne (Nat.lt_trans hdl hpb) (by decide) hd0 W
      clear hd0
      rw [show ((0 : Nat) : Int) = 0 from rfl] at F1
      have MC := hid (fun W : World => rmask_any false W)
      have HEQ := hid heq2
      clear heq2
      simp only [if_true, Bool.false_eq_true, if_false] at MC
      go_enter Tryd.func6, Tryd.ntmps6
      go_wp2_with fail
      obtain ⟨v16, hv9⟩ : ∃ v, (w.alloc (.cells #[.int .u64 (limb a 0 : Int), .int .u64 (limb a 1 : Int), .int .u64 (limb a 2 : Int), .int .u64 (limb a 3 : Int)] 28)) = v := ⟨_, rfl⟩
      have hG9 : Below w.heap.size w v16 := by rw [← hv9]; go_grown
      have X_A : Blk v16 (w.heap.size) 28 [.int .u64 (limb a 0 : Int), .int .u64 (limb a 1 : Int), .int .u64 (limb a 2 : Int), .int .u64 (limb a 3 : Int)] := by rw [← hv9]; exact Blk.new rfl
      obtain ⟨bA, hb9⟩ : ∃ k, w.heap.size = k := ⟨_, rfl⟩
      rw [hb9] at X_A
      have g_bA : w.heap.size ≤ bA := by rw [← hb9]; exact BW.out.size
      replace T := hid (T.out.keep hG9)
      replace BW := hid (BW.out.trans (hG9.mono BW.out.size))
      clear hG9
      rw [hv9]
      try rw [hb9]
      clear hv9 hb9
      refine (RCC.out _ (HS.out.below BW.out)).mono ?_
      rintro e v17 ⟨rfl, b9⟩
      replace X_A := X_A.keep b9
      replace T := hid (T.out.keep b9)
      replace BW := hid (BW.out.trans (b9.mono BW.out.size))
      clear b9
      go_wp2_with fail
      refine (get10_any b _ T.out).mono ?_
      rintro e v18 ⟨rfl, b9⟩
      replace X_A := X_A.keep b9
      replace T := hid (T.out.keep b9)
      replace BW := hid (BW.out.trans (b9.mono BW.out.size))
      clear b9
      have z_A := X_A.lt
      have c_A0 := X_A.cell (i := 0) rfl
      have c_A1 := X_A.cell (i := 1) rfl
      have c_A2 := X_A.cell (i := 2) rfl
      have c_A3 := X_A.cell (i := 3) rfl
      go_wp2_with fail
      obtain ⟨v19, hv9⟩ : ∃ v, ((v18.alloc (.cells #[.int .i64 (fID b), .int .u64 (limb (fP b) 0 : Int), .int .u64 (limb (fP b) 1 : Int), .int .u64 (limb (fP b) 2 : Int), .int .u64 (limb (fP b) 3 : Int), .int .u64 (fI b : Int), .int .u64 (limb (fO b) 0 : Int), .int .u64 (limb (fO b) 1 : Int), .int .u64 (limb (fO b) 2 : Int), .int .u64 (limb (fO b) 3 : Int), .int .u64 (limb (fS b) 0 : Int), .int .u64 (limb (fS b) 1 : Int), .int .u64 (limb (fS b) 2 : Int), .int .u64 (limb (fS b) 3 : Int)] 31)).alloc (.cells #[.int .u64 (limb (fP b) 0 : Int), .int .u64 (limb (fP b) 1 : Int), .int .u64 (limb (fP b) 2 : Int), .int .u64 (limb (fP b) 3 : Int)] 28)) = v := ⟨_, rfl⟩
      have hG9 : Below v18.heap.size v18 v19 := by rw [← hv9]; go_grown
      have X_F : Blk v19 (v18.heap.size) 31 [.int .i64 (fID b), .int .u64 (limb (fP b) 0 : Int), .int .u64 (limb (fP b) 1 : Int), .int .u64 (limb (fP b) 2 : Int), .int .u64 (limb (fP b) 3 : Int), .int .u64 (fI b : Int), .int .u64 (limb (fO b) 0 : Int), .int .u64 (limb (fO b) 1 : Int), .int .u64 (limb (fO b) 2 : Int), .int .u64 (limb (fO b) 3 : Int), .int .u64 (limb (fS b) 0 : Int), .int .u64 (limb (fS b) 1 : Int), .int .u64 (limb (fS b) 2 : Int), .int .u64 (limb (fS b) 3 : Int)] := by rw [← hv9]; exact Blk.alloc (Blk.new rfl) _
      have X_P : Blk v19 (v18.heap.size + 1) 28 [.int .u64 (limb (fP b) 0 : Int), .int .u64 (limb (fP b) 1 : Int), .int .u64 (limb (fP b) 2 : Int), .int .u64 (limb (fP b) 3 : Int)] := by rw [← hv9]; exact Blk.new (by simp)
      obtain ⟨bF, hb9⟩ : ∃ k, v18.heap.size = k := ⟨_, rfl⟩
      rw [hb9] at X_F
      rw [hb9] at X_P
      have g_bF : w.heap.size ≤ bF := by rw [← hb9]; exact BW.out.size
      have q_A_bF : bA < bF := by rw [← hb9]; exact X_A.lt
      clear z_A c_A0 c_A1 c_A2 c_A3
      replace X_A := X_A.keep hG9
      replace T := hid (T.out.keep hG9)
      replace BW := hid (BW.out.trans (hG9.mono BW.out.size))
      clear hG9
      rw [hv9]
      try rw [hb9]
      clear hv9 hb9
      refine (MD.out _).mono ?_
      rintro e v20 ⟨rfl, b9⟩
      replace X_A := X_A.keep b9
      replace X_F := X_F.keep b9
      replace X_P := X_P.keep b9
      replace T := hid (T.out.keep b9)
      replace BW := hid (BW.out.trans (b9.mono BW.out.size))
      clear b9
      have z_F := X_F.lt
      have c_F0 := X_F.cell (i := 0) rfl
      have c_F1 := X_F.cell (i := 1) rfl
      have c_F2 := X_F.cell (i := 2) rfl
      have c_F3 := X_F.cell (i := 3) rfl
      have c_F4 := X_F.cell (i := 4) rfl
      have c_F5 := X_F.cell (i := 5) rfl
      have c_F6 := X_F.cell (i := 6) rfl
      have c_F7 := X_F.cell (i := 7) rfl
      have c_F8 := X_F.cell (i := 8) rfl
      have c_F9 := X_F.cell (i := 9) rfl
      have c_F10 := X_F.cell (i := 10) rfl
      have c_F11 := X_F.cell (i := 11) rfl
      have c_F12 := X_F.cell (i := 12) rfl
      have c_F13 := X_F.cell (i := 13) rfl
      go_wp2_with fail
      obtain ⟨v21, hv9⟩ : ∃ v, ((v20.alloc (.cells #[.int .u64 (limb d 0 : Int), .int .u64 (limb d 1 : Int), .int .u64 (limb d 2 : Int), .int .u64 (limb d 3 : Int)] 28)).alloc (.cells #[.int .u64 (limb (fO b) 0 : Int), .int .u64 (limb (fO b) 1 : Int), .int .u64 (limb (fO b) 2 : Int), .int .u64 (limb (fO b) 3 : Int)] 29)) = v := ⟨_, rfl⟩
      have hG9 : Below v20.heap.size v20 v21 := by rw [← hv9]; go_grown
      have X_D : Blk v21 (v20.heap.size) 28 [.int .u64 (limb d 0 : Int), .int .u64 (limb d 1 : Int), .int .u64 (limb d 2 : Int), .int .u64 (limb d 3 : Int)] := by rw [← hv9]; exact Blk.alloc (Blk.new rfl) _
      have X_O : Blk v21 (v20.heap.size + 1) 29 [.int .u64 (limb (fO b) 0 : Int), .int .u64 (limb (fO b) 1 : Int), .int .u64 (limb (fO b) 2 : Int), .int .u64 (limb (fO b) 3 : Int)] := by rw [← hv9]; exact Blk.new (by simp)
      obtain ⟨bD, hb9⟩ : ∃ k, v20.heap.size = k := ⟨_, rfl⟩
      rw [hb9] at X_D
      rw [hb9] at X_O
      have g_bD : w.heap.size ≤ bD := by rw [← hb9]; exact BW.out.size
      have q_A_bD : bA < bD := by rw [← hb9]; exact X_A.lt
      have q_F_bD : bF < bD := by rw [← hb9]; exact X_F.lt
      have q_P_bD : bF + 1 < bD := by rw [← hb9]; exact X_P.lt
      clear z_F c_F0 c_F1 c_F2 c_F3 c_F4 c_F5 c_F6 c_F7 c_F8 c_F9 c_F10 c_F11 c_F12 c_F13
      replace X_A := X_A.keep hG9
      replace X_F := X_F.keep hG9
      replace X_P := X_P.keep hG9
      replace T := hid (T.out.keep hG9)
      replace BW := hid (BW.out.trans (hG9.mono BW.out.size))
      clear hG9
      rw [hv9]
      try rw [hb9]
      clear hv9 hb9
      refine (RP.out _ _ _ (blk_nums (xs := [fO b]) (t := 29) (by exact X_O) (fun y hy => by rw [List.mem_singleton.1 hy]; exact HFO.out))).mono ?_
      rintro e v22 ⟨gy, rfl, hR9, b9⟩
      clear X_O
      have lt9 := hR9.ge
      have q_A_gy : bA < gy := Nat.lt_of_lt_of_le X_A.lt lt9
      have q_F_gy : bF < gy := Nat.lt_of_lt_of_le X_F.lt lt9
      have q_P_gy : bF + 1 < gy := Nat.lt_of_lt_of_le X_P.lt lt9
      have q_D_gy : bD < gy := Nat.lt_of_lt_of_le X_D.lt lt9
      have z0_gy : w.heap.size ≤ gy := Nat.le_trans BW.out.size lt9
      have R_y := hid (hR9.mono BW.out.size)
      clear hR9 lt9
      replace X_A := X_A.keep b9
      replace X_F := X_F.keep b9
      replace X_P := X_P.keep b9
      replace X_D := X_D.keep b9
      replace T := hid (T.out.keep b9)
      replace BW := hid (BW.out.trans (b9.mono BW.out.size))
      clear b9
      have z_A := X_A.lt
      have c_A0 := X_A.cell (i := 0) rfl
      have c_A1 := X_A.cell (i := 1) rfl
      have c_A2 := X_A.cell (i := 2) rfl
      have c_A3 := X_A.cell (i := 3) rfl
      have z_P := X_P.lt
      have c_P0 := X_P.cell (i := 0) rfl
      have c_P1 := X_P.cell (i := 1) rfl
      have c_P2 := X_P.cell (i := 2) rfl
      have c_P3 := X_P.cell (i := 3) rfl
      have z_D := X_D.lt
      have c_D0 := X_D.cell (i := 0) rfl
      have c_D1 := X_D.cell (i := 1) rfl
      have c_D2 := X_D.cell (i := 2) rfl
      have c_D3 := X_D.cell (i := 3) rfl
      have z_F := X_F.lt
      have c_F0 := X_F.cell (i := 0) rfl
      have c_F1 := X_F.cell (i := 1) rfl
      have c_F2 := X_F.cell (i := 2) rfl
      have c_F3 := X_F.cell (i := 3) rfl
      have c_F4 := X_F.cell (i := 4) rfl
      have c_F5 := X_F.cell (i := 5) rfl
      have c_F6 := X_F.cell (i := 6) rfl
      have c_F7 := X_F.cell (i := 7) rfl
      have c_F8 := X_F.cell (i := 8) rfl
      have c_F9 := X_F.cell (i := 9) rfl
      have c_F10 := X_F.cell (i := 10) rfl
      have c_F11 := X_F.cell (i := 11) rfl
      have c_F12 := X_F.cell (i := 12) rfl
      have c_F13 := X_F.cell (i := 13) rfl
      obtain ⟨d0, d1, d2, d3⟩ := R_y.out.cells (i := i) (v := fO b) HIN.out rfl
      have zd := R_y.out.lt
      have fd0 := R_y.out.frozen (i * 4)
      have fd1 := R_y.out.frozen (i * 4 + 1)
      have fd2 := R_y.out.frozen (i * 4 + 2)
      have fd3 := R_y.out.frozen (i * 4 + 3)
      go_wp2_with fail
      refine wp_region_soft (C := fun W' => Below v22.heap.size v22 W') 9 (by kernel_rfl) (by kernel_rfl) ((Below.refl _ _).drew) ?_
      simp only [List.take_succ_cons, List.take_zero, List.drop_succ_cons, List.drop_zero]
      refine wpQuiet_step (fun K hK => ?_)
      rw [if_pos (by rfl)]
      refine ⟨.slice (some ⟨gy, 0, none⟩) n n, fun W' hW => ?_, hK _ ?_⟩
      · go_simp
      clear hK K
      simp only [Act.put, List.setIfInBounds_toArray, List.set_cons_zero, List.set_cons_succ]
      refine wpQuiet_step (fun K hK => ?_)
      rw [if_pos (by rfl)]
      refine ⟨.int .i64 (i : Int), fun W' hW => ?_, hK _ ?_⟩
      · go_simp
      clear hK K
      simp only [Act.put, List.setIfInBounds_toArray, List.set_cons_zero, List.set_cons_succ]
      refine wpQuiet_step (fun K hK => ?_)
      rw [if_pos (by rfl)]
      refine ⟨vec (fP b), fun W' hW => ?_, hK _ ?_⟩
      · have e_0 := (hW.cell (p := ⟨bF + 1, 0, none⟩) z_P).trans c_P0
        have e_1 := (hW.cell (p := ⟨bF + 1, 1, none⟩) z_P).trans c_P1
        have e_2 := (hW.cell (p := ⟨bF + 1, 2, none⟩) z_P).trans c_P2
        have e_3 := (hW.cell (p := ⟨bF + 1, 3, none⟩) z_P).trans c_P3
        go_simp
      clear hK K
      simp only [Act.put, List.setIfInBounds_toArray, List.set_cons_zero, List.set_cons_succ]
      refine wpQuiet_step (fun K hK => ?_)
      rw [if_pos (by rfl)]
      refine ⟨vec (fP b), fun W' hW => ?_, hK _ ?_⟩
      · have e_0 := (hW.cell (p := ⟨bF + 1, 0, none⟩) z_P).trans c_P0
        have e_1 := (hW.cell (p := ⟨bF + 1, 1, none⟩) z_P).trans c_P1
        have e_2 := (hW.cell (p := ⟨bF + 1, 2, none⟩) z_P).trans c_P2
        have e_3 := (hW.cell (p := ⟨bF + 1, 3, none⟩) z_P).trans c_P3
        go_simp
      clear hK K
      simp only [Act.put, List.setIfInBounds_toArray, List.set_cons_zero, List.set_cons_succ]
      refine wpQuiet_step (fun K hK => ?_)
      rw [if_pos (by rfl)]
      refine ⟨.agg #[.int .u64 1, .int .u64 0, .int .u64 0, .int .u64 0], fun W' hW => ?_, hK _ ?_⟩
      · go_simp
      clear hK K
      simp only [Act.put, List.setIfInBounds_toArray, List.set_cons_zero, List.set_cons_succ]
      refine wpQuiet_step (fun K hK => ?_)
      rw [if_pos (by rfl)]
      refine ⟨vec d, fun W' hW => ?_, hK _ ?_⟩
      · have e_0 := (hW.cell (p := ⟨bD, 0, none⟩) z_D).trans c_D0
        have e_1 := (hW.cell (p := ⟨bD, 1, none⟩) z_D).trans c_D1
        have e_2 := (hW.cell (p := ⟨bD, 2, none⟩) z_D).trans c_D2
        have e_3 := (hW.cell (p := ⟨bD, 3, none⟩) z_D).trans c_D3
        go_simp
      clear hK K
      simp only [Act.put, List.setIfInBounds_toArray, List.set_cons_zero, List.set_cons_succ]
      refine wpQuiet_step (fun K hK => ?_)
      rw [if_pos (by rfl)]
      refine ⟨vec sd, fun W' hW => ?_, hK _ ?_⟩
      · go_simp
        refine (AD.out _).mono ?_
        rintro e w' ⟨rfl, b⟩
        exact ⟨rfl, hW.trans (b.mono hW.size)⟩
      clear hK K
      simp only [Act.put, List.setIfInBounds_toArray, List.set_cons_zero, List.set_cons_succ]
      refine wpQuiet_step (fun K hK => ?_)
      rw [if_pos (by rfl)]
      refine ⟨vec yf, fun W' hW => ?_, hK _ ?_⟩
      · go_simp
        refine (FM.out _).mono ?_
        rintro e w' ⟨rfl, b⟩
        exact ⟨rfl, hW.trans (b.mono hW.size)⟩
      clear hK K
      simp only [Act.put, List.setIfInBounds_toArray, List.set_cons_zero, List.set_cons_succ]
      refine wpQuiet_step (fun K hK => ?_)
      rw [if_pos (by rfl)]
      refine ⟨.pointer (some ⟨gy, i * 4, none⟩), fun W' hW => ?_, hK _ ?_⟩
      · go_simp
      clear hK K
      simp only [Act.put, List.setIfInBounds_toArray, List.set_cons_zero, List.set_cons_succ]
      refine wpQuiet_nil ?_
      intro ws1 hW9
      clear z_A c_A0 c_A1 c_A2 c_A3 z_P c_P0 c_P1 c_P2 c_P3 z_D c_D0 c_D1 c_D2 c_D3 z_F c_F0 c_F1 c_F2 c_F3 c_F4 c_F5 c_F6 c_F7 c_F8 c_F9 c_F10 c_F11 c_F12 c_F13 d0 d1 d2 d3 zd fd0 fd1 fd2 fd3
      replace R_y := hid (R_y.out.keep hW9)
      replace X_A := X_A.keep hW9
      replace X_F := X_F.keep hW9
      replace X_P := X_P.keep hW9
      replace X_D := X_D.keep hW9
      replace T := hid (T.out.keep hW9)
      replace BW := hid (BW.out.trans (hW9.mono BW.out.size))
      clear hW9
      obtain ⟨d0, d1, d2, d3⟩ := R_y.out.cells (i := i) (v := fO b) HIN.out rfl
      have zd := R_y.out.lt
      have fd0 := R_y.out.frozen (i * 4)
      have fd1 := R_y.out.frozen (i * 4 + 1)
      have fd2 := R_y.out.frozen (i * 4 + 2)
      have fd3 := R_y.out.frozen (i * 4 + 3)
      go_upto_region 8 with (fail)
      obtain ⟨v23, hs9⟩ : ∃ q, ((((ws1.setCell ⟨gy, i * 4, none⟩ (.int .u64 (limb yf 0 : Int))).setCell ⟨gy, i * 4 + 1, none⟩ (.int .u64 (limb yf 1 : Int))).setCell ⟨gy, i * 4 + 2, none⟩ (.int .u64 (limb yf 2 : Int))).setCell ⟨gy, i * 4 + 3, none⟩ (.int .u64 (limb yf 3 : Int))) = q := ⟨_, rfl⟩
      have O9 : Only (fun k => k = gy) ws1 v23 := by rw [← hs9]; exact only_row _ _ _ _ _ _ _
      have S9 : RowF v23 w.heap.size 29 gy n n (fun t => if t = i then yf else fO b) := by rw [← hs9]; exact (R_y.out.store HIN.out yf).congr (fun _ _ => rfl)
      rw [hs9]
      clear hs9
      clear d0 d1 d2 d3 zd fd0 fd1 fd2 fd3
      replace X_A := X_A.only O9 (show ¬ (bA = gy) by omega)
      replace X_F := X_F.only O9 (show ¬ (bF = gy) by omega)
      replace X_P := X_P.only O9 (show ¬ (bF + 1 = gy) by omega)
      replace X_D := X_D.only O9 (show ¬ (bD = gy) by omega)
      replace BW := hid (BW.out.trans (O9.below (fun k h => by cases h; exact z0_gy) BW.out.size))
      replace R_y := hid S9
      clear O9 S9
      replace T := hid (T0.out.below BW.out (Nat.le_refl _))
      have N_y : NumSl v23 (.slice (some ⟨gy, 0, none⟩) n n) ((onb (fP b) i d n).map (frm (fP b))) := R_y.out.sl (by rw [List.length_map, HOL.out]) (fun t ht => by rw [getD_frm, HON.out t ht]; by_cases h : t = i <;> simp only [h, if_true, if_false, HYF.out, fO_eq]) (small9 (forms9 b _))
      have NY := hid N_y
      clear N_y
      have z_F := X_F.lt
      have c_F0 := X_F.cell (i := 0) rfl
      have c_F1 := X_F.cell (i := 1) rfl
      have c_F2 := X_F.cell (i := 2) rfl
      have c_F3 := X_F.cell (i := 3) rfl
      have c_F4 := X_F.cell (i := 4) rfl
      have c_F5 := X_F.cell (i := 5) rfl
      have c_F6 := X_F.cell (i := 6) rfl
      have c_F7 := X_F.cell (i := 7) rfl
      have c_F8 := X_F.cell (i := 8) rfl
      have c_F9 := X_F.cell (i := 9) rfl
      have c_F10 := X_F.cell (i := 10) rfl
      have c_F11 := X_F.cell (i := 11) rfl
      have c_F12 := X_F.cell (i := 12) rfl
      have c_F13 := X_F.cell (i := 13) rfl
      go_wp2_with fail
      refine (F1.out _ _ _ (HS.out.below BW.out) NY.out).mono ?_
      rintro e v24 ⟨rfl, b9⟩
      clear NY
      clear z_F c_F0 c_F1 c_F2 c_F3 c_F4 c_F5 c_F6 c_F7 c_F8 c_F9 c_F10 c_F11 c_F12 c_F13
      replace R_y := hid (R_y.out.keep b9)
      replace X_A := X_A.keep b9
      replace X_F := X_F.keep b9
      replace X_P := X_P.keep b9
      replace X_D := X_D.keep b9
      replace T := hid (T.out.keep b9)
      replace BW := hid (BW.out.trans (b9.mono BW.out.size))
      clear b9
      go_wp2_with fail
      refine (alive10_any _ T.out).mono ?_
      rintro e v25 ⟨rfl, b9⟩
      replace R_y := hid (R_y.out.keep b9)
      replace X_A := X_A.keep b9
      replace X_F := X_F.keep b9
      replace X_P := X_P.keep b9
      replace X_D := X_D.keep b9
      replace T := hid (T.out.keep b9)
      replace BW := hid (BW.out.trans (b9.mono BW.out.size))
      clear b9
      have heq2 := HEQ.out
      have z_D := X_D.lt
      have c_D0 := X_D.cell (i := 0) rfl
      have c_D1 := X_D.cell (i := 1) rfl
      have c_D2 := X_D.cell (i := 2) rfl
      have c_D3 := X_D.cell (i := 3) rfl
      go_wp2_with fail
      refine (MC.out _).mono ?_
      rintro e v26 ⟨rfl, b9⟩
      clear z_D c_D0 c_D1 c_D2 c_D3
      replace R_y := hid (R_y.out.keep b9)
      replace X_A := X_A.keep b9
      replace X_F := X_F.keep b9
      replace X_P := X_P.keep b9
      replace X_D := X_D.keep b9
      replace T := hid (T.out.keep b9)
      replace BW := hid (BW.out.trans (b9.mono BW.out.size))
      clear b9
      go_wp2
      go_ret
      exact ⟨rfl, BW.out⟩
  · skip
    obtain ⟨c, hc9⟩ : ∃ c, chkx xs = c := ⟨_, rfl⟩
    rw [hc9] at hc RCC
    have hd : (c != 0) = true := by simp [hc]
    clear hc hc9 hlx hn
    go_enter Tryd.func6, Tryd.ntmps6
    go_wp2_with fail
    obtain ⟨v5, hv9⟩ : ∃ v, (w.alloc (.cells #[.int .u64 (limb a 0 : Int), .int .u64 (limb a 1 : Int), .int .u64 (limb a 2 : Int), .int .u64 (limb a 3 : Int)] 28)) = v := ⟨_, rfl⟩
    have hG9 : Below w.heap.size w v5 := by rw [← hv9]; go_grown
    have X_A : Blk v5 (w.heap.size) 28 [.int .u64 (limb a 0 : Int), .int .u64 (limb a 1 : Int), .int .u64 (limb a 2 : Int), .int .u64 (limb a 3 : Int)] := by rw [← hv9]; exact Blk.new rfl
    obtain ⟨bA, hb9⟩ : ∃ k, w.heap.size = k := ⟨_, rfl⟩
    rw [hb9] at X_A
    have g_bA : w.heap.size ≤ bA := by rw [← hb9]; exact BW.out.size
    replace T := hid (T.out.keep hG9)
    replace BW := hid (BW.out.trans (hG9.mono BW.out.size))
    clear hG9
    rw [hv9]
    try rw [hb9]
    clear hv9 hb9
    refine (RCC.out _ (HS.out.below BW.out)).mono ?_
    rintro e v6 ⟨rfl, b9⟩
    replace X_A := X_A.keep b9
    replace T := hid (T.out.keep b9)
    replace BW := hid (BW.out.trans (b9.mono BW.out.size))
    clear b9
    go_wp2_with fail
    refine (alive10_any _ T.out).mono ?_
    rintro e v7 ⟨rfl, b9⟩
    replace X_A := X_A.keep b9
    replace T := hid (T.out.keep b9)
    replace BW := hid (BW.out.trans (b9.mono BW.out.size))
    clear b9
    go_wp2
    go_ret
    exact ⟨rfl, BW.out⟩
end Go.Proofs.YtogenbggjodcnaaDoor
