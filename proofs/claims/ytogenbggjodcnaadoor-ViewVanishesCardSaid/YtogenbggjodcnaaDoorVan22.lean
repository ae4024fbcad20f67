/-
  The polynomial that is 1 at zero and vanishes at points.
-/
import Derived.Test.YtogenbggjodcnaaDoorFactors
import Derived.Test.YtogenbggjodcnaaDoorViewB
import Derived.Test.YtogenbggjodcnaaDoorPolyB2
namespace Go.Proofs.YtogenbggjodcnaaDoor
open Go.RowKit Go.Shelf

attribute [local go_sem] Oper.semAt_some
/-- The product of the factors of inverses. -/
noncomputable def vanQ (p : Nat) (ys : List Nat) : List Nat := ys.foldl (fun o y => pmulV p o [1, subm p 0 y]) [1]
theorem vanQ_snoc (p : Nat) (ys : List Nat) (y : Nat) : vanQ p (ys ++ [y]) = pmulV p (vanQ p ys) [1, subm p 0 y] := by unfold vanQ; rw [List.foldl_append]; rfl
theorem vanQ_inv (p : Nat) (xs : List Nat) : vanQ p (xs.map (invm p)) = vanV p xs := by unfold vanQ vanV; rw [List.foldl_map]; rfl
theorem vanQ_ne {p : Nat} (hp : 0 < p) (ys : List Nat) : vanQ p ys ≠ [] ∧ (vanQ p ys).length = ys.length + 1 := by
  have h : ∀ (ys o : List Nat), o ≠ [] → (ys.foldl (fun o y => pmulV p o [1, subm p 0 y]) o) ≠ [] ∧ (ys.foldl (fun o y => pmulV p o [1, subm p 0 y]) o).length = o.length + ys.length := by
    intro ys
    induction ys with
    | nil => intro o ho; exact ⟨ho, rfl⟩
    | cons y r ih =>
      intro o ho
      have hl : (pmulV p o [1, subm p 0 y]).length = o.length + 1 := by rw [pmulV_len ho (by simp)]; simp
      obtain ⟨h1, h2⟩ := ih (pmulV p o [1, subm p 0 y]) (fun e => by rw [e] at hl; simp at hl)
      exact ⟨h1, by show (List.foldl _ (pmulV p o [1, subm p 0 y]) r).length = _; rw [h2, hl, List.length_cons]; omega⟩
  obtain ⟨h1, h2⟩ := h ys [1] (by simp)
  exact ⟨h1, by unfold vanQ; rw [h2]; simp; omega⟩
theorem vanQ_lt {p : Nat} (hp : 1 < p) (ys : List Nat) : ∀ z ∈ vanQ p ys, z < p := by
  have h : ∀ (ys o : List Nat), (∀ z ∈ o, z < p) → ∀ z ∈ (ys.foldl (fun o y => pmulV p o [1, subm p 0 y]) o), z < p := by
    intro ys
    induction ys with
    | nil => intro o ho; exact ho
    | cons y r ih => intro o ho; exact ih _ (pmulV_lt _ _ (by omega))
  exact h ys [1] (fun z hz => by rw [List.mem_singleton.1 hz]; exact hp)
/-- It returns a slice of the numbers zs, and a number. -/
def RetNE (zs : List Nat) (c : Int) (w : World) : Ending → World → Prop := fun e w' => ∃ v, e = .returned (.tuple #[v, .int .i64 c]) ∧ NumSl w' v zs ∧ Below w.heap.size w w'
set_option maxRecDepth 100000 in
set_option maxHeartbeats 2000000 in
theorem vanish_bad (b : Bool) (v : Value) (xs : List Int) (w : World) (hS : IntSl w v xs) (hl : xs.length < 10000) (hc : chkx xs ≠ 0) :
    Calls Tryd.prog 37 #[FV b, v] w (Ret (.tuple #[.slice none 0 0, .int .i64 (chkx xs)]) w) := by
  have BW := hid (Below.refl w.heap.size w)
  have HS := hid hS
  obtain ⟨sa, sc, rfl, _⟩ := hS
  obtain ⟨n, hn⟩ : ∃ n, xs.length = n := ⟨_, rfl⟩
  rw [hn] at HS hl ⊢
  have HN := hid hn
  have CK := hid (fun (W : World) (h : IntSl W (.slice sa n sc) xs) => lcheck_any (.slice sa n sc) xs W h (by omega))
  clear hn
  obtain ⟨c, hc9⟩ : ∃ c, chkx xs = c := ⟨_, rfl⟩
  rw [hc9] at hc CK ⊢
  clear hc9
  have hd : (c != 0) = true := by simp [hc]
  refine (callsIn_wide (n := 9)).1 ?_
  refine callsIn_of_wp_marks Tryd.func37 rfl trivial ?_ rfl
  simp only [Tryd.ntmps37, List.size_toArray, List.length_cons, List.length_nil, Nat.reduceAdd, Nat.reduceSub, Array.replicate_succ, Array.replicate_zero, List.push_toArray, List.append_toArray, List.nil_append, List.cons_append]
  refine wpIn_wide.2 ?_
  go_wp2_with fail
  obtain ⟨v1, hv9⟩ : ∃ v, (w.alloc (.cells #[.int .i64 (fID b), .int .u64 (limb (fP b) 0 : Int), .int .u64 (limb (fP b) 1 : Int), .int .u64 (limb (fP b) 2 : Int), .int .u64 (limb (fP b) 3 : Int), .int .u64 (fI b : Int), .int .u64 (limb (fO b) 0 : Int), .int .u64 (limb (fO b) 1 : Int), .int .u64 (limb (fO b) 2 : Int), .int .u64 (limb (fO b) 3 : Int), .int .u64 (limb (fS b) 0 : Int), .int .u64 (limb (fS b) 1 : Int), .int .u64 (limb (fS b) 2 : Int), .int .u64 (limb (fS b) 3 : Int)] 31)) = v := ⟨_, rfl⟩
  have hG9 : Below w.heap.size w v1 := by rw [← hv9]; go_grown
  have X_F : Blk v1 (w.heap.size) 31 [.int .i64 (fID b), .int .u64 (limb (fP b) 0 : Int), .int .u64 (limb (fP b) 1 : Int), .int .u64 (limb (fP b) 2 : Int), .int .u64 (limb (fP b) 3 : Int), .int .u64 (fI b : Int), .int .u64 (limb (fO b) 0 : Int), .int .u64 (limb (fO b) 1 : Int), .int .u64 (limb (fO b) 2 : Int), .int .u64 (limb (fO b) 3 : Int), .int .u64 (limb (fS b) 0 : Int), .int .u64 (limb (fS b) 1 : Int), .int .u64 (limb (fS b) 2 : Int), .int .u64 (limb (fS b) 3 : Int)] := by rw [← hv9]; exact Blk.new rfl
  obtain ⟨bF, hb9⟩ : ∃ k, w.heap.size = k := ⟨_, rfl⟩
  rw [hb9] at X_F
  have g_bF : w.heap.size ≤ bF := by rw [← hb9]; exact BW.out.size
  replace BW := hid (BW.out.trans (hG9.mono BW.out.size))
  clear hG9
  rw [hv9]
  try rw [hb9]
  clear hv9 hb9
  refine (CK.out _ (HS.out.below BW.out)).mono ?_
  rintro e v2 ⟨rfl, b9⟩
  replace X_F := X_F.keep b9
  replace BW := hid (BW.out.trans (b9.mono BW.out.size))
  clear b9
  go_wp2
  refine ⟨.tuple #[.slice none 0 0, .int .i64 c], by simp only [results, Tryd.results37]; go_simp, ?_⟩
  exact ⟨rfl, BW.out⟩
set_option maxRecDepth 100000 in
set_option maxHeartbeats 8000000 in
theorem vanish_ok (b : Bool) (v : Value) (xs : List Int) (w : World) (hS : IntSl w v xs) (hl : xs.length < 10000) (hc : chkx xs = 0) :
    Calls Tryd.prog 37 #[FV b, v] w (RetNE ((vanV (fP b) (pts xs)).map (frm (fP b))) 0 w) := by
  have BW := hid (Below.refl w.heap.size w)
  have HS := hid hS
  obtain ⟨sa, sc, rfl, _⟩ := hS
  obtain ⟨n, hn⟩ : ∃ n, xs.length = n := ⟨_, rfl⟩
  rw [hn] at HS hl ⊢
  have HN := hid hn
  have CK := hid (fun (W : World) (h : IntSl W (.slice sa n sc) xs) => lcheck_any (.slice sa n sc) xs W h (by omega))
  clear hn
  have hx := hid (chkx_zero hc).1
  rw [hc] at CK
  clear hc
  have hp2 := fP_two b
  rw [← vanQ_inv]
  have HYL : Hid (((pts xs).map (invm (fP b))).length = n) := hid (by rw [List.length_map, pts_len]; exact HN.out)
  obtain ⟨ys, hys⟩ : ∃ ys, (pts xs).map (invm (fP b)) = ys := ⟨_, rfl⟩
  have FS := hid (fun (W : World) (bx bf N : Nat) (h1 : Blk W bx 22 [.slice sa n sc]) (h2 : Blk W bf 31 [.int .i64 (fID b), .int .u64 (limb (fP b) 0 : Int), .int .u64 (limb (fP b) 1 : Int), .int .u64 (limb (fP b) 2 : Int), .int .u64 (limb (fP b) 3 : Int), .int .u64 (fI b : Int), .int .u64 (limb (fO b) 0 : Int), .int .u64 (limb (fO b) 1 : Int), .int .u64 (limb (fO b) 2 : Int), .int .u64 (limb (fO b) 3 : Int), .int .u64 (limb (fS b) 0 : Int), .int .u64 (limb (fS b) 1 : Int), .int .u64 (limb (fS b) 2 : Int), .int .u64 (limb (fS b) 3 : Int)]) (h3 : IntSl W (.slice sa n sc) xs) (h4 : N ≤ bx) (h5 : N ≤ bf) => factors_seq b (.slice sa n sc) xs bx bf N W h1 h2 h3 hx (by rw [HN.out]; omega) h4 h5)
  rw [hys] at HYL FS ⊢
  clear hys
  refine (callsIn_wide (n := 9)).1 ?_
  refine callsIn_of_wp_marks Tryd.func37 rfl trivial ?_ rfl
  simp only [Tryd.ntmps37, List.size_toArray, List.length_cons, List.length_nil, Nat.reduceAdd, Nat.reduceSub, Array.replicate_succ, Array.replicate_zero, List.push_toArray, List.append_toArray, List.nil_append, List.cons_append]
  refine wpIn_wide.2 ?_
  go_wp2_with fail
  obtain ⟨v1, hv9⟩ : ∃ v, (w.alloc (.cells #[.int .i64 (fID b), .int .u64 (limb (fP b) 0 : Int), .int .u64 (limb (fP b) 1 : Int), .int .u64 (limb (fP b) 2 : Int), .int .u64 (limb (fP b) 3 : Int), .int .u64 (fI b : Int), .int .u64 (limb (fO b) 0 : Int), .int .u64 (limb (fO b) 1 : Int), .int .u64 (limb (fO b) 2 : Int), .int .u64 (limb (fO b) 3 : Int), .int .u64 (limb (fS b) 0 : Int), .int .u64 (limb (fS b) 1 : Int), .int .u64 (limb (fS b) 2 : Int), .int .u64 (limb (fS b) 3 : Int)] 31)) = v := ⟨_, rfl⟩
  have hG9 : Below w.heap.size w v1 := by rw [← hv9]; go_grown
  have X_F : Blk v1 (w.heap.size) 31 [.int .i64 (fID b), .int .u64 (limb (fP b) 0 : Int), .int .u64 (limb (fP b) 1 : Int), .int .u64 (limb (fP b) 2 : Int), .int .u64 (limb (fP b) 3 : Int), .int .u64 (fI b : Int), .int .u64 (limb (fO b) 0 : Int), .int .u64 (limb (fO b) 1 : Int), .int .u64 (limb (fO b) 2 : Int), .int .u64 (limb (fO b) 3 : Int), .int .u64 (limb (fS b) 0 : Int), .int .u64 (limb (fS b) 1 : Int), .int .u64 (limb (fS b) 2 : Int), .int .u64 (limb (fS b) 3 : Int)] := by rw [← hv9]; exact Blk.new rfl
  obtain ⟨bF, hb9⟩ : ∃ k, w.heap.size = k := ⟨_, rfl⟩
  rw [hb9] at X_F
  have g_bF : w.heap.size ≤ bF := by rw [← hb9]; exact BW.out.size
  replace BW := hid (BW.out.trans (hG9.mono BW.out.size))
  clear hG9
  rw [hv9]
  try rw [hb9]
  clear hv9 hb9
  refine (CK.out _ (HS.out.below BW.out)).mono ?_
  rintro e v2 ⟨rfl, b9⟩
  replace X_F := X_F.keep b9
  replace BW := hid (BW.out.trans (b9.mono BW.out.size))
  clear b9
  have z_F := X_F.lt
  have c_F0 := X_F.cell (i := 0) rfl
  have c_F1 := X_F.cell (i := 1) rfl
  have c_F2 := X_F.cell (i := 2) rfl
  have c_F3 := X_F.cell (i := 3) rfl
  have c_F4 := X_F.cell (i := 4) rfl
  have c_F5 := X_F.cell (i := 5) rfl
  have c_F6 := X_F.cell (i := 6) rfl
  have c_F7 := X_F.cell (i := 7) rfl
  have c_F8 := X_F.cell (i := 8) rfl
  have c_F9 := X_F.cell (i := 9) rfl
  have c_F10 := X_F.cell (i := 10) rfl
  have c_F11 := X_F.cell (i := 11) rfl
  have c_F12 := X_F.cell (i := 12) rfl
  have c_F13 := X_F.cell (i := 13) rfl
  go_wp2_with fail
  obtain ⟨v3, hv9⟩ : ∃ v, ((v2.alloc (.cells #[.int .u64 (limb (fO b) 0 : Int), .int .u64 (limb (fO b) 1 : Int), .int .u64 (limb (fO b) 2 : Int), .int .u64 (limb (fO b) 3 : Int)] 29)).alloc (.cells #[.slice (some ⟨v2.heap.size, 0, none⟩) 1 1] 34)) = v := ⟨_, rfl⟩
  have hG9 : Below v2.heap.size v2 v3 := by rw [← hv9]; go_grown
  have X_A : Blk v3 (v2.heap.size) 29 [.int .u64 (limb (fO b) 0 : Int), .int .u64 (limb (fO b) 1 : Int), .int .u64 (limb (fO b) 2 : Int), .int .u64 (limb (fO b) 3 : Int)] := by rw [← hv9]; exact Blk.alloc (Blk.new rfl) _
  have X_O : Blk v3 (v2.heap.size + 1) 34 [.slice (some ⟨v2.heap.size, 0, none⟩) 1 1] := by rw [← hv9]; exact Blk.new (by simp)
  obtain ⟨bA, hb9⟩ : ∃ k, v2.heap.size = k := ⟨_, rfl⟩
  rw [hb9] at X_A
  rw [hb9] at X_O
  have g_bA : w.heap.size ≤ bA := by rw [← hb9]; exact BW.out.size
  have q_F_bA : bF < bA := by rw [← hb9]; exact X_F.lt
  clear z_F c_F0 c_F1 c_F2 c_F3 c_F4 c_F5 c_F6 c_F7 c_F8 c_F9 c_F10 c_F11 c_F12 c_F13
  replace X_F := X_F.keep hG9
  replace BW := hid (BW.out.trans (hG9.mono BW.out.size))
  clear hG9
  rw [hv9]
  try rw [hb9]
  clear hv9 hb9
  refine (factors_any b _ _ _ _).mono ?_
  rintro e w' ⟨rfl, rfl⟩
  try go_wp2_with fail
  obtain ⟨v4, hv9⟩ : ∃ v, ((v3.alloc (.cells #[.int .i64 (fID b), .int .u64 (limb (fP b) 0 : Int), .int .u64 (limb (fP b) 1 : Int), .int .u64 (limb (fP b) 2 : Int), .int .u64 (limb (fP b) 3 : Int), .int .u64 (fI b : Int), .int .u64 (limb (fO b) 0 : Int), .int .u64 (limb (fO b) 1 : Int), .int .u64 (limb (fO b) 2 : Int), .int .u64 (limb (fO b) 3 : Int), .int .u64 (limb (fS b) 0 : Int), .int .u64 (limb (fS b) 1 : Int), .int .u64 (limb (fS b) 2 : Int), .int .u64 (limb (fS b) 3 : Int)] 31)).alloc (.cells #[.slice sa n sc] 22)) = v := ⟨_, rfl⟩
  have hG9 : Below v3.heap.size v3 v4 := by rw [← hv9]; go_grown
  have X_f : Blk v4 (v3.heap.size) 31 [.int .i64 (fID b), .int .u64 (limb (fP b) 0 : Int), .int .u64 (limb (fP b) 1 : Int), .int .u64 (limb (fP b) 2 : Int), .int .u64 (limb (fP b) 3 : Int), .int .u64 (fI b : Int), .int .u64 (limb (fO b) 0 : Int), .int .u64 (limb (fO b) 1 : Int), .int .u64 (limb (fO b) 2 : Int), .int .u64 (limb (fO b) 3 : Int), .int .u64 (limb (fS b) 0 : Int), .int .u64 (limb (fS b) 1 : Int), .int .u64 (limb (fS b) 2 : Int), .int .u64 (limb (fS b) 3 : Int)] := by rw [← hv9]; exact Blk.alloc (Blk.new rfl) _
  have X_x : Blk v4 (v3.heap.size + 1) 22 [.slice sa n sc] := by rw [← hv9]; exact Blk.new (by simp)
  obtain ⟨bf, hb9⟩ : ∃ k, v3.heap.size = k := ⟨_, rfl⟩
  rw [hb9] at X_f
  rw [hb9] at X_x
  have g_bf : w.heap.size ≤ bf := by rw [← hb9]; exact BW.out.size
  have q_F_bf : bF < bf := by rw [← hb9]; exact X_F.lt
  have q_A_bf : bA < bf := by rw [← hb9]; exact X_A.lt
  have q_O_bf : bA + 1 < bf := by rw [← hb9]; exact X_O.lt
  replace X_F := X_F.keep hG9
  replace X_A := X_A.keep hG9
  replace X_O := X_O.keep hG9
  replace BW := hid (BW.out.trans (hG9.mono BW.out.size))
  clear hG9
  rw [hv9]
  try rw [hb9]
  clear hv9 hb9
  have zr_O := X_O.lt
  have HA : NumSl v4 (.slice (some ⟨bA, 0, none⟩) 1 1) ((vanQ (fP b) []).map (frm (fP b))) := by have h := blk_nums (t := 29) (xs := [fO b]) X_A (by intro y hy; rw [List.mem_singleton.1 hy, fO_eq]; exact Nat.lt_trans (frm_lt _ (by omega)) (fP_lt b)); rw [fO_eq] at h; exact h
  have X_f9 := hid X_f
  have X_x9 := hid X_x
  have HBW := BW
  clear X_A X_f X_x
  have zBW9 : w.heap.size ≤ v4.heap.size := BW.out.size
  have zr_F := X_F.lt
  have zBW9 : w.heap.size ≤ v4.heap.size := BW.out.size
  refine (wpIn_wide (n := 9)).1 ?_
  refine wpIn_eachR (α := Nat) (gf := 106) (lb := #[ptr' (bf + 1), ptr' bf]) (Enc := facE b) (Kp := (fun A B => Keeps bf A B ∧ A.heap.size ≤ B.heap.size)) (xs := ys)
    rfl (enters_of Tryd.func106 (by kernel_rfl) rfl)
    (fun W hg => FS.out W _ _ bf (X_x9.out.grow hg) (X_f9.out.grow hg) (HS.out.below (Below.behind HBW.out (Nat.le_refl _) hg zBW9)) (by omega) (Nat.le_refl _))
    (fun h k => ⟨h.1.trans k.1, Nat.le_trans h.2 k.2⟩) (fun A B hg => ⟨hg.keeps _, hg.size⟩) (fun _ _ _ h => by obtain ⟨_, _, rfl, _⟩ := h; rfl)
    (fun pre W => Blk W (bF) 31 [.int .i64 (fID b), .int .u64 (limb (fP b) 0 : Int), .int .u64 (limb (fP b) 1 : Int), .int .u64 (limb (fP b) 2 : Int), .int .u64 (limb (fP b) 3 : Int), .int .u64 (fI b : Int), .int .u64 (limb (fO b) 0 : Int), .int .u64 (limb (fO b) 1 : Int), .int .u64 (limb (fO b) 2 : Int), .int .u64 (limb (fO b) 3 : Int), .int .u64 (limb (fS b) 0 : Int), .int .u64 (limb (fS b) 1 : Int), .int .u64 (limb (fS b) 2 : Int), .int .u64 (limb (fS b) 3 : Int)] ∧ (∃ y, Blk W (bA + 1) 34 [y] ∧ NumSl W y ((vanQ (fP b) pre).map (frm (fP b)))) ∧ Below w.heap.size w W ∧ v4.heap.size ≤ W.heap.size)
    (fun c pre W => False)
    (fun pre A B h g => by obtain ⟨h_F, hacc, hbw, hsz⟩ := h; exact ⟨h_F.grow g, (by obtain ⟨y, h1, h2⟩ := hacc; exact ⟨y, h1.grow g, h2.grow g⟩), Below.behind hbw (Nat.le_refl _) g zBW9, Nat.le_trans hsz g.size⟩)
    (fun _ _ _ _ h _ => h) ⟨X_F, ⟨_, X_O, HA⟩, BW.out, Nat.le_refl _⟩ ?round ?done ?stop
  case round =>
    rintro m lm pre y args W ⟨h_F, hacc, hbw, hsz⟩ henc hpre hl
    clear X_F BW
    obtain ⟨hget, hpt⟩ := pre_take hpre
    clear hpt
    have HPRE := hid hpre
    have HLL := hid hl
    clear hpre hl
    have HSZ := hid hsz
    obtain ⟨fa, fc, rfl, hfn⟩ := henc
    gi_wp2
    refine ⟨Only.refl _ _, fun W2 hg => ?_⟩
    have G2 : Grow v4.heap.size W W2 := hg
    have X_F := h_F.grow G2
    clear h_F
    obtain ⟨yv, h9, hO9⟩ := hacc
    have X_O := h9.grow G2
    have N_y := hid (hO9.grow G2)
    clear h9 hO9
    have BW := hid (Below.behind hbw (Nat.le_refl _) G2 zBW9)
    replace HSZ := hid (Nat.le_trans hsz G2.size)
    have OE := hid (Only.refl (fun _ => True) W2)
    have G0 := hid G2
    clear hbw hsz hg G2
    have N_c := hid (hfn.grow G0.out)
    clear hfn
    obtain ⟨ay, cy, rfl, _, _⟩ := id N_y.out
    obtain ⟨ly, hly⟩ : ∃ q, ((vanQ (fP b) pre).map (frm (fP b))).length = q := ⟨_, rfl⟩
    rw [hly] at N_y X_O
    clear hly
    obtain ⟨hvne, hvl⟩ := vanQ_ne (show 0 < fP b by omega) pre
    have hpn : pre.length < n := by have h := (List.getElem?_eq_some_iff.1 hget).1; rw [HYL.out] at h; exact h
    have hvl2 : (vanQ (fP b) pre).length < 100000 := by omega
    have EM : pmulF (fP b) ((vanQ (fP b) pre).map (frm (fP b))) [frm (fP b) 1, frm (fP b) (subm (fP b) 0 y)] = (vanQ (fP b) (pre ++ [y])).map (frm (fP b)) := by rw [vanQ_snoc, ← pmul_forms (fP_inv b)]; rfl
    have MC := hid (fun (W : World) (v1 v2 : Value) (h1 : NumSl W v1 ((vanQ (fP b) pre).map (frm (fP b)))) (h2 : NumSl W v2 [frm (fP b) 1, frm (fP b) (subm (fP b) 0 y)]) => pmul_sl (fID b) (fP b) (fI b) (fO b) (fS b) v1 v2 _ _ W (hid (fOK b)) h1 h2 (hid (forms9 b _)) (hid (forms9 b [1, subm (fP b) 0 y])) (by rw [List.length_map]; exact hvl2) (by simp))
    rw [EM] at MC
    have KB := hid (Below.refl W2.heap.size W2)
    clear EM hvne hvl hvl2 hpn hget
    have z_F := X_F.lt
    have c_F0 := X_F.cell (i := 0) rfl
    have c_F1 := X_F.cell (i := 1) rfl
    have c_F2 := X_F.cell (i := 2) rfl
    have c_F3 := X_F.cell (i := 3) rfl
    have c_F4 := X_F.cell (i := 4) rfl
    have c_F5 := X_F.cell (i := 5) rfl
    have c_F6 := X_F.cell (i := 6) rfl
    have c_F7 := X_F.cell (i := 7) rfl
    have c_F8 := X_F.cell (i := 8) rfl
    have c_F9 := X_F.cell (i := 9) rfl
    have c_F10 := X_F.cell (i := 10) rfl
    have c_F11 := X_F.cell (i := 11) rfl
    have c_F12 := X_F.cell (i := 12) rfl
    have c_F13 := X_F.cell (i := 13) rfl
    have z_O := X_O.lt
    have c_O0 := X_O.cell (i := 0) rfl
    gi_wp2_with (refine ⟨trivial, (fun h => by cases h), ?_⟩; refine Hid.out ?_)
    refine hid ?_
    clear z_F c_F0 c_F1 c_F2 c_F3 c_F4 c_F5 c_F6 c_F7 c_F8 c_F9 c_F10 c_F11 c_F12 c_F13 z_O c_O0
    refine (CallsIn.inRound lm (callsIn_wide.2 (MC.out _ _ _ N_y.out N_c.out))).mono ?_
    rintro e v5 ⟨vr, rfl, hn9, b9⟩
    replace OE := hid (OE.out.call b9)
    replace X_F := X_F.keep b9
    replace X_O := X_O.keep b9
    replace N_y := hid (N_y.out.below b9)
    replace N_c := hid (N_c.out.below b9)
    replace KB := hid (KB.out.trans (b9.mono KB.out.size))
    replace BW := hid (BW.out.trans (b9.mono BW.out.size))
    clear b9
    obtain ⟨ar, cr, rfl, _, _⟩ := id hn9
    have HN9 := hid hn9
    obtain ⟨lr, hlr⟩ : ∃ q, ((vanQ (fP b) (pre ++ [y])).map (frm (fP b))).length = q := ⟨_, rfl⟩
    rw [hlr] at HN9 ⊢
    clear hn9 hlr
    have z_O := X_O.lt
    have c_O0 := X_O.cell (i := 0) rfl
    have f_O0 := X_O.frozen 0
    gi_wp2
    clear z_O c_O0 f_O0
    have O9 : Only (fun q => q = bA + 1) v5 (v5.setCell ⟨bA + 1, 0, none⟩ (.slice ar lr cr)) := (Only.refl (fun q => q = bA + 1) v5).setCell (p := ⟨bA + 1, 0, none⟩) (.inl rfl) _
    have ST := OE.out.trans (O9.mono (fun _ _ => trivial))
    have BWe := BW.out.trans (O9.below (fun j h => by cases h; omega) BW.out.size)
    have SZe := Nat.le_trans HSZ.out ST.size
    have hno : NumSl (v5.setCell ⟨bA + 1, 0, none⟩ (.slice ar lr cr)) (.slice ar lr cr) ((vanQ (fP b) (pre ++ [y])).map (frm (fP b))) := HN9.out.box X_O O9
    exact ⟨ST, ⟨((G0.out.keeps bf).trans ((Below.grow KB.out v4.heap.size).keeps bf)).trans (O9.keeps (fun k h => by cases h; omega)), Nat.le_trans G0.out.size ST.size⟩, X_F.only O9 (show ¬ (bF = bA + 1) by omega), ⟨_, X_O.set 0 _, hno⟩, BWe, SZe⟩
  case done =>
    rintro D Wd hD ⟨h_F, hacc, hbw, hsz⟩ hK
    clear X_F BW
    have X_F := h_F
    clear h_F
    have BW := hid hbw
    clear hbw
    obtain ⟨yv, X_O, hO9⟩ := hacc
    obtain ⟨ay, cy, rfl, _, _⟩ := id hO9
    have HO9 := hid hO9
    obtain ⟨ly, hly⟩ : ∃ q, ((vanQ (fP b) ys).map (frm (fP b))).length = q := ⟨_, rfl⟩
    rw [hly] at HO9 X_O
    clear hO9 hly
    have z_O := X_O.lt
    have c_O0 := X_O.cell (i := 0) rfl
    go_wp2
    clear z_O c_O0
    have OF := (Only.refl (fun q => False) Wd)
    have hK9 := OF.block D _ hK (.inr rfl)
    refine ⟨by simp, .inl ⟨_, _, rfl, run_takeDeferred hK9, ?_⟩⟩
    have hg9 := (Grow.refl v4.heap.size _).putObj (.deferred none) hD hK9 rfl
    have BWf := Below.behind (BW.out.trans (OF.below (n := w.heap.size) (fun q h => h.elim) BW.out.size)) (Nat.le_refl _) hg9 zBW9
    refine ⟨.tuple #[.slice ay ly cy, .int .i64 0], by simp only [results, Tryd.results37]; go_simp, ?_⟩
    exact ⟨_, rfl, HO9.out.grow hg9, BWf⟩
  case stop => exact fun _ _ _ _ _ _ h _ => h.elim
end Go.Proofs.YtogenbggjodcnaaDoor
