/-
  The elements of the chunks of a secret.
-/
import Derived.Test.YtogenbggjodcnaaDoorByteB
import Derived.Test.YtogenbggjodcnaaDoorSetB
import Derived.TacticsInMore
namespace Go.Proofs.YtogenbggjodcnaaDoor
open Go.RowKit Go.Shelf

attribute [local go_sem] Oper.semAt_some
theorem info_e9 : (Tryd.prog.info? 29).map (fun i => (i.zero, i.size, i.bytes)) = some (some (.agg #[.int .u64 0, .int .u64 0, .int .u64 0, .int .u64 0]), 4, 32) := by kernel_rfl
theorem owns_cells {w : World} {base n : Nat} {e : TypeId} {size : Nat} {v : Value} {xs : List Value} (h : w.ownsRow base e size v n xs) {j : Nat} (hj : v.ownBlock = some j) : ∀ ob, w.heap[j]? = some ob → ob.isCells = true := by
  obtain ⟨_, ⟨rfl, _⟩ | ⟨g, cap, cur, rfl, _, hh, _⟩⟩ := h
  · cases hj
  · have e : g = j := Option.some.inj hj
    subst e
    intro ob ho
    rw [hh] at ho
    cases ho; rfl
set_option maxRecDepth 100000 in
set_option maxHeartbeats 8000000 in
theorem csplit_any (b : Bool) (v : Value) (l : List Nat) (hl : l.length ≤ 65535) (w : World) (hS : ByteSl w v l) :
    Calls Tryd.prog 85 #[FV b, v] w (RetE 29 ((chn l).map (frm (fP b))) 0 w) := by
  have BW := hid (Below.refl w.heap.size w)
  have HS := hid hS
  have HBT := hid hS.byt
  obtain ⟨a, cap, rfl, hcap, _⟩ := id hS
  obtain ⟨n, hn⟩ : ∃ n, l.length = n := ⟨_, rfl⟩
  have HLN := hid hn
  have HCN := hid (fun k => chn_get (l := l) (k := k))
  have HCL := hid (chn_len l)
  rw [hn] at HS hl hcap HCN HCL ⊢
  obtain ⟨c, hc⟩ : ∃ c, (n + 30) / 31 = c := ⟨_, rfl⟩
  rw [hc] at HCN HCL
  have HCC := hid hc
  have hcb : c < 10000 := by omega
  clear hS hn hc
  obtain ⟨i0, hi, hz0, hz1, hz2⟩ := info_parts info_e9
  refine (callsIn_wide (n := 9)).1 ?_
  refine callsIn_of_wp_marks Tryd.func85 rfl trivial ?_ rfl
  simp only [Tryd.ntmps85, List.size_toArray, List.length_cons, List.length_nil, Nat.reduceAdd, Nat.reduceSub, Array.replicate_succ, Array.replicate_zero, List.push_toArray, List.append_toArray, List.nil_append, List.cons_append]
  refine wpIn_wide.2 ?_
  go_wp2_with (go_at_call 119; refine (valid_t (n : Int) (by omega) _).mono ?_; rintro e w' ⟨rfl, rfl⟩)
  obtain ⟨v1, hv9⟩ : ∃ v, (((((w.alloc (.cells #[.int .i64 (fID b), .int .u64 (limb (fP b) 0 : Int), .int .u64 (limb (fP b) 1 : Int), .int .u64 (limb (fP b) 2 : Int), .int .u64 (limb (fP b) 3 : Int), .int .u64 (fI b : Int), .int .u64 (limb (fO b) 0 : Int), .int .u64 (limb (fO b) 1 : Int), .int .u64 (limb (fO b) 2 : Int), .int .u64 (limb (fO b) 3 : Int), .int .u64 (limb (fS b) 0 : Int), .int .u64 (limb (fS b) 1 : Int), .int .u64 (limb (fS b) 2 : Int), .int .u64 (limb (fS b) 3 : Int)] 31)).alloc (.cells #[.slice a n cap] 79)).alloc (.cells #[.slice none 0 0] 34)).alloc (.cells #[.int .i64 0] 37)).alloc (.cells #[.slice none 0 0] 34)) = v := ⟨_, rfl⟩
  have hG9 : Below w.heap.size w v1 := by rw [← hv9]; go_grown
  have X_F : Blk v1 (w.heap.size) 31 [.int .i64 (fID b), .int .u64 (limb (fP b) 0 : Int), .int .u64 (limb (fP b) 1 : Int), .int .u64 (limb (fP b) 2 : Int), .int .u64 (limb (fP b) 3 : Int), .int .u64 (fI b : Int), .int .u64 (limb (fO b) 0 : Int), .int .u64 (limb (fO b) 1 : Int), .int .u64 (limb (fO b) 2 : Int), .int .u64 (limb (fO b) 3 : Int), .int .u64 (limb (fS b) 0 : Int), .int .u64 (limb (fS b) 1 : Int), .int .u64 (limb (fS b) 2 : Int), .int .u64 (limb (fS b) 3 : Int)] := by rw [← hv9]; exact Blk.alloc (Blk.alloc (Blk.alloc (Blk.alloc (Blk.new rfl) _) _) _) _
  have X_S : Blk v1 (w.heap.size + 1) 79 [.slice a n cap] := by rw [← hv9]; exact Blk.alloc (Blk.alloc (Blk.alloc (Blk.new (by simp)) _) _) _
  have X_Q : Blk v1 (w.heap.size + 1 + 1) 34 [.slice none 0 0] := by rw [← hv9]; exact Blk.alloc (Blk.alloc (Blk.new (by simp)) _) _
  have X_E : Blk v1 (w.heap.size + 1 + 1 + 1) 37 [.int .i64 0] := by rw [← hv9]; exact Blk.alloc (Blk.new (by simp)) _
  have X_O : Blk v1 (w.heap.size + 1 + 1 + 1 + 1) 34 [.slice none 0 0] := by rw [← hv9]; exact Blk.new (by simp)
  obtain ⟨bF, hb9⟩ : ∃ k, w.heap.size = k := ⟨_, rfl⟩
  rw [hb9] at X_F
  rw [hb9] at X_S
  rw [hb9] at X_Q
  rw [hb9] at X_E
  rw [hb9] at X_O
  have g_bF : w.heap.size ≤ bF := by rw [← hb9]; exact BW.out.size
  replace BW := hid (BW.out.trans (hG9.mono BW.out.size))
  clear hG9
  rw [hv9]
  try rw [hb9]
  clear hv9 hb9
  refine (bounds_any _ _).mono ?_
  rintro e w' ⟨rfl, rfl⟩
  try go_wp2_with fail
  obtain ⟨v2, hv9⟩ : ∃ v, (v1.alloc (.cells #[.int .i64 (n : Int)] 3)) = v := ⟨_, rfl⟩
  have hG9 : Below v1.heap.size v1 v2 := by rw [← hv9]; go_grown
  have X_B : Blk v2 (v1.heap.size) 3 [.int .i64 (n : Int)] := by rw [← hv9]; exact Blk.new rfl
  obtain ⟨bB, hb9⟩ : ∃ k, v1.heap.size = k := ⟨_, rfl⟩
  rw [hb9] at X_B
  have g_bB : w.heap.size ≤ bB := by rw [← hb9]; exact BW.out.size
  have q_F_bB : bF < bB := by rw [← hb9]; exact X_F.lt
  have q_S_bB : bF + 1 < bB := by rw [← hb9]; exact X_S.lt
  have q_Q_bB : bF + 1 + 1 < bB := by rw [← hb9]; exact X_Q.lt
  have q_E_bB : bF + 1 + 1 + 1 < bB := by rw [← hb9]; exact X_E.lt
  have q_O_bB : bF + 1 + 1 + 1 + 1 < bB := by rw [← hb9]; exact X_O.lt
  replace X_F := X_F.keep hG9
  replace X_S := X_S.keep hG9
  replace X_Q := X_Q.keep hG9
  replace X_E := X_E.keep hG9
  replace X_O := X_O.keep hG9
  replace BW := hid (BW.out.trans (hG9.mono BW.out.size))
  clear hG9
  rw [hv9]
  try rw [hb9]
  clear hv9 hb9
  have zr_O := X_O.lt
  have zr_F := X_F.lt
  have zr_S := X_S.lt
  have zr_Q := X_Q.lt
  have zr_E := X_E.lt
  have zr_B := X_B.lt
  have zBW9 : w.heap.size ≤ v2.heap.size := BW.out.size
  refine (wpIn_wide (n := 9)).1 ?_
  refine wpIn_eachR (α := Nat × Nat) (gf := 141) (lb := #[ptr' bB]) (Enc := bndE) (Kp := (fun A B => Blk A bB 3 [.int .i64 (n : Int)] → Blk B bB 3 [.int .i64 (n : Int)])) (xs := (bnds n))
    rfl (enters_of Tryd.func141 (by kernel_rfl) rfl)
    (fun W hg => bounds_seq bB n hl W (X_B.grow hg))
    (fun h k x => k (h x)) (fun A B hg => fun h => h.grow hg) (fun _ _ _ h => by rw [h]; rfl)
    (fun pre W => Blk W (bF) 31 [.int .i64 (fID b), .int .u64 (limb (fP b) 0 : Int), .int .u64 (limb (fP b) 1 : Int), .int .u64 (limb (fP b) 2 : Int), .int .u64 (limb (fP b) 3 : Int), .int .u64 (fI b : Int), .int .u64 (limb (fO b) 0 : Int), .int .u64 (limb (fO b) 1 : Int), .int .u64 (limb (fO b) 2 : Int), .int .u64 (limb (fO b) 3 : Int), .int .u64 (limb (fS b) 0 : Int), .int .u64 (limb (fS b) 1 : Int), .int .u64 (limb (fS b) 2 : Int), .int .u64 (limb (fS b) 3 : Int)] ∧ Blk W (bF + 1) 79 [.slice a n cap] ∧ Blk W (bF + 1 + 1) 34 [.slice none 0 0] ∧ Blk W (bF + 1 + 1 + 1) 37 [.int .i64 0] ∧ Blk W (bB) 3 [.int .i64 (n : Int)] ∧ (∃ y, Blk W (bF + 1 + 1 + 1 + 1) 34 [y] ∧ W.ownsRow v2.heap.size 29 4 y pre.length (nums (((chn l).map (frm (fP b))).take pre.length))) ∧ Below w.heap.size w W ∧ v2.heap.size ≤ W.heap.size)
    (fun c pre W => False)
    (fun pre A B h g => by obtain ⟨h_F, h_S, h_Q, h_E, h_B, hacc, hbw, hsz⟩ := h; exact ⟨h_F.grow g, h_S.grow g, h_Q.grow g, h_E.grow g, h_B.grow g, (by obtain ⟨y, h1, h2⟩ := hacc; exact ⟨y, h1.grow g, owns_grow h2 g⟩), Below.behind hbw (Nat.le_refl _) g zBW9, Nat.le_trans hsz g.size⟩)
    (fun _ _ _ _ h _ => h) ⟨X_F, X_S, X_Q, X_E, X_B, ⟨_, X_O, World.ownsRow_nil _ _ _ _⟩, BW.out, Nat.le_refl _⟩ ?round ?done ?stop
  case round =>
    rintro m lm pre ⟨k, mm0⟩ args W ⟨h_F, h_S, h_Q, h_E, h_B, hacc, hbw, hsz⟩ henc hpre hl
    clear X_F X_S X_Q X_E X_B BW
    obtain ⟨hget, hpt⟩ := pre_take hpre
    clear hpt
    have HPRE := hid hpre
    have HLL := hid hl
    clear hpre hl
    have HSZ := hid hsz
    unfold bndE at henc
    subst henc
    gi_wp2
    refine ⟨Only.refl _ _, fun W2 hg => ?_⟩
    have G2 : Grow v2.heap.size W W2 := hg
    have X_F := h_F.grow G2
    clear h_F
    have X_S := h_S.grow G2
    clear h_S
    have X_Q := h_Q.grow G2
    clear h_Q
    have X_E := h_E.grow G2
    clear h_E
    have X_B := h_B.grow G2
    clear h_B
    obtain ⟨yv, h9, hO9⟩ := hacc
    have X_O := h9.grow G2
    have N_y := hid (owns_grow hO9 G2)
    clear h9 hO9
    have BW := hid (Below.behind hbw (Nat.le_refl _) G2 zBW9)
    replace HSZ := hid (Nat.le_trans hsz G2.size)
    have OE := hid (Only.refl (fun _ => True) W2)
    have G0 := hid G2
    clear hbw hsz hg G2
    obtain ⟨hkc, hex⟩ := bnds_at hget
    obtain ⟨k0, hpl⟩ : ∃ k, pre.length = k := ⟨_, rfl⟩
    rw [hpl] at hkc hex N_y
    cases hex
    rw [HCC.out] at hkc
    have HPL := hid hpl
    clear hpl hget
    obtain ⟨f, hf⟩ : ∃ f, 31 * k = f := ⟨_, rfl⟩
    obtain ⟨mm, hmm⟩ : ∃ m, min 31 (n - f) = m := ⟨_, rfl⟩
    rw [hf, hmm]
    have hfn : f < n := by have := HCC.out; omega
    obtain ⟨u, hu⟩ : ∃ u, f + mm = u := ⟨_, rfl⟩
    have hun : u ≤ n := by omega
    have huf : f < u := by omega
    have N_b := hid (HS.out.below BW.out)
    obtain ⟨g, off, rfl⟩ := N_b.out.ptr (by rw [HLN.out]; omega)
    have w1 : IntKind.i64.wrap ((k : Int) * 31) = (f : Int) := by rw [IntKind.wrap_i64]; omega
    have w2 : IntKind.i64.wrap ((f : Int) + (mm : Int)) = (u : Int) := by rw [IntKind.wrap_i64]; omega
    have HP : (l.drop f).take (u - f) = (l.drop f).take 31 := by rw [← part31 HLN.out (i := f) rfl]; exact congrArg (fun q => (l.drop f).take q) (by omega)
    have N_p := hid (N_b.out.part f (u - f) (u - f) (by rw [HLN.out]; omega) (Nat.le_refl _))
    rw [show (some (⟨g, off, none⟩ : Addr)).map (·.add f) = some ⟨g, off + f, none⟩ by simp [Addr.add], HP] at N_p
    have hz : ((chn l).map (frm (fP b)))[k]? = some (frm (fP b) (num ((l.drop f).take 31))) := by rw [List.getElem?_map, HCN.out k hkc, hf]; rfl
    have T1 := hid (take_next hz)
    have hp31 : ((l.drop f).take 31).length ≤ 31 := by simp; omega
    have PC := hid (fun (W : World) (h : ByteSl W (.slice (some ⟨g, off + f, none⟩) (u - f) (u - f)) ((l.drop f).take 31)) => pack_any b _ ((l.drop f).take 31) hp31 W h)
    obtain ⟨z, hz9⟩ : ∃ z, frm (fP b) (num ((l.drop f).take 31)) = z := ⟨_, rfl⟩
    rw [hz9] at PC T1
    have hf0 : (0 : Int) ≤ (f : Int) := by omega
    have hfu : (f : Int) ≤ (u : Int) := by omega
    have hucap : (u : Int) ≤ (cap : Int) := by omega
    have hcf : ¬ (cap = f) := by omega
    have huf2 : ¬ (u = f) := by omega
    clear hz9 hz HP hp31 hf hmm hu
    gi_wp2
    have z_F := X_F.lt
    have c_F0 := X_F.cell (i := 0) rfl
    have c_F1 := X_F.cell (i := 1) rfl
    have c_F2 := X_F.cell (i := 2) rfl
    have c_F3 := X_F.cell (i := 3) rfl
    have c_F4 := X_F.cell (i := 4) rfl
    have c_F5 := X_F.cell (i := 5) rfl
    have c_F6 := X_F.cell (i := 6) rfl
    have c_F7 := X_F.cell (i := 7) rfl
    have c_F8 := X_F.cell (i := 8) rfl
    have c_F9 := X_F.cell (i := 9) rfl
    have c_F10 := X_F.cell (i := 10) rfl
    have c_F11 := X_F.cell (i := 11) rfl
    have c_F12 := X_F.cell (i := 12) rfl
    have c_F13 := X_F.cell (i := 13) rfl
    have z_S := X_S.lt
    have c_S0 := X_S.cell (i := 0) rfl
    refine wpIn_round_held (S := (fun w' => ∀ b o, b < W2.heap.size → w'.cell? ⟨b, o, none⟩ = W2.cell? ⟨b, o, none⟩)) (by kernel_rfl) (by kernel_rfl) (fun b o h => cell_drew) (fun hHeld => ?_)
    have H9 := (Below.refl W2.heap.size W2).drew
    refine wpAnyH_take (i := 0) (oi := _) (v := .agg #[.int .i64 (fID b), .int .u64 (limb (fP b) 0 : Int), .int .u64 (limb (fP b) 1 : Int), .int .u64 (limb (fP b) 2 : Int), .int .u64 (limb (fP b) 3 : Int), .int .u64 (fI b : Int), .int .u64 (limb (fO b) 0 : Int), .int .u64 (limb (fO b) 1 : Int), .int .u64 (limb (fO b) 2 : Int), .int .u64 (limb (fO b) 3 : Int), .int .u64 (limb (fS b) 0 : Int), .int .u64 (limb (fS b) 1 : Int), .int .u64 (limb (fS b) 2 : Int), .int .u64 (limb (fS b) 3 : Int)]) rfl (by kernel_rfl) (by kernel_rfl) (by kernel_rfl) (fun _ _ _ h => by cases h.1) (Or.inl ⟨by rfl, ?_⟩) (by assumption) ?_
    · intro w hSw; (try dsimp only at hSw); go_simp
    try simp only [Act.put, List.setIfInBounds_toArray, List.set_cons_zero, List.set_cons_succ]
    refine wpAnyH_take (i := 1) (oi := _) (v := .slice (some ⟨g, off, none⟩) n cap) rfl (by kernel_rfl) (by kernel_rfl) (by kernel_rfl) (fun _ _ _ h => by cases h.1) (Or.inl ⟨by rfl, ?_⟩) (by assumption) ?_
    · intro w hSw; (try dsimp only at hSw); go_simp
    try simp only [Act.put, List.setIfInBounds_toArray, List.set_cons_zero, List.set_cons_succ]
    refine wpAnyH_take (i := 2) (oi := _) (v := .int .i64 (f : Int)) rfl (by kernel_rfl) (by kernel_rfl) (by kernel_rfl) (fun _ _ _ h => by cases h.1) (Or.inl ⟨by rfl, ?_⟩) (by assumption) ?_
    · intro w hSw; (try dsimp only at hSw); go_simp
    try simp only [Act.put, List.setIfInBounds_toArray, List.set_cons_zero, List.set_cons_succ]
    refine wpAnyH_take (i := 3) (oi := _) (v := .int .i64 (f : Int)) rfl (by kernel_rfl) (by kernel_rfl) (by kernel_rfl) (fun _ _ _ h => by cases h.1) (Or.inl ⟨by rfl, ?_⟩) (by assumption) ?_
    · intro w hSw; (try dsimp only at hSw); go_simp
    try simp only [Act.put, List.setIfInBounds_toArray, List.set_cons_zero, List.set_cons_succ]
    refine wpAnyH_take (i := 4) (oi := _) (v := .int .i64 (mm : Int)) rfl (by kernel_rfl) (by kernel_rfl) (by kernel_rfl) (fun _ _ _ h => by cases h.1) (Or.inl ⟨by rfl, ?_⟩) (by assumption) ?_
    · intro w hSw; (try dsimp only at hSw); go_simp
    try simp only [Act.put, List.setIfInBounds_toArray, List.set_cons_zero, List.set_cons_succ]
    refine wpAnyH_take (i := 5) (oi := _) (v := .int .i64 (u : Int)) rfl (by kernel_rfl) (by kernel_rfl) (by kernel_rfl) (fun _ _ _ h => by cases h.1) (Or.inl ⟨by rfl, ?_⟩) (by assumption) ?_
    · intro w hSw; (try dsimp only at hSw); go_simp
    try simp only [Act.put, List.setIfInBounds_toArray, List.set_cons_zero, List.set_cons_succ]
    refine wpAnyH_take (i := 6) (oi := _) (v := .int .i64 (f : Int)) rfl (by kernel_rfl) (by kernel_rfl) (by kernel_rfl) (fun _ _ _ h => by cases h.1) (Or.inl ⟨by rfl, ?_⟩) (by assumption) ?_
    · intro w hSw; (try dsimp only at hSw); go_simp
    try simp only [Act.put, List.setIfInBounds_toArray, List.set_cons_zero, List.set_cons_succ]
    refine wpAnyH_take (i := 7) (oi := _) (v := .int .i64 (mm : Int)) rfl (by kernel_rfl) (by kernel_rfl) (by kernel_rfl) (fun _ _ _ h => by cases h.1) (Or.inl ⟨by rfl, ?_⟩) (by assumption) ?_
    · intro w hSw; (try dsimp only at hSw); go_simp
    try simp only [Act.put, List.setIfInBounds_toArray, List.set_cons_zero, List.set_cons_succ]
    refine wpAnyH_take (i := 8) (oi := _) (v := .int .i64 (u : Int)) rfl (by kernel_rfl) (by kernel_rfl) (by kernel_rfl) (fun _ _ _ h => by cases h.1) (Or.inl ⟨by rfl, ?_⟩) (by assumption) ?_
    · intro w hSw; (try dsimp only at hSw); go_simp
    try simp only [Act.put, List.setIfInBounds_toArray, List.set_cons_zero, List.set_cons_succ]
    refine wpAnyH_take (i := 9) (oi := _) (v := .slice (some ⟨g, off + f, none⟩) (u - f) (u - f)) rfl (by kernel_rfl) (by kernel_rfl) (by kernel_rfl) (fun _ _ _ h => by cases h.1) (Or.inl ⟨by rfl, ?_⟩) (by assumption) ?_
    · intro w hSw; (try dsimp only at hSw); go_simp
    try simp only [Act.put, List.setIfInBounds_toArray, List.set_cons_zero, List.set_cons_succ]
    clear hHeld
    refine wpAnyH_ready (rs := [10, 14]) (by kernel_rfl) (by simp) ?_
    refine AllReadyH.cons (o := _) rfl (fun K hK => ?_) ?_
    · skip
      go_simp
      go_at_call 121
      refine (PC.out _ (N_p.out.below H9)).mono ?_
      rintro e qra1 ⟨rfl, b9⟩
      replace H9 := H9.trans (b9.mono H9.size)
      clear b9
      try go_wp2_with fail
      refine hK.out _ _ (fun b o h => H9.cell (p := ⟨b, o, none⟩) h) (fun hHeld => ?_)
      clear hK K
      try simp only [Act.put, List.setIfInBounds_toArray, List.set_cons_zero, List.set_cons_succ]
      refine wpAnyH_take (i := 11) (oi := _) (v := .tuple #[vec z, .int .i64 0]) rfl (by kernel_rfl) (by kernel_rfl) (by kernel_rfl) (fun _ _ _ h => by cases h.1) (Or.inl ⟨by rfl, ?_⟩) (by assumption) ?_
      · intro w hSw; (try dsimp only at hSw); go_simp
      try simp only [Act.put, List.setIfInBounds_toArray, List.set_cons_zero, List.set_cons_succ]
      refine wpAnyH_take (i := 12) (oi := _) (v := vec z) rfl (by kernel_rfl) (by kernel_rfl) (by kernel_rfl) (fun _ _ _ h => by cases h.1) (Or.inl ⟨by rfl, ?_⟩) (by assumption) ?_
      · intro w hSw; (try dsimp only at hSw); go_simp
      try simp only [Act.put, List.setIfInBounds_toArray, List.set_cons_zero, List.set_cons_succ]
      refine wpAnyH_take (i := 13) (oi := _) (v := .int .i64 0) rfl (by kernel_rfl) (by kernel_rfl) (by kernel_rfl) (fun _ _ _ h => by cases h.1) (Or.inl ⟨by rfl, ?_⟩) (by assumption) ?_
      · intro w hSw; (try dsimp only at hSw); go_simp
      try simp only [Act.put, List.setIfInBounds_toArray, List.set_cons_zero, List.set_cons_succ]
      clear hHeld
      refine wpAnyH_ready (rs := [14]) (by kernel_rfl) (by simp) ?_
      refine AllReadyH.cons (o := _) rfl (fun K hK => ?_) ?_
      · skip
        go_simp
        obtain ⟨qra2, e9⟩ : ∃ q, (qra1.alloc (.cells #[.int .u64 0, .int .u64 0, .int .u64 0, .int .u64 0] 29)) = q := ⟨_, rfl⟩
        rw [e9]
        have g_x : W2.heap.size ≤ qra1.heap.size := H9.size
        have Z_x : Blk qra2 (qra1.heap.size) 29 [.int .u64 0, .int .u64 0, .int .u64 0, .int .u64 0] := blk_to e9 (Blk.new (w := qra1) (xs := [.int .u64 0, .int .u64 0, .int .u64 0, .int .u64 0]) (t := 29) rfl)
        replace H9 := below_to e9 (H9.alloc H9.size (.cells #[.int .u64 0, .int .u64 0, .int .u64 0, .int .u64 0] 29))
        clear e9
        refine hK.out _ _ (fun b o h => H9.cell (p := ⟨b, o, none⟩) h) (fun hHeld => ?_)
        clear hK K
        try simp only [Act.put, List.setIfInBounds_toArray, List.set_cons_zero, List.set_cons_succ]
        clear hHeld
        refine wpAnyH_ready (rs := [15]) (by kernel_rfl) (by simp) ?_
        refine AllReadyH.cons (o := _) rfl (fun K hK => ?_) ?_
        · skip
          have s_l := Z_x.lt
          have s_c0 := Z_x.cell (i := 0) rfl
          have s_c1 := Z_x.cell (i := 1) rfl
          have s_c2 := Z_x.cell (i := 2) rfl
          have s_c3 := Z_x.cell (i := 3) rfl
          have s_f0 := Z_x.frozen 0
          have s_f1 := Z_x.frozen 1
          have s_f2 := Z_x.frozen 2
          have s_f3 := Z_x.frozen 3
          go_simp
          clear s_l s_c0 s_f0 s_c1 s_f1 s_c2 s_f2 s_c3 s_f3
          obtain ⟨qra3, e9⟩ : ∃ q, ((((qra2.setCell ⟨qra1.heap.size, 0, none⟩ (.int .u64 (limb z 0 : Int))).setCell ⟨qra1.heap.size, 1, none⟩ (.int .u64 (limb z 1 : Int))).setCell ⟨qra1.heap.size, 2, none⟩ (.int .u64 (limb z 2 : Int))).setCell ⟨qra1.heap.size, 3, none⟩ (.int .u64 (limb z 3 : Int))) = q := ⟨_, rfl⟩
          rw [e9]
          replace Z_x := blk_to e9 (Z_x.set4 (.int .u64 (limb z 0 : Int)) (.int .u64 (limb z 1 : Int)) (.int .u64 (limb z 2 : Int)) (.int .u64 (limb z 3 : Int)))
          replace H9 := below_to e9 (below_set4 H9 g_x (.int .u64 (limb z 0 : Int)) (.int .u64 (limb z 1 : Int)) (.int .u64 (limb z 2 : Int)) (.int .u64 (limb z 3 : Int)))
          clear e9
          refine hK.out _ _ (fun b o h => H9.cell (p := ⟨b, o, none⟩) h) (fun hHeld => ?_)
          clear hK K
          try simp only [Act.put, List.setIfInBounds_toArray, List.set_cons_zero, List.set_cons_succ]
          refine wpAnyH_take (i := 16) (oi := _) (v := .int .i64 0) rfl (by kernel_rfl) (by kernel_rfl) (by kernel_rfl) (fun _ _ _ h => by cases h.1) (Or.inl ⟨by rfl, ?_⟩) (by assumption) ?_
          · intro w hSw; (try dsimp only at hSw); go_simp
          try simp only [Act.put, List.setIfInBounds_toArray, List.set_cons_zero, List.set_cons_succ]
          clear hHeld
          refine wpAnyH_done (by kernel_rfl) ?_ _
          refine ⟨rfl, ?_⟩
          clear z_F c_F0 c_F1 c_F2 c_F3 c_F4 c_F5 c_F6 c_F7 c_F8 c_F9 c_F10 c_F11 c_F12 c_F13 z_S c_S0
          replace OE := hid (OE.out.call H9)
          replace N_y := hid (owns_keep N_y.out H9)
          replace X_F := X_F.keep H9
          replace X_S := X_S.keep H9
          replace X_Q := X_Q.keep H9
          replace X_E := X_E.keep H9
          replace X_B := X_B.keep H9
          replace X_O := X_O.keep H9
          replace BW := hid (BW.out.trans (H9.mono BW.out.size))
          clear H9
          have X_x := Z_x
          clear Z_x
          have z_x := X_x.lt
          have c_x0 := X_x.cell (i := 0) rfl
          have c_x1 := X_x.cell (i := 1) rfl
          have c_x2 := X_x.cell (i := 2) rfl
          have c_x3 := X_x.cell (i := 3) rfl
          have hne9 : ∀ b9, b9 < v2.heap.size → some b9 ≠ yv.ownBlock := fun b9 h9 h8 => by have := (N_y.out.lt b9 h8.symm).1; omega
          have z_O := X_O.lt
          have c_O0 := X_O.cell (i := 0) rfl
          have HSE := OE.out.size
          have HS0 := HSZ.out
          gi_wp2_with (gi_at_builtin; refine wpListIn_append_own _ rfl _ _ 34 rfl v2.heap.size 29 i0 _ 4 32 Tryd.underlying34 hi hz0 hz1 hz2 rfl (by decide) yv k _ rfl (N_y.out.alloc _) ⟨qra3.heap.size, 0, none⟩ 1 1 [.int .u64 (limb z 0 : Int), .int .u64 (limb z 1 : Int), .int .u64 (limb z 2 : Int), .int .u64 (limb z 3 : Int)] rfl rfl (Blk.news (t := 29) (Blk.new (by simp))) (by simp [Value.oneCell']) (by unfold maxLen; omega) (by omega) (by simp; omega) ?_; intro vq w9 ho hg2 _; obtain ⟨aq, cq, rfl, _, _, _⟩ := owns_form ho; have X_O9 := Blk.grown (X_O.alloc _) hg2 (hne9 _ zr_O); have zO9 := X_O9.lt; have cO9 := X_O9.cell (i := 0) rfl; have fO9 := X_O9.frozen 0)
          clear z_x c_x0 c_x1 c_x2 c_x3 z_O c_O0
          have B9 := Below.grown (BW.out.alloc BW.out.size _) hg2 (by have := BW.out.size; simp; omega) (fun j hj => by have := (N_y.out.lt j hj).1; omega)
          have O9 : Only (fun q => q = bF + 1 + 1 + 1 + 1) w9 (w9.setCell ⟨bF + 1 + 1 + 1 + 1, 0, none⟩ (.slice aq (k + 1) cq)) := (Only.refl (fun q => q = bF + 1 + 1 + 1 + 1) w9).setCell (p := ⟨bF + 1 + 1 + 1 + 1, 0, none⟩) (.inl rfl) _
          have Y_F := (Blk.grown (X_F.alloc _) hg2 (hne9 _ zr_F)).only O9 (show ¬ (bF = bF + 1 + 1 + 1 + 1) by omega)
          have Y_S := (Blk.grown (X_S.alloc _) hg2 (hne9 _ zr_S)).only O9 (show ¬ (bF + 1 = bF + 1 + 1 + 1 + 1) by omega)
          have Y_Q := (Blk.grown (X_Q.alloc _) hg2 (hne9 _ zr_Q)).only O9 (show ¬ (bF + 1 + 1 = bF + 1 + 1 + 1 + 1) by omega)
          have Y_E := (Blk.grown (X_E.alloc _) hg2 (hne9 _ zr_E)).only O9 (show ¬ (bF + 1 + 1 + 1 = bF + 1 + 1 + 1 + 1) by omega)
          have Y_B := (Blk.grown (X_B.alloc _) hg2 (hne9 _ zr_B)).only O9 (show ¬ (bB = bF + 1 + 1 + 1 + 1) by omega)
          have Y_O : Blk (w9.setCell ⟨bF + 1 + 1 + 1 + 1, 0, none⟩ (.slice aq (k + 1) cq)) (bF + 1 + 1 + 1 + 1) 34 [.slice aq (k + 1) cq] := X_O9.set 0 _
          have M_y := owns_only ho O9 (fun j hj h => by have := (ho.lt j hj).1; omega)
          have ST := ((OE.out.alloc _).trans (Only.grownBy (F := fun _ => True) hg2 (fun j hj => ⟨trivial, owns_cells (N_y.out.alloc _) hj⟩))).trans (O9.mono (fun _ _ => trivial))
          have BWe := B9.trans (O9.below (fun j h => by cases h; omega) B9.size)
          have SZe := Nat.le_trans HS0 ST.size
          have HL9 : ∀ q : Nat × Nat, (pre ++ [q]).length = k + 1 := fun q => by rw [List.length_append, HPL.out]; rfl
          exact ⟨ST, fun _ => Y_B, Y_F, Y_S, Y_Q, Y_E, Y_B, ⟨_, Y_O, by rw [HL9, T1.out, nums_snoc]; exact M_y⟩, BWe, SZe⟩
        exact AllReadyH.nil
      exact AllReadyH.nil
    refine AllReadyH.cons (o := _) rfl (fun K hK => ?_) ?_
    · skip
      go_simp
      obtain ⟨qra4, e9⟩ : ∃ q, (W2.alloc (.cells #[.int .u64 0, .int .u64 0, .int .u64 0, .int .u64 0] 29)).drew = q := ⟨_, rfl⟩
      rw [e9]
      have g_x : W2.heap.size ≤ W2.heap.size := H9.size
      have Z_x : Blk qra4 (W2.heap.size) 29 [.int .u64 0, .int .u64 0, .int .u64 0, .int .u64 0] := blk_to e9 (Blk.drew (Blk.new (w := W2) (xs := [.int .u64 0, .int .u64 0, .int .u64 0, .int .u64 0]) (t := 29) rfl))
      replace H9 := below_to e9 (((Below.refl W2.heap.size W2).alloc (Nat.le_refl _) (.cells #[.int .u64 0, .int .u64 0, .int .u64 0, .int .u64 0] 29)).drew)
      clear e9
      refine hK.out _ _ (fun b o h => H9.cell (p := ⟨b, o, none⟩) h) (fun hHeld => ?_)
      clear hK K
      try simp only [Act.put, List.setIfInBounds_toArray, List.set_cons_zero, List.set_cons_succ]
      clear hHeld
      refine wpAnyH_ready (rs := [10]) (by kernel_rfl) (by simp) ?_
      refine AllReadyH.cons (o := _) rfl (fun K hK => ?_) ?_
      · skip
        go_simp
        go_at_call 121
        refine (PC.out _ (N_p.out.below H9)).mono ?_
        rintro e qra5 ⟨rfl, b9⟩
        replace H9 := H9.trans (b9.mono H9.size)
        replace Z_x := Z_x.keep b9
        clear b9
        try go_wp2_with fail
        refine hK.out _ _ (fun b o h => H9.cell (p := ⟨b, o, none⟩) h) (fun hHeld => ?_)
        clear hK K
        try simp only [Act.put, List.setIfInBounds_toArray, List.set_cons_zero, List.set_cons_succ]
        refine wpAnyH_take (i := 11) (oi := _) (v := .tuple #[vec z, .int .i64 0]) rfl (by kernel_rfl) (by kernel_rfl) (by kernel_rfl) (fun _ _ _ h => by cases h.1) (Or.inl ⟨by rfl, ?_⟩) (by assumption) ?_
        · intro w hSw; (try dsimp only at hSw); go_simp
        try simp only [Act.put, List.setIfInBounds_toArray, List.set_cons_zero, List.set_cons_succ]
        refine wpAnyH_take (i := 12) (oi := _) (v := vec z) rfl (by kernel_rfl) (by kernel_rfl) (by kernel_rfl) (fun _ _ _ h => by cases h.1) (Or.inl ⟨by rfl, ?_⟩) (by assumption) ?_
        · intro w hSw; (try dsimp only at hSw); go_simp
        try simp only [Act.put, List.setIfInBounds_toArray, List.set_cons_zero, List.set_cons_succ]
        refine wpAnyH_take (i := 13) (oi := _) (v := .int .i64 0) rfl (by kernel_rfl) (by kernel_rfl) (by kernel_rfl) (fun _ _ _ h => by cases h.1) (Or.inl ⟨by rfl, ?_⟩) (by assumption) ?_
        · intro w hSw; (try dsimp only at hSw); go_simp
        try simp only [Act.put, List.setIfInBounds_toArray, List.set_cons_zero, List.set_cons_succ]
        clear hHeld
        refine wpAnyH_ready (rs := [15]) (by kernel_rfl) (by simp) ?_
        refine AllReadyH.cons (o := _) rfl (fun K hK => ?_) ?_
        · skip
          have s_l := Z_x.lt
          have s_c0 := Z_x.cell (i := 0) rfl
          have s_c1 := Z_x.cell (i := 1) rfl
          have s_c2 := Z_x.cell (i := 2) rfl
          have s_c3 := Z_x.cell (i := 3) rfl
          have s_f0 := Z_x.frozen 0
          have s_f1 := Z_x.frozen 1
          have s_f2 := Z_x.frozen 2
          have s_f3 := Z_x.frozen 3
          go_simp
          clear s_l s_c0 s_f0 s_c1 s_f1 s_c2 s_f2 s_c3 s_f3
          obtain ⟨qra6, e9⟩ : ∃ q, ((((qra5.setCell ⟨W2.heap.size, 0, none⟩ (.int .u64 (limb z 0 : Int))).setCell ⟨W2.heap.size, 1, none⟩ (.int .u64 (limb z 1 : Int))).setCell ⟨W2.heap.size, 2, none⟩ (.int .u64 (limb z 2 : Int))).setCell ⟨W2.heap.size, 3, none⟩ (.int .u64 (limb z 3 : Int))) = q := ⟨_, rfl⟩
          rw [e9]
          replace Z_x := blk_to e9 (Z_x.set4 (.int .u64 (limb z 0 : Int)) (.int .u64 (limb z 1 : Int)) (.int .u64 (limb z 2 : Int)) (.int .u64 (limb z 3 : Int)))
          replace H9 := below_to e9 (below_set4 H9 g_x (.int .u64 (limb z 0 : Int)) (.int .u64 (limb z 1 : Int)) (.int .u64 (limb z 2 : Int)) (.int .u64 (limb z 3 : Int)))
          clear e9
          refine hK.out _ _ (fun b o h => H9.cell (p := ⟨b, o, none⟩) h) (fun hHeld => ?_)
          clear hK K
          try simp only [Act.put, List.setIfInBounds_toArray, List.set_cons_zero, List.set_cons_succ]
          refine wpAnyH_take (i := 16) (oi := _) (v := .int .i64 0) rfl (by kernel_rfl) (by kernel_rfl) (by kernel_rfl) (fun _ _ _ h => by cases h.1) (Or.inl ⟨by rfl, ?_⟩) (by assumption) ?_
          · intro w hSw; (try dsimp only at hSw); go_simp
          try simp only [Act.put, List.setIfInBounds_toArray, List.set_cons_zero, List.set_cons_succ]
          clear hHeld
          refine wpAnyH_done (by kernel_rfl) ?_ _
          refine ⟨rfl, ?_⟩
          clear z_F c_F0 c_F1 c_F2 c_F3 c_F4 c_F5 c_F6 c_F7 c_F8 c_F9 c_F10 c_F11 c_F12 c_F13 z_S c_S0
          replace OE := hid (OE.out.call H9)
          replace N_y := hid (owns_keep N_y.out H9)
          replace X_F := X_F.keep H9
          replace X_S := X_S.keep H9
          replace X_Q := X_Q.keep H9
          replace X_E := X_E.keep H9
          replace X_B := X_B.keep H9
          replace X_O := X_O.keep H9
          replace BW := hid (BW.out.trans (H9.mono BW.out.size))
          clear H9
          have X_x := Z_x
          clear Z_x
          have z_x := X_x.lt
          have c_x0 := X_x.cell (i := 0) rfl
          have c_x1 := X_x.cell (i := 1) rfl
          have c_x2 := X_x.cell (i := 2) rfl
          have c_x3 := X_x.cell (i := 3) rfl
          have hne9 : ∀ b9, b9 < v2.heap.size → some b9 ≠ yv.ownBlock := fun b9 h9 h8 => by have := (N_y.out.lt b9 h8.symm).1; omega
          have z_O := X_O.lt
          have c_O0 := X_O.cell (i := 0) rfl
          have HSE := OE.out.size
          have HS0 := HSZ.out
          gi_wp2_with (gi_at_builtin; refine wpListIn_append_own _ rfl _ _ 34 rfl v2.heap.size 29 i0 _ 4 32 Tryd.underlying34 hi hz0 hz1 hz2 rfl (by decide) yv k _ rfl (N_y.out.alloc _) ⟨qra6.heap.size, 0, none⟩ 1 1 [.int .u64 (limb z 0 : Int), .int .u64 (limb z 1 : Int), .int .u64 (limb z 2 : Int), .int .u64 (limb z 3 : Int)] rfl rfl (Blk.news (t := 29) (Blk.new (by simp))) (by simp [Value.oneCell']) (by unfold maxLen; omega) (by omega) (by simp; omega) ?_; intro vq w9 ho hg2 _; obtain ⟨aq, cq, rfl, _, _, _⟩ := owns_form ho; have X_O9 := Blk.grown (X_O.alloc _) hg2 (hne9 _ zr_O); have zO9 := X_O9.lt; have cO9 := X_O9.cell (i := 0) rfl; have fO9 := X_O9.frozen 0)
          clear z_x c_x0 c_x1 c_x2 c_x3 z_O c_O0
          have B9 := Below.grown (BW.out.alloc BW.out.size _) hg2 (by have := BW.out.size; simp; omega) (fun j hj => by have := (N_y.out.lt j hj).1; omega)
          have O9 : Only (fun q => q = bF + 1 + 1 + 1 + 1) w9 (w9.setCell ⟨bF + 1 + 1 + 1 + 1, 0, none⟩ (.slice aq (k + 1) cq)) := (Only.refl (fun q => q = bF + 1 + 1 + 1 + 1) w9).setCell (p := ⟨bF + 1 + 1 + 1 + 1, 0, none⟩) (.inl rfl) _
          have Y_F := (Blk.grown (X_F.alloc _) hg2 (hne9 _ zr_F)).only O9 (show ¬ (bF = bF + 1 + 1 + 1 + 1) by omega)
          have Y_S := (Blk.grown (X_S.alloc _) hg2 (hne9 _ zr_S)).only O9 (show ¬ (bF + 1 = bF + 1 + 1 + 1 + 1) by omega)
          have Y_Q := (Blk.grown (X_Q.alloc _) hg2 (hne9 _ zr_Q)).only O9 (show ¬ (bF + 1 + 1 = bF + 1 + 1 + 1 + 1) by omega)
          have Y_E := (Blk.grown (X_E.alloc _) hg2 (hne9 _ zr_E)).only O9 (show ¬ (bF + 1 + 1 + 1 = bF + 1 + 1 + 1 + 1) by omega)
          have Y_B := (Blk.grown (X_B.alloc _) hg2 (hne9 _ zr_B)).only O9 (show ¬ (bB = bF + 1 + 1 + 1 + 1) by omega)
          have Y_O : Blk (w9.setCell ⟨bF + 1 + 1 + 1 + 1, 0, none⟩ (.slice aq (k + 1) cq)) (bF + 1 + 1 + 1 + 1) 34 [.slice aq (k + 1) cq] := X_O9.set 0 _
          have M_y := owns_only ho O9 (fun j hj h => by have := (ho.lt j hj).1; omega)
          have ST := ((OE.out.alloc _).trans (Only.grownBy (F := fun _ => True) hg2 (fun j hj => ⟨trivial, owns_cells (N_y.out.alloc _) hj⟩))).trans (O9.mono (fun _ _ => trivial))
          have BWe := B9.trans (O9.below (fun j h => by cases h; omega) B9.size)
          have SZe := Nat.le_trans HS0 ST.size
          have HL9 : ∀ q : Nat × Nat, (pre ++ [q]).length = k + 1 := fun q => by rw [List.length_append, HPL.out]; rfl
          exact ⟨ST, fun _ => Y_B, Y_F, Y_S, Y_Q, Y_E, Y_B, ⟨_, Y_O, by rw [HL9, T1.out, nums_snoc]; exact M_y⟩, BWe, SZe⟩
        exact AllReadyH.nil
      exact AllReadyH.nil
    exact AllReadyH.nil
  case done =>
    rintro D Wd hD ⟨h_F, h_S, h_Q, h_E, h_B, hacc, hbw, hsz⟩ hK
    clear X_F X_S X_Q X_E X_B BW
    have X_F := h_F
    clear h_F
    have X_S := h_S
    clear h_S
    have X_Q := h_Q
    clear h_Q
    have X_E := h_E
    clear h_E
    have X_B := h_B
    clear h_B
    have BW := hid hbw
    clear hbw
    obtain ⟨yv, X_O, hO9⟩ := hacc
    have hyl := hO9
    rw [bnds_len, HCC.out, List.take_of_length_le (by rw [List.length_map, HCL.out]; exact Nat.le_refl _)] at hyl
    obtain ⟨ay, cy, rfl, _, _, _⟩ := owns_form hyl
    clear hO9
    have z_O := X_O.lt
    have c_O0 := X_O.cell (i := 0) rfl
    have z_Q := X_Q.lt
    have c_Q0 := X_Q.cell (i := 0) rfl
    have f_Q0 := X_Q.frozen 0
    have z_E := X_E.lt
    have c_E0 := X_E.cell (i := 0) rfl
    have f_E0 := X_E.frozen 0
    go_wp2
    clear z_O c_O0 z_Q c_Q0 f_Q0 z_E c_E0 f_E0
    have Q_Q := X_Q
    have Q_E := X_E
    replace Q_Q := Q_Q.set 0 (.slice ay c cy)
    replace Q_E := Q_E.only ((Only.refl (fun q => q = bF + 1 + 1) Wd).setCell (p := ⟨bF + 1 + 1, 0, none⟩) (.inl rfl) (.slice ay c cy)) (show ¬ (bF + 1 + 1 + 1 = bF + 1 + 1) by omega)
    replace Q_Q := Q_Q.only ((Only.refl (fun q => q = bF + 1 + 1 + 1) (Wd.setCell ⟨bF + 1 + 1, 0, none⟩ (.slice ay c cy))).setCell (p := ⟨bF + 1 + 1 + 1, 0, none⟩) (.inl rfl) (.int .i64 0)) (show ¬ (bF + 1 + 1 = bF + 1 + 1 + 1) by omega)
    replace Q_E := Q_E.set 0 (.int .i64 0)
    have OF := (((Only.refl (fun q => q = bF + 1 + 1 ∨ q = bF + 1 + 1 + 1) Wd).setCell (p := ⟨bF + 1 + 1, 0, none⟩) (.inl (.inl rfl)) (.slice ay c cy)).setCell (p := ⟨bF + 1 + 1 + 1, 0, none⟩) (.inl (.inr rfl)) (.int .i64 0))
    have hK9 := OF.block D _ hK (.inr rfl)
    refine ⟨by simp, .inl ⟨_, _, rfl, run_takeDeferred hK9, ?_⟩⟩
    have hg9 := (Grow.refl v2.heap.size _).putObj (.deferred none) hD hK9 rfl
    have cQ_Q := (Q_Q.grow hg9).cell (i := 0) rfl
    have cQ_E := (Q_E.grow hg9).cell (i := 0) rfl
    have BWf := Below.behind (BW.out.trans (OF.below (n := w.heap.size) (fun q h => by omega) BW.out.size)) (Nat.le_refl _) hg9 zBW9
    refine ⟨.tuple #[.slice ay c cy, .int .i64 0], by simp only [results, Tryd.results85]; go_simp, ?_⟩
    exact ⟨_, rfl, by rw [List.length_map, HCL.out]; exact owns_mono (owns_grow (owns_only hyl OF (fun j hj h => by have := (hyl.lt j hj).1; omega)) hg9) zBW9, BWf⟩
  case stop => exact fun _ _ _ _ _ _ h _ => h.elim
end Go.Proofs.YtogenbggjodcnaaDoor
