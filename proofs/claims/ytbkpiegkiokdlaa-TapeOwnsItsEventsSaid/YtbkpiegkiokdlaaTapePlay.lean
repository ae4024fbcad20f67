/-
  Play.
-/
import Derived.Test.YtbkpiegkiokdlaaTapeCount
namespace Go.Proofs.Ytbkpiegkiokdlaa
open Go.RowKit Go.Shelf

attribute [local go_sem] Oper.semAt_some

set_option maxRecDepth 100000 in
set_option maxHeartbeats 4000000 in
theorem play_at (pt : Nat) (ft : List Nat) (lt : List Ev) (pu : Nat) (fu : List Nat) (lu : List Ev) (w : World) (hT : Tape w pt ft lt) (hU : (pu = pt ∧ lu = lt) ∨ (Tape w pu fu lu ∧ ∀ k ∈ ft, k ∉ fu)) (hl : lt.length + lu.length < 1000000000) :
    Calls Try.prog 21 #[ptr pt, ptr pu] w fun e w' => e = .returned (.int .i64 (lu.length : Int)) ∧ ∃ ft', Tape w' pt ft' (lt ++ lu) ∧ Only (fun k => k ∈ ft) w w' ∧ ∀ k ∈ ft', k ∈ ft ∨ w.heap.size ≤ k := by
  refine (callsIn_wide (n := 9)).1 ?_
  refine callsIn_of_wp_marks Try.func21 rfl trivial ?_ rfl
  simp only [Try.ntmps21, List.size_toArray, List.length_cons, List.length_nil, Nat.reduceAdd, Nat.reduceSub, Array.replicate_succ, Array.replicate_zero, List.push_toArray, List.append_toArray, List.nil_append, List.cons_append]
  have HT0 := hid hT
  have HU0 := hid hU
  clear hT hU
  gi_wp2_with (refine ⟨trivial, ?_⟩; gi_at_call 27; refine (callsIn_wide.2 (from_any _ _ _)).mono ?_; rintro e w' ⟨rfl, rfl⟩)
  have b0 : Blk ((((w.alloc (.cells #[ptr pt] 25)).alloc (.cells #[.int .i64 0] 3)).alloc (.cells #[ptr pu] 25)).alloc (.cells #[.int .i64 0] 3)) w.heap.size 25 [ptr pt] := Blk.alloc (Blk.alloc (Blk.alloc (Blk.new rfl) _) _) _
  have b1 : Blk ((((w.alloc (.cells #[ptr pt] 25)).alloc (.cells #[.int .i64 0] 3)).alloc (.cells #[ptr pu] 25)).alloc (.cells #[.int .i64 0] 3)) (w.heap.size + 1) 3 [.int .i64 ((([] : List Ev).length : Nat) : Int)] := Blk.alloc (Blk.alloc (Blk.new (by simp)) _) _
  have b2 : Blk ((((w.alloc (.cells #[ptr pt] 25)).alloc (.cells #[.int .i64 0] 3)).alloc (.cells #[ptr pu] 25)).alloc (.cells #[.int .i64 0] 3)) (w.heap.size + 1 + 1) 25 [ptr pu] := Blk.alloc (Blk.new (by simp)) _
  have b3 : Blk ((((w.alloc (.cells #[ptr pt] 25)).alloc (.cells #[.int .i64 0] 3)).alloc (.cells #[ptr pu] 25)).alloc (.cells #[.int .i64 0] 3)) (w.heap.size + 1 + 1 + 1) 3 [.int .i64 0] := Blk.new (by simp)
  have hG : Grow w.heap.size w ((((w.alloc (.cells #[ptr pt] 25)).alloc (.cells #[.int .i64 0] 3)).alloc (.cells #[ptr pu] 25)).alloc (.cells #[.int .i64 0] 3)) := ((((Grow.refl _ w).alloc _).alloc _).alloc _).alloc _
  have hz : ((((w.alloc (.cells #[ptr pt] 25)).alloc (.cells #[.int .i64 0] 3)).alloc (.cells #[ptr pu] 25)).alloc (.cells #[.int .i64 0] 3)).heap.size = w.heap.size + 4 := by simp
  generalize ((((w.alloc (.cells #[ptr pt] 25)).alloc (.cells #[.int .i64 0] 3)).alloc (.cells #[ptr pu] 25)).alloc (.cells #[.int .i64 0] 3)) = w4 at *
  have hT4 := HT0.out.grow hG
  have hO4 : Only (fun k => k ∈ ft) w w4 := Below.only (hG.below (Nat.le_refl _) (Nat.le_refl _)) _
  have hU4 : (pu = pt ∧ lu = lt) ∨ (Tape w4 pu fu lu ∧ ∀ k ∈ ft, k ∉ fu) := HU0.out.imp id (fun h => ⟨h.1.grow hG, h.2⟩)
  have zt := HT0.out.lt
  have zu : ∀ k ∈ fu, (pu = pt ∧ lu = lt) ∨ k < w.heap.size := fun k hk => HU0.out.imp id (fun h => h.1.lt k hk)
  have hseq : ∀ W, Grow w4.heap.size w4 W → SeqAt Try.prog 30 #[ptr (w.heap.size + 1 + 1 + 1), ptr (w.heap.size + 1 + 1)] (fun e : Ev => #[e.val]) (fun A B => PreS (w.heap.size + 1 + 1) pu lu A → PreS (w.heap.size + 1 + 1) pu lu B) lu W := by
    intro W hg
    rcases hU4 with ⟨h1, h2⟩ | ⟨h1, _⟩
    · exact from1_all pu _ _ ft lu W (b3.grow hg) (b2.grow hg) (by rw [h1, h2]; exact hT4.grow hg) (by omega)
    · exact from1_all pu _ _ fu lu W (b3.grow hg) (b2.grow hg) (h1.grow hg) (by omega)
  refine wpIn_each (gf := 30) (lb := #[ptr (w.heap.size + 1 + 1 + 1), ptr (w.heap.size + 1 + 1)]) rfl (enters_of Try.func30 (by kernel_rfl) rfl)
    hseq (fun h k x => k (h x)) (fun A B hg hs => hs.grow hg) (fun _ => rfl)
    (fun pre W => Blk W w.heap.size 25 [ptr pt] ∧ Blk W (w.heap.size + 1) 3 [.int .i64 (pre.length : Int)] ∧ Blk W (w.heap.size + 1 + 1) 25 [ptr pu] ∧ ∃ ft', Tape W pt ft' (lt ++ pre) ∧
      (∀ k ∈ ft', k ∈ ft ∨ w4.heap.size ≤ k) ∧ ((pu = pt ∧ lu = lt) ∨ (Tape W pu fu lu ∧ ∀ k ∈ ft', k ∉ fu)) ∧ Only (fun k => k ∈ ft) w W ∧ w4.heap.size ≤ W.heap.size)
    (fun _ _ _ => False)
    (fun pre A B h g => by
      obtain ⟨h0, h1, h2, ft', h3, h4, h5, h6, h7⟩ := h
      refine ⟨h0.grow g, h1.grow g, h2.grow g, ft', h3.grow g, h4, h5.imp id (fun h => ⟨h.1.grow g, h.2⟩), ⟨g.os.trans h6.os, g.tape.trans h6.tape, g.output.trans h6.output, Nat.le_trans h6.size g.size, fun k o hk hc => ?_⟩, Nat.le_trans h7 g.size⟩
      exact g.block k o (h6.block k o hk hc) (.inl (by have := heap_lt hk; omega)))
    (fun _ _ _ _ h _ => h) ⟨b0, b1, b2, ft, by rw [List.append_nil]; exact hT4, fun k hk => .inl hk, hU4, hO4, Nat.le_refl _⟩ ?round ?done ?stop
  case round =>
    rintro m L pre x W ⟨h0, h1, h2, ft', h3, h4, h5, h6, h7⟩ hpre hL
    have zW := h6.size
    have hpl : pre.length < lu.length := by have := hpre.length_le; simp at this; omega
    have HSQ := hid hseq
    have HZT := hid zt
    have HZU := hid zu
    have HU4 := hid hU4
    clear b0 b1 b2 b3 hT4 hO4 hseq zt zu hU4 hG
    gi_wp2
    refine ⟨(Only.refl _ W).alloc _, fun W2 hg => ?_⟩
    have d0 := (h0.alloc (.cells #[.int .i64 x.k, .int .i64 x.a, .int .i64 x.b] 41)).grow hg
    have d1 := (h1.alloc (.cells #[.int .i64 x.k, .int .i64 x.a, .int .i64 x.b] 41)).grow hg
    have d2 := (h2.alloc (.cells #[.int .i64 x.k, .int .i64 x.a, .int .i64 x.b] 41)).grow hg
    have d3 := Tape.grow (h3.alloc (.cells #[.int .i64 x.k, .int .i64 x.a, .int .i64 x.b] 41)) hg
    have d5 : Blk W2 W.heap.size 41 x.cells := (Blk.new rfl).grow hg
    have d6 : (pu = pt ∧ lu = lt) ∨ (Tape W2 pu fu lu ∧ ∀ k ∈ ft', k ∉ fu) := h5.imp id (fun h => ⟨(h.1.alloc (.cells #[.int .i64 x.k, .int .i64 x.a, .int .i64 x.b] 41)).grow hg, h.2⟩)
    have d7 : Only (fun k => k ∈ ft) w W2 := by
      have h8 := h6.alloc (.cells #[.int .i64 x.k, .int .i64 x.a, .int .i64 x.b] 41)
      exact ⟨hg.os.trans h8.os, hg.tape.trans h8.tape, hg.output.trans h8.output, Nat.le_trans h8.size hg.size, fun k o hk hc => hg.block k o (h8.block k o hk hc) (.inl (by have := heap_lt hk; omega))⟩
    have c0 := d0.cell (i := 0) rfl
    have c1 := d1.cell (i := 0) rfl
    have f1 := d1.frozen 0
    have c2 := d5.cell (i := 0) rfl
    have c3 := d5.cell (i := 1) rfl
    have c4 := d5.cell (i := 2) rfl
    have D3 := hid d3
    have D6 := hid d6
    have D7 := hid d7
    have H4 := hid h4
    have hxs : w4.heap.size ≤ W2.heap.size := by have a1 := hg.size; simp at a1; omega
    have n0 : w.heap.size ∉ ft' := fun e => by
      rcases h4 _ e with e | e
      · have := HZT.out _ e; omega
      · omega
    have n1 : w.heap.size + 1 ∉ ft' := fun e => by
      rcases h4 _ e with e | e
      · have := HZT.out _ e; omega
      · omega
    have n2 : w.heap.size + 1 + 1 ∉ ft' := fun e => by
      rcases h4 _ e with e | e
      · have := HZT.out _ e; omega
      · omega
    clear d3 d6 d7 hg h0 h1 h2 h3 h4 h5 h6 h7 hpre
    gi_wp2_with (refine ⟨trivial, (fun h => by cases h), ?_⟩; refine (CallsIn.inRound L (callsIn_wide.2 (add_any pt ft' (lt ++ pre) x _ D3.out (by rw [List.length_append]; omega)))).mono ?_; rintro e w5 ⟨y, fs', rfl, k1, k2, k3⟩; have q1 := d1.only k2 n1; have e1 := q1.cell (i := 0) rfl; have g1 := q1.frozen 0; have K1 := hid k1; have K2 := hid k2; have K3 := hid k3; clear k1 k2 k3)
    have hz5 := K2.out.size
    have O5 : Only (fun k => k ∈ ft' ∨ k = w.heap.size + 1) W2 (w5.setCell ⟨w.heap.size + 1, 0, none⟩ (.int .i64 ((pre.length : Int) + 1))) := (K2.out.mono (fun _ h => .inl h)).setCell (.inl (.inr rfl)) _
    have T5 : Tape (w5.setCell ⟨w.heap.size + 1, 0, none⟩ (.int .i64 ((pre.length : Int) + 1))) pt fs' (lt ++ (pre ++ [x])) := by
      rw [← List.append_assoc]
      refine K1.out.only ((Only.refl (fun k => k = w.heap.size + 1) w5).setCell (.inl rfl) _) (fun k hk e => ?_)
      subst e
      rcases K3.out _ hk with h | h
      · exact n1 h
      · omega
    have U5 : (pu = pt ∧ lu = lt) ∨ (Tape (w5.setCell ⟨w.heap.size + 1, 0, none⟩ (.int .i64 ((pre.length : Int) + 1))) pu fu lu ∧ ∀ k ∈ fs', k ∉ fu) := by
      rcases D6.out with h | h
      · exact .inl h
      · have hfu : ∀ k ∈ fu, k < w.heap.size := by
          rcases HU0.out with h9 | h9
          · have h8 := h.1.mem
            rw [h9.1] at h8
            exact absurd h8 (h.2 _ D3.out.mem)
          · exact h9.1.lt
        refine .inr ⟨h.1.only O5 ?_, ?_⟩
        · intro k hk e
          rcases e with e | e
          · exact h.2 k e hk
          · have := hfu k hk; omega
        · intro k hk hu
          rcases K3.out k hk with h9 | h9
          · exact h.2 k h9 hu
          · have := h.1.lt k hu; omega
    refine ⟨O5.mono (fun _ _ => trivial), fun _ => ?_, ?_, ?_, ?_, fs', T5, ?_, U5, ?_, ?_⟩
    · rcases U5 with ⟨h1, h2⟩ | ⟨h1, h2⟩
      · exact ⟨(d2.only K2.out n2).other _ _ (by dsimp only; omega), fs', _, h1 ▸ T5, by rw [h2]; exact List.prefix_append _ _⟩
      · exact ⟨(d2.only K2.out n2).other _ _ (by dsimp only; omega), fu, lu, h1, List.prefix_refl _⟩
    · exact (d0.only K2.out n0).other _ _ (by dsimp only; omega)
    · have := (d1.only K2.out n1).set 0 (.int .i64 ((pre.length : Int) + 1))
      rw [List.length_append]; exact this
    · exact (d2.only K2.out n2).other _ _ (by dsimp only; omega)
    · intro k hk
      rcases K3.out k hk with h | h
      · exact H4.out k h
      · exact .inr (by omega)
    · refine D7.out.then' O5 (fun i hi => ?_)
      rcases hi with hi | hi
      · exact (H4.out i hi).imp id (fun h => by omega)
      · exact .inr (by omega)
    · exact Nat.le_trans hxs O5.size
  case done =>
    rintro D W hD ⟨h0, h1, h2, ft', h3, h4, h5, h6, h7⟩ hK
    have c1 := h1.cell (i := 0) rfl
    have H3 := hid h3
    have H4 := hid h4
    have H6 := hid h6
    clear h3 h4 h5 h6 hseq hU4 hT4 hO4
    gi_wp2
    refine ⟨by simp, .inl ⟨_, _, rfl, run_takeDeferred hK, ?_⟩⟩
    have hg := (Grow.refl w4.heap.size W).putObj (.deferred none) hD hK rfl
    refine ⟨_, results_tmp rfl _ _ _, rfl, ft', H3.out.grow hg, ?_, fun k hk => (H4.out k hk).imp id (fun h => by omega)⟩
    exact ⟨hg.os.trans H6.out.os, hg.tape.trans H6.out.tape, hg.output.trans H6.out.output, Nat.le_trans H6.out.size hg.size, fun k o hk hc => hg.block k o (H6.out.block k o hk hc) (.inl (by have := heap_lt hk; omega))⟩
  case stop => exact fun _ _ _ _ _ _ h _ => h.elim
end Go.Proofs.Ytbkpiegkiokdlaa
