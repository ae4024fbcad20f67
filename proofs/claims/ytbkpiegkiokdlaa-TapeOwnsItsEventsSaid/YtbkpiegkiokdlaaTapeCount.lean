/-
  Count.
-/
import Derived.Test.YtbkpiegkiokdlaaTapeFrom
import Derived.Test.YtbkpiegkiokdlaaEvList
namespace Go.Proofs.Ytbkpiegkiokdlaa
open Go.RowKit Go.Shelf

attribute [local go_sem] Oper.semAt_some

theorem from1_all (p bf bt : Nat) (fs : List Nat) (l : List Ev) (W : World) (hbf : Blk W bf 3 [.int .i64 0]) (hbt : Blk W bt 25 [ptr p]) (hT : Tape W p fs l) (hl : l.length < 1000000000) :
    SeqAt Try.prog 30 #[ptr bf, ptr bt] (fun e : Ev => #[e.val]) (fun A B => PreS bt p l A → PreS bt p l B) l W :=
  from1_seq p bf bt 0 fs l W hbf hbt hT hl
set_option maxRecDepth 100000 in
set_option maxHeartbeats 1000000 in
theorem from1_nil (bf bt : Nat) (first : Int) (W : World) (Kp : World → World → Prop) (hbf : Blk W bf 3 [.int .i64 first]) (hbt : Blk W bt 25 [.pointer none]) :
    SeqAt Try.prog 30 #[ptr bf, ptr bt] (fun e : Ev => #[e.val]) Kp [] W := by
  intro L J Jx hJ hJx hY h0
  have c0 := hbf.cell (i := 0) rfl
  have c1 := hbt.cell (i := 0) rfl
  have HJ0 := hid (hJ [] W _ h0 (Grow.refl _ W).drew)
  clear hbf hbt h0 hY hJ hJx
  refine (callsIn_wide (n := 5)).1 ?_
  refine callsIn_of_wp Try.func30 rfl trivial ?_ rfl
  simp only [Try.ntmps30, List.size_toArray, List.length_cons, List.length_nil, Nat.reduceAdd, Nat.reduceSub, Array.replicate_succ, Array.replicate_zero, List.push_toArray, List.append_toArray, List.nil_append, List.cons_append]
  obtain ⟨m, hm0⟩ : ∃ m, first.toNat = m := ⟨_, rfl⟩
  have hm : (if first < 0 then (0 : Int) else first) = (m : Int) := by subst hm0; split <;> omega
  clear hm0
  have hmix : Try.prog.follows .mixedOrders = true := by kernel_rfl
  gi_wp2
  gi_region_with_o ((refine ⟨trivial, ?_⟩; gi_at_call 22; refine (callsIn_wide.2 (len_nil _)).mono ?_; rintro e w' ⟨rfl, rfl⟩))
  all_goals clear hm
  all_goals gi_wp2
  all_goals (simp only [List.getElem_toArray, List.getElem_cons_succ, List.getElem_cons_zero, Act.put, List.setIfInBounds_toArray, List.set_cons_zero, List.set_cons_succ])
  all_goals
    generalize W.drew = W1 at *
    clear c0 c1
    have hd : decide ((m : Int) < 0) = false := by simp
    gi_loopw [4] (fun i wr => i = .int .i64 (m : Int) ∧ J [] wr) (fun _ _ => 0)
    case atStart => exact ⟨rfl, HJ0.out⟩
    case round =>
      obtain ⟨rfl, hJs⟩ := hrel
      have HJs := hid hJs
      clear hJs
      gi_wp2
      refine ⟨fun _ h => (by cases h), ?_⟩
      gi_wp2
      go_end0
      exact ⟨⟨_, rfl⟩, .inl HJs.out⟩

set_option maxRecDepth 100000 in
set_option maxHeartbeats 2000000 in
theorem count_at (p : Nat) (fs : List Nat) (l : List Ev) (kind : Int) (w : World) (hT : Tape w p fs l) (hl : l.length < 1000000000) :
    Calls Try.prog 12 #[ptr p, .int .i64 kind] w (Ret (.int .i64 (cnt kind l : Int)) w) := by
  refine (callsIn_wide (n := 9)).1 ?_
  refine callsIn_of_wp_marks Try.func12 rfl trivial ?_ rfl
  simp only [Try.ntmps12, List.size_toArray, List.length_cons, List.length_nil, Nat.reduceAdd, Nat.reduceSub, Array.replicate_succ, Array.replicate_zero, List.push_toArray, List.append_toArray, List.nil_append, List.cons_append]
  gi_wp2_with (refine ⟨trivial, ?_⟩; gi_at_call 27; refine (callsIn_wide.2 (from_any _ _ _)).mono ?_; rintro e w' ⟨rfl, rfl⟩)
  have b0 : Blk ((((w.alloc (.cells #[.int .i64 kind] 3)).alloc (.cells #[.int .i64 0] 3)).alloc (.cells #[ptr p] 25)).alloc (.cells #[.int .i64 0] 3)) w.heap.size 3 [.int .i64 kind] := Blk.alloc (Blk.alloc (Blk.alloc (Blk.new rfl) _) _) _
  have b1 : Blk ((((w.alloc (.cells #[.int .i64 kind] 3)).alloc (.cells #[.int .i64 0] 3)).alloc (.cells #[ptr p] 25)).alloc (.cells #[.int .i64 0] 3)) (w.heap.size + 1) 3 [.int .i64 (cnt kind [] : Int)] := Blk.alloc (Blk.alloc (Blk.new (by simp)) _) _
  have b2 : Blk ((((w.alloc (.cells #[.int .i64 kind] 3)).alloc (.cells #[.int .i64 0] 3)).alloc (.cells #[ptr p] 25)).alloc (.cells #[.int .i64 0] 3)) (w.heap.size + 1 + 1) 25 [ptr p] := Blk.alloc (Blk.new (by simp)) _
  have b3 : Blk ((((w.alloc (.cells #[.int .i64 kind] 3)).alloc (.cells #[.int .i64 0] 3)).alloc (.cells #[ptr p] 25)).alloc (.cells #[.int .i64 0] 3)) (w.heap.size + 1 + 1 + 1) 3 [.int .i64 0] := Blk.new (by simp)
  have hT4 : Tape ((((w.alloc (.cells #[.int .i64 kind] 3)).alloc (.cells #[.int .i64 0] 3)).alloc (.cells #[ptr p] 25)).alloc (.cells #[.int .i64 0] 3)) p fs l := (((hT.alloc _).alloc _).alloc _).alloc _
  have hB4 : Below w.heap.size w ((((w.alloc (.cells #[.int .i64 kind] 3)).alloc (.cells #[.int .i64 0] 3)).alloc (.cells #[ptr p] 25)).alloc (.cells #[.int .i64 0] 3)) := by go_grown
  generalize ((((w.alloc (.cells #[.int .i64 kind] 3)).alloc (.cells #[.int .i64 0] 3)).alloc (.cells #[ptr p] 25)).alloc (.cells #[.int .i64 0] 3)) = w4 at *
  have z4 := hB4.size
  have zl := hT.lt
  refine wpIn_each (gf := 30) (lb := #[ptr (w.heap.size + 1 + 1 + 1), ptr (w.heap.size + 1 + 1)]) rfl (enters_of Try.func30 (by kernel_rfl) rfl)
    (fun W hg => from1_all p _ _ fs l W (b3.grow hg) (b2.grow hg) (hT4.grow hg) hl) (fun h k x => k (h x)) (fun A B hg hs => hs.grow hg) (fun _ => rfl)
    (fun pre W => Blk W w.heap.size 3 [.int .i64 kind] ∧ Blk W (w.heap.size + 1) 3 [.int .i64 (cnt kind pre : Int)] ∧ Blk W (w.heap.size + 1 + 1) 25 [ptr p] ∧ Tape W p fs l ∧ Below w.heap.size w W)
    (fun _ _ _ => False)
    (fun pre A B h g => ⟨h.1.grow g, h.2.1.grow g, h.2.2.1.grow g, h.2.2.2.1.grow g, Below.behind h.2.2.2.2 (Nat.le_refl _) g z4⟩)
    (fun _ _ _ _ h _ => h) ⟨b0, b1, b2, hT4, hB4⟩ ?round ?done ?stop
  case round =>
    rintro m L pre x W ⟨h0, h1, h2, h3, h4⟩ hpre hL
    have zW := h4.size
    have hcl := cnt_le kind pre
    have hpl : pre.length < l.length := by have := hpre.length_le; simp at this; omega
    clear b0 b1 b2 b3 hT hT4 hB4
    gi_wp2
    refine ⟨(Only.refl _ W).alloc _, fun W2 hg => ?_⟩
    have d0 := (h0.alloc (.cells #[.int .i64 x.k, .int .i64 x.a, .int .i64 x.b] 41)).grow hg
    have d1 := (h1.alloc (.cells #[.int .i64 x.k, .int .i64 x.a, .int .i64 x.b] 41)).grow hg
    have d2 := (h2.alloc (.cells #[.int .i64 x.k, .int .i64 x.a, .int .i64 x.b] 41)).grow hg
    have d3 := Tape.grow (h3.alloc (.cells #[.int .i64 x.k, .int .i64 x.a, .int .i64 x.b] 41)) hg
    have d4 : Below w.heap.size w W2 := Below.behind (h4.alloc zW _) (Nat.le_refl _) hg z4
    have d5 : Blk W2 W.heap.size 41 x.cells := (Blk.new rfl).grow hg
    have c0 := d0.cell (i := 0) rfl
    have c1 := d1.cell (i := 0) rfl
    have f1 := d1.frozen 0
    have c2 := d5.cell (i := 0) rfl
    have D3 := hid d3
    have HS := hid (cnt_snoc kind pre x)
    clear d3 hg h0 h1 h2 h3 h4 hpre
    by_cases hk : (x.k == kind) = true
    · gi_wp2
      exact ⟨(Only.refl _ W2).setCell (.inl trivial) _, fun _ => ⟨d2.other _ _ (by dsimp only; omega), fs, l, D3.out.only ((Only.refl (fun k => k = w.heap.size + 1) W2).setCell (.inl rfl) _) (fun k hk e => by have := zl k hk; omega), List.prefix_refl _⟩,
        d0.other _ _ (by dsimp only; omega), by rw [HS.out, if_pos hk]; exact d1.set 0 _, d2.other _ _ (by dsimp only; omega), D3.out.only ((Only.refl (fun k => k = w.heap.size + 1) W2).setCell (.inl rfl) _) (fun k hk e => by have := zl k hk; omega), d4.setCell (by dsimp only; omega) _⟩
    · have hk2 : (x.k == kind) = false := by simpa using hk
      clear hk
      gi_wp2
      exact ⟨Only.refl _ W2, fun _ => ⟨d2, fs, l, D3.out, List.prefix_refl _⟩, d0, by rw [HS.out, hk2]; exact d1, d2, D3.out, d4⟩
  case done =>
    rintro D W hD ⟨h0, h1, h2, h3, h4⟩ hK
    have c1 := h1.cell (i := 0) rfl
    gi_wp2
    refine ⟨by simp, .inl ⟨_, _, rfl, run_takeDeferred hK, ?_⟩⟩
    exact ⟨_, results_tmp rfl _ _ _, rfl, Below.behind h4 (Nat.le_refl _) ((Grow.refl _ W).putObj _ hD hK rfl) z4⟩
  case stop => exact fun _ _ _ _ _ _ h _ => h.elim
end Go.Proofs.Ytbkpiegkiokdlaa
