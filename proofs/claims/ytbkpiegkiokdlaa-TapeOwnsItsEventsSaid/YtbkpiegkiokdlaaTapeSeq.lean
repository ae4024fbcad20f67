/-
  AppendSeq, Collect, Since, Events.
-/
import Derived.Test.YtbkpiegkiokdlaaTapeCount
import Derived.RangeFuncBox
import Derived.Maps.AppendAt
namespace Go.Proofs.Ytbkpiegkiokdlaa
open Go.RowKit Go.Shelf

attribute [local go_sem] Oper.semAt_some

def evs (l : List Ev) : List Value := l.flatMap Ev.cells
theorem evs_snoc (l : List Ev) (e : Ev) : evs (l ++ [e]) = evs l ++ e.cells := by simp [evs]
theorem evs_len (l : List Ev) : (evs l).length = l.length * 3 := by
  induction l with
  | nil => rfl
  | cons x l ih => simp only [evs, List.flatMap_cons, List.length_append] at *; rw [ih]; simp only [Ev.cells, List.length_cons, List.length_nil]; omega
theorem evs_get (l : List Ev) : ∀ i e, l[i]? = some e → (evs l)[i * 3]? = some (.int .i64 e.k) ∧ (evs l)[i * 3 + 1]? = some (.int .i64 e.a) ∧ (evs l)[i * 3 + 2]? = some (.int .i64 e.b) := by
  induction l with
  | nil => intro i e h; cases h
  | cons x l ih =>
    intro i e h
    cases i with
    | zero => simp at h; subst h; simp [evs, Ev.cells]
    | succ i =>
      have := ih i e (by simpa using h)
      have e3 : ∀ j, (evs (x :: l))[(i + 1) * 3 + j]? = (evs l)[i * 3 + j]? := fun j => by
        rw [show (i + 1) * 3 + j = 3 + (i * 3 + j) by omega]
        simp only [evs, List.flatMap_cons]
        rw [List.getElem?_append_right (by simp [Ev.cells])]
        simp [Ev.cells]
      rw [show (i + 1) * 3 = (i + 1) * 3 + 0 by omega, e3, show (i + 1) * 3 + 0 + 1 = (i + 1) * 3 + 1 by omega, e3, show (i + 1) * 3 + 0 + 2 = (i + 1) * 3 + 2 by omega, e3]
      exact this
theorem info_ev : (Try.prog.info? 41).map (fun i => (i.zero, i.size, i.bytes)) = some (some (.agg #[.int .i64 0, .int .i64 0, .int .i64 0]), 3, 24) := by kernel_rfl
/-- A slice of one's own is a slice of events. -/
theorem owns_evsl {w : World} {base : Nat} {v : Value} {l : List Ev} (h : w.ownsRow base 41 3 v l.length (evs l)) : EvSl w v l := by
  have h0 := h
  obtain ⟨_, ⟨rfl, hn⟩ | ⟨g, cap, cur, rfl, _, _, hcp, _⟩⟩ := h
  · exact ⟨none, 0, by rw [hn], by omega, .inl (List.eq_nil_of_length_eq_zero hn)⟩
  · refine ⟨_, cap, rfl, hcp, .inr ⟨g, 0, rfl, fun i e hi => ?_⟩⟩
    obtain ⟨a0, a1, a2⟩ := evs_get l i e hi
    have hc := h0.cells (g := g) rfl
    have hadd : ∀ j, (⟨g, 0, none⟩ : Addr).add j = ⟨g, 0 + j, none⟩ := fun j => by rw [Nat.zero_add]; unfold Addr.add; split <;> simp_all
    exact ⟨hadd (i * 3) ▸ hc _ _ a0, by rw [Nat.add_assoc]; exact hadd (i * 3 + 1) ▸ hc _ _ a1, by rw [Nat.add_assoc]; exact hadd (i * 3 + 2) ▸ hc _ _ a2⟩
theorem Only.of_below {n : Nat} {A B : World} (hb : Below n A B) (hk : KeepsOthers A B) : Only (fun k => n ≤ k) A B :=
  ⟨hb.os, hb.tape, hb.output, hk.size, fun k o h hc => by
    rcases hc with hc | hc
    · exact (hb.block k (by omega)).trans h
    · exact hk.same k o h hc⟩
set_option maxRecDepth 100000 in
set_option maxHeartbeats 2000000 in
theorem appendSeq_any (gf : Nat) (lb : Array Value) (l : List Ev) (Kp : World → World → Prop) (X : World → Prop) (w : World) (hl : l.length < 1000000000)
    (eg : ∀ args w, (callFunc gf args).run Try.prog w = .ok (.enter gf args) w) (hX1 : ∀ B, Soft B X) (hX2 : ∀ A A', X A → Only (fun k => w.heap.size ≤ k) A A' → X A')
    (hKt : ∀ {A B C : World}, Kp A B → Kp B C → Kp A C) (hKb : ∀ n (A B : World), Grow n A B → Kp A B) (hKx : ∀ A B, X B → Kp A B) (hseq : ∀ W, X W → SeqAt Try.prog gf lb (fun e : Ev => #[e.val]) Kp l W) (hx : X w) :
    Calls Try.prog 31 #[.slice none 0 0, .func (.func gf) #[] lb] w (fun e w' => RetOwn 41 3 l.length (evs l) w e w' ∧ X w') := by
  obtain ⟨i0, hi, hz0, hz1, hz2⟩ := info_parts info_ev
  refine (callsIn_wide (n := 9)).1 ?_
  refine callsIn_of_wp_marks Try.func31 rfl trivial ?_ rfl
  simp only [Try.ntmps31, List.size_toArray, List.length_cons, List.length_nil, Nat.reduceAdd, Nat.reduceSub, Array.replicate_succ, Array.replicate_zero, List.push_toArray, List.append_toArray, List.nil_append, List.cons_append]
  gi_wp2
  have b0 : Boxed (w.alloc (.cells #[.slice none 0 0] 22)) w.heap.size 22 (.slice none 0 0) := Boxed.new w _ _
  have hx1 : X (w.alloc (.cells #[.slice none 0 0] 22)) := hX1 0 _ _ hx ((Grow.refl 0 w).alloc _)
  have hB1 : Below w.heap.size w (w.alloc (.cells #[.slice none 0 0] 22)) := by go_grown
  generalize w.alloc (.cells #[.slice none 0 0] 22) = w1 at *
  have z1 := hB1.size
  refine wpIn_each (gf := gf) (lb := lb) rfl eg (fun W hg => hseq W (hX1 _ _ _ hx1 hg)) hKt (hKb _) (fun _ => rfl)
    (fun pre W => (∃ v, Boxed W w.heap.size 22 v ∧ W.ownsRow w.heap.size 41 3 v pre.length (evs pre)) ∧ X W ∧ Below w.heap.size w W)
    (fun _ _ _ => False)
    (fun pre A B h g => ⟨by obtain ⟨⟨v, h1, h2⟩, _⟩ := h; exact ⟨v, Blk.grow (xs := [v]) h1 g, owns_grow h2 g⟩, hX1 _ _ _ h.2.1 g, Below.behind h.2.2 (Nat.le_refl _) g z1⟩)
    (fun _ _ _ _ h _ => h) ⟨⟨_, b0, World.ownsRow_nil _ _ _ _⟩, hx1, hB1⟩ ?round ?done ?stop
  case round =>
    rintro m L pre x W ⟨⟨v, h0, h1⟩, h2, h3⟩ hpre hL
    have zW := h3.size
    have hpl : pre.length < l.length := by have := hpre.length_le; simp at this; omega
    have HX2 := hid hX2
    have HX1 := hid hX1
    have HKx := hid hKx
    clear b0 hx1 hB1 hx hX2 hX1 hKx hKt hKb hseq eg
    gi_wp2
    refine ⟨(Only.refl _ W).alloc _, fun W2 hg => ?_⟩
    have d0 : Boxed W2 w.heap.size 22 v := Blk.grow (xs := [v]) (Blk.alloc (xs := [v]) h0 _) hg
    have d1 := owns_grow (h1.alloc (.cells #[.int .i64 x.k, .int .i64 x.a, .int .i64 x.b] 41)) hg
    have d2 : X W2 := HX1.out _ _ _ h2 (((Grow.refl w.heap.size W).alloc (.cells #[.int .i64 x.k, .int .i64 x.a, .int .i64 x.b] 41)).trans (hg.mono z1))
    have d4 : Below w.heap.size w W2 := Below.behind (h3.alloc zW _) (Nat.le_refl _) hg z1
    have d5 : Blk W2 W.heap.size 41 x.cells := (Blk.new rfl).grow hg
    have zW2 := d4.size
    have c0 := d0.cell
    have c2 := d5.cell (i := 0) rfl
    have c3 := d5.cell (i := 1) rfl
    have c4 := d5.cell (i := 2) rfl
    have HD2 := hid d2
    have HD4 := hid d4
    have HES := hid (evs_snoc pre x)
    clear d2 d4 hg h0 h1 h2 h3 hpre
    gi_wp2_with (gi_at_builtin; refine wpListIn_append_own _ rfl _ _ 22 rfl w.heap.size 41 i0 (.agg #[.int .i64 0, .int .i64 0, .int .i64 0]) 3 24 Try.underlying22 hi hz0 hz1 hz2 rfl (by decide) v pre.length (evs pre) rfl (d1.alloc _) ⟨W2.heap.size, 0, none⟩ 1 1 x.cells rfl rfl (Blk.news (Blk.new (by simp))) (by simp [Value.oneCell', Ev.cells]) (by unfold maxLen; omega) (by omega) (by simp; omega) ?_; intro v' w2 hown' hgrow _; obtain ⟨g', cap', rfl⟩ := ownsRow_succ hown'; obtain ⟨hv1, hv2, hr2, hk2, hb2⟩ := d0.appended (by decide) d1 zW2 (Nat.le_refl _) hown' hgrow; have hc1 := hv1.cell; have hf1 := hv1.frozen)
    have hO := Only.of_below hb2 hk2
    have hXn := HX2.out _ _ HD2.out hO
    exact ⟨hO.mono (fun _ _ => trivial), HKx.out _ _ hXn, ⟨_, hv2, by rw [List.length_append, HES.out]; exact hr2⟩, hXn, HD4.out.trans hb2⟩
  case done =>
    rintro D W hD ⟨⟨v, h0, h1⟩, h2, h3⟩ hK
    have c1 := h0.cell
    gi_wp2
    refine ⟨by simp, .inl ⟨_, _, rfl, run_takeDeferred hK, ?_⟩⟩
    have hg := (Grow.refl w1.heap.size W).putObj (.deferred none) hD hK rfl
    exact ⟨_, results_tmp rfl _ _ _, ⟨_, rfl, owns_grow h1 hg, Below.behind h3 (Nat.le_refl _) hg z1⟩, hX1 _ _ _ h2 hg⟩
  case stop => exact fun _ _ _ _ _ _ h _ => h.elim
theorem collect_any (gf : Nat) (lb : Array Value) (l : List Ev) (Kp : World → World → Prop) (X : World → Prop) (w : World) (hl : l.length < 1000000000)
    (eg : ∀ args w, (callFunc gf args).run Try.prog w = .ok (.enter gf args) w) (hX1 : ∀ B, Soft B X) (hX2 : ∀ A A', X A → Only (fun k => w.heap.size ≤ k) A A' → X A')
    (hKt : ∀ {A B C : World}, Kp A B → Kp B C → Kp A C) (hKb : ∀ n (A B : World), Grow n A B → Kp A B) (hKx : ∀ A B, X B → Kp A B) (hseq : ∀ W, X W → SeqAt Try.prog gf lb (fun e : Ev => #[e.val]) Kp l W) (hx : X w) :
    Calls Try.prog 28 #[.func (.func gf) #[] lb] w (fun e w' => RetOwn 41 3 l.length (evs l) w e w' ∧ X w') := by
  have H := hid (appendSeq_any gf lb l Kp X w hl eg hX1 hX2 hKt hKb hKx hseq hx)
  clear eg hX1 hX2 hKt hKb hKx hseq hx
  go_enter Try.func28, Try.ntmps28
  go_wp2_with (go_at_call 31; refine H.out.mono ?_; rintro e w1 ⟨⟨v, rfl, h1, h2⟩, h3⟩; have H1 := hid h1; have H2 := hid h2; have H3 := hid h3; clear h1 h2 h3)
  go_ret
  exact ⟨⟨_, rfl, H1.out, H2.out⟩, H3.out⟩
set_option maxHeartbeats 1000000 in
theorem since_at (p : Nat) (fs : List Nat) (l : List Ev) (n : Int) (w : World) (hT : Tape w p fs l) (hl : l.length < 1000000000) :
    Calls Try.prog 15 #[ptr p, .int .i64 n] w (RetOwn 41 3 (l.drop n.toNat).length (evs (l.drop n.toNat)) w) := by
  have HT := hid (((hT.alloc (.cells #[ptr p] 25)).alloc (.cells #[.int .i64 n] 3)))
  have HL := hid (hT.lt)
  clear hT
  go_enter Try.func15, Try.ntmps15
  go_wp2_with (first | (go_at_call 27; refine (from_any _ _ _).mono ?_; rintro e w1 ⟨rfl, rfl⟩) | (go_at_call 28; refine (collect_any 30 _ (l.drop n.toNat) (fun A B => PreS w.heap.size p l A → PreS w.heap.size p l B) (fun W => Blk W (w.heap.size + 1) 3 [.int .i64 n] ∧ Blk W w.heap.size 25 [ptr p] ∧ Tape W p fs l) _ (Nat.lt_of_le_of_lt (by simp) hl) (enters_of Try.func30 (by kernel_rfl) rfl) (fun B W W' h g => ⟨h.1.grow g, h.2.1.grow g, h.2.2.grow g⟩) (fun A A' h g => ⟨h.1.only g (by simp <;> omega), h.2.1.only g (by simp <;> omega), h.2.2.only g (fun k hk e => by have := HL.out k hk; simp at e; omega)⟩) (fun h k x => k (h x)) (fun _ A B hg hs => hs.grow hg) (fun A B h _ => ⟨h.2.1, fs, l, h.2.2, List.prefix_refl _⟩) (fun W h => from1_seq p _ _ n fs l W h.1 h.2.1 h.2.2 hl) ⟨Blk.new (by simp), Blk.alloc (Blk.new rfl) _, HT.out⟩).mono ?_; rintro e w2 ⟨⟨v, rfl, h1, h2⟩, h3⟩; have H1 := hid h1; have H2 := hid h2; clear h1 h2 h3))
  go_ret
  exact ⟨_, rfl, owns_mono H1.out (by simp; omega), (((Below.refl _ w).alloc (Nat.le_refl _) _).alloc (by simp) _).trans (H2.out.mono (by simp; omega))⟩
set_option maxHeartbeats 1000000 in
theorem since_nil (n : Int) (w : World) :
    Calls Try.prog 15 #[.pointer none, .int .i64 n] w (RetOwn 41 3 0 [] w) := by
  go_enter Try.func15, Try.ntmps15
  go_wp2_with (first | (go_at_call 27; refine (from_any _ _ _).mono ?_; rintro e w1 ⟨rfl, rfl⟩) | (go_at_call 28; refine (collect_any 30 _ [] (fun _ _ => True) (fun W => Blk W (w.heap.size + 1) 3 [.int .i64 n] ∧ Blk W w.heap.size 25 [.pointer none]) _ (by simp) (enters_of Try.func30 (by kernel_rfl) rfl) (fun B W W' h g => ⟨h.1.grow g, h.2.grow g⟩) (fun A A' h g => ⟨h.1.only g (by simp <;> omega), h.2.only g (by simp <;> omega)⟩) (fun _ _ => trivial) (fun _ _ _ _ => trivial) (fun _ _ _ => trivial) (fun W h => from1_nil _ _ n W _ h.1 h.2) ⟨Blk.new (by simp), Blk.alloc (Blk.new rfl) _⟩).mono ?_; rintro e w2 ⟨⟨v, rfl, h1, h2⟩, h3⟩; have H1 := hid h1; have H2 := hid h2; clear h1 h2 h3))
  go_ret
  exact ⟨_, rfl, owns_mono H1.out (by simp; omega), (((Below.refl _ w).alloc (Nat.le_refl _) _).alloc (by simp) _).trans (H2.out.mono (by simp; omega))⟩
theorem events_at (p : Nat) (fs : List Nat) (l : List Ev) (w : World) (hT : Tape w p fs l) (hl : l.length < 1000000000) :
    Calls Try.prog 23 #[ptr p] w (RetOwn 41 3 l.length (evs l) w) := by
  have HT := hid hT
  clear hT
  go_enter Try.func23, Try.ntmps23
  go_wp2_with (go_at_call 15; refine (since_at p fs l 0 _ HT.out hl).mono ?_; rintro e w2 ⟨v, rfl, h1, h2⟩; have H1 := hid h1; have H2 := hid h2; clear h1 h2)
  go_ret
  exact ⟨_, rfl, H1.out, H2.out⟩
theorem events_nil (w : World) :
    Calls Try.prog 23 #[.pointer none] w (RetOwn 41 3 0 [] w) := by
  go_enter Try.func23, Try.ntmps23
  go_wp2_with (go_at_call 15; refine (since_nil 0 _).mono ?_; rintro e w2 ⟨v, rfl, h1, h2⟩; have H1 := hid h1; have H2 := hid h2; clear h1 h2)
  go_ret
  exact ⟨_, rfl, H1.out, H2.out⟩
end Go.Proofs.Ytbkpiegkiokdlaa
