/-
  Count, Play at a nil tape.
-/
import Derived.Test.YtbkpiegkiokdlaaTapeAlive
namespace Go.Proofs.Ytbkpiegkiokdlaa
open Go.RowKit Go.Shelf

attribute [local go_sem] Oper.semAt_some

theorem cpl_comm : ∀ l m : List Ev, cpl l m = cpl m l
  | [], [] => rfl
  | [], _ :: _ => rfl
  | _ :: _, [] => rfl
  | x :: l, y :: m => by
    simp only [cpl]
    by_cases h : x = y
    · rw [if_pos h, if_pos h.symm, cpl_comm l m]
    · rw [if_neg h, if_neg (Ne.symm h)]
theorem fst_comm (l m : List Ev) : fst l m = fst m l := by
  unfold fst
  by_cases h : l = m
  · rw [if_pos h, if_pos h.symm]
  · rw [if_neg h, if_neg (Ne.symm h), cpl_comm]
set_option maxRecDepth 100000 in
set_option maxHeartbeats 2000000 in
theorem count_nil (kind : Int) (w : World) :
    Calls Try.prog 12 #[.pointer none, .int .i64 kind] w (Ret (.int .i64 0) w) := by
  refine (callsIn_wide (n := 9)).1 ?_
  refine callsIn_of_wp_marks Try.func12 rfl trivial ?_ rfl
  simp only [Try.ntmps12, List.size_toArray, List.length_cons, List.length_nil, Nat.reduceAdd, Nat.reduceSub, Array.replicate_succ, Array.replicate_zero, List.push_toArray, List.append_toArray, List.nil_append, List.cons_append]
  gi_wp2_with (refine ⟨trivial, ?_⟩; gi_at_call 27; refine (callsIn_wide.2 (from_any _ _ _)).mono ?_; rintro e w' ⟨rfl, rfl⟩)
  have b1 : Blk ((((w.alloc (.cells #[.int .i64 kind] 3)).alloc (.cells #[.int .i64 0] 3)).alloc (.cells #[.pointer none] 25)).alloc (.cells #[.int .i64 0] 3)) (w.heap.size + 1) 3 [.int .i64 0] := Blk.alloc (Blk.alloc (Blk.new (by simp)) _) _
  have b2 : Blk ((((w.alloc (.cells #[.int .i64 kind] 3)).alloc (.cells #[.int .i64 0] 3)).alloc (.cells #[.pointer none] 25)).alloc (.cells #[.int .i64 0] 3)) (w.heap.size + 1 + 1) 25 [.pointer none] := Blk.alloc (Blk.new (by simp)) _
  have b3 : Blk ((((w.alloc (.cells #[.int .i64 kind] 3)).alloc (.cells #[.int .i64 0] 3)).alloc (.cells #[.pointer none] 25)).alloc (.cells #[.int .i64 0] 3)) (w.heap.size + 1 + 1 + 1) 3 [.int .i64 0] := Blk.new (by simp)
  have hB4 : Below w.heap.size w ((((w.alloc (.cells #[.int .i64 kind] 3)).alloc (.cells #[.int .i64 0] 3)).alloc (.cells #[.pointer none] 25)).alloc (.cells #[.int .i64 0] 3)) := by go_grown
  generalize ((((w.alloc (.cells #[.int .i64 kind] 3)).alloc (.cells #[.int .i64 0] 3)).alloc (.cells #[.pointer none] 25)).alloc (.cells #[.int .i64 0] 3)) = w4 at *
  have z4 := hB4.size
  refine wpIn_each (gf := 30) (lb := #[ptr (w.heap.size + 1 + 1 + 1), ptr (w.heap.size + 1 + 1)]) rfl (enters_of Try.func30 (by kernel_rfl) rfl)
    (fun W hg => from1_nil _ _ 0 W (fun _ _ => True) (b3.grow hg) (b2.grow hg)) (fun _ _ => trivial) (fun _ _ _ => trivial) (fun _ => rfl)
    (fun _ W => Blk W (w.heap.size + 1) 3 [.int .i64 0] ∧ Below w.heap.size w W)
    (fun _ _ _ => False)
    (fun pre A B h g => ⟨h.1.grow g, Below.behind h.2 (Nat.le_refl _) g z4⟩)
    (fun _ _ _ _ h _ => h) ⟨b1, hB4⟩ ?round ?done ?stop
  case round =>
    intro m L pre x W _ hpre _
    have := hpre.length_le; simp at this
  case done =>
    rintro D W hD ⟨h1, h4⟩ hK
    have c1 := h1.cell (i := 0) rfl
    gi_wp2
    refine ⟨by simp, .inl ⟨_, _, rfl, run_takeDeferred hK, ?_⟩⟩
    exact ⟨_, results_tmp rfl _ _ _, rfl, Below.behind h4 (Nat.le_refl _) ((Grow.refl _ W).putObj _ hD hK rfl) z4⟩
  case stop => exact fun _ _ _ _ _ _ h _ => h.elim
set_option maxRecDepth 100000 in
set_option maxHeartbeats 2000000 in
theorem play_none (pt : Nat) (w : World) :
    Calls Try.prog 21 #[ptr pt, .pointer none] w (Ret (.int .i64 0) w) := by
  refine (callsIn_wide (n := 9)).1 ?_
  refine callsIn_of_wp_marks Try.func21 rfl trivial ?_ rfl
  simp only [Try.ntmps21, List.size_toArray, List.length_cons, List.length_nil, Nat.reduceAdd, Nat.reduceSub, Array.replicate_succ, Array.replicate_zero, List.push_toArray, List.append_toArray, List.nil_append, List.cons_append]
  gi_wp2_with (refine ⟨trivial, ?_⟩; gi_at_call 27; refine (callsIn_wide.2 (from_any _ _ _)).mono ?_; rintro e w' ⟨rfl, rfl⟩)
  have b1 : Blk ((((w.alloc (.cells #[ptr pt] 25)).alloc (.cells #[.int .i64 0] 3)).alloc (.cells #[.pointer none] 25)).alloc (.cells #[.int .i64 0] 3)) (w.heap.size + 1) 3 [.int .i64 0] := Blk.alloc (Blk.alloc (Blk.new (by simp)) _) _
  have b2 : Blk ((((w.alloc (.cells #[ptr pt] 25)).alloc (.cells #[.int .i64 0] 3)).alloc (.cells #[.pointer none] 25)).alloc (.cells #[.int .i64 0] 3)) (w.heap.size + 1 + 1) 25 [.pointer none] := Blk.alloc (Blk.new (by simp)) _
  have b3 : Blk ((((w.alloc (.cells #[ptr pt] 25)).alloc (.cells #[.int .i64 0] 3)).alloc (.cells #[.pointer none] 25)).alloc (.cells #[.int .i64 0] 3)) (w.heap.size + 1 + 1 + 1) 3 [.int .i64 0] := Blk.new (by simp)
  have hB4 : Below w.heap.size w ((((w.alloc (.cells #[ptr pt] 25)).alloc (.cells #[.int .i64 0] 3)).alloc (.cells #[.pointer none] 25)).alloc (.cells #[.int .i64 0] 3)) := by go_grown
  generalize ((((w.alloc (.cells #[ptr pt] 25)).alloc (.cells #[.int .i64 0] 3)).alloc (.cells #[.pointer none] 25)).alloc (.cells #[.int .i64 0] 3)) = w4 at *
  have z4 := hB4.size
  refine wpIn_each (gf := 30) (lb := #[ptr (w.heap.size + 1 + 1 + 1), ptr (w.heap.size + 1 + 1)]) rfl (enters_of Try.func30 (by kernel_rfl) rfl)
    (fun W hg => from1_nil _ _ 0 W (fun _ _ => True) (b3.grow hg) (b2.grow hg)) (fun _ _ => trivial) (fun _ _ _ => trivial) (fun _ => rfl)
    (fun _ W => Blk W (w.heap.size + 1) 3 [.int .i64 0] ∧ Below w.heap.size w W)
    (fun _ _ _ => False)
    (fun pre A B h g => ⟨h.1.grow g, Below.behind h.2 (Nat.le_refl _) g z4⟩)
    (fun _ _ _ _ h _ => h) ⟨b1, hB4⟩ ?round ?done ?stop
  case round =>
    intro m L pre x W _ hpre _
    have := hpre.length_le; simp at this
  case done =>
    rintro D W hD ⟨h1, h4⟩ hK
    have c1 := h1.cell (i := 0) rfl
    gi_wp2
    refine ⟨by simp, .inl ⟨_, _, rfl, run_takeDeferred hK, ?_⟩⟩
    exact ⟨_, results_tmp rfl _ _ _, rfl, Below.behind h4 (Nat.le_refl _) ((Grow.refl _ W).putObj _ hD hK rfl) z4⟩
  case stop => exact fun _ _ _ _ _ _ h _ => h.elim
set_option maxHeartbeats 1000000 in
theorem play_nil (u : Option Addr) (w : World) :
    Calls Try.prog 21 #[.pointer none, .pointer u] w (Ret (.int .i64 0) w) := by
  refine (callsIn_wide (n := 9)).1 ?_
  refine callsIn_of_wp_marks Try.func21 rfl trivial ?_ rfl
  simp only [Try.ntmps21, List.size_toArray, List.length_cons, List.length_nil, Nat.reduceAdd, Nat.reduceSub, Array.replicate_succ, Array.replicate_zero, List.push_toArray, List.append_toArray, List.nil_append, List.cons_append]
  gi_wp2
  exact ⟨_, results_tmp rfl _ _ _, rfl, by go_grown⟩
theorem cell_grow {W W' : World} {B : Nat} {a : Addr} {v : Value} (g : Grow B W W') (h : W.cell? a = some v) : W'.cell? a = some v := by
  obtain ⟨o, ho, hc⟩ := cells_of_cell h
  exact (World.cell?_of_block (w := W) ((g.block _ o ho (.inr hc)).trans ho.symm)).trans h
theorem EvSl.grow {w w' : World} {B : Nat} {v : Value} {l : List Ev} (h : EvSl w v l) (g : Grow B w w') : EvSl w' v l := by
  obtain ⟨a, cap, rfl, hc, rfl | ⟨g0, off, rfl, he⟩⟩ := h
  · exact ⟨a, cap, rfl, hc, .inl rfl⟩
  · exact ⟨_, cap, rfl, hc, .inr ⟨g0, off, rfl, fun i e hi => ⟨cell_grow g (he i e hi).1, cell_grow g (he i e hi).2.1, cell_grow g (he i e hi).2.2⟩⟩⟩
end Go.Proofs.Ytbkpiegkiokdlaa
