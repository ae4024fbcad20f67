/-
  TapeKeeps, TapePlays, TapeOwnsItsEvents: the walks.
-/
import Derived.Test.YtbkpiegkiokdlaaTapeConcat
import Derived.LoopN
namespace Go.Proofs.Ytbkpiegkiokdlaa
open Go.RowKit

set_option maxRecDepth 100000 in
set_option maxHeartbeats 4000000 in
theorem keeps_law (v u : Value) (l m : List Ev) (w : World) (h : EvSl w v l) (h' : EvSl w u m) :
    Calls Try.prog 6 #[v, u] w (Ret (.bool true) w) := by
  have H := hid h
  have H' := hid h'
  obtain ⟨a, cap, rfl, _, _⟩ := h
  obtain ⟨a', cap', rfl, _, _⟩ := h'
  go_enter Try.func6, Try.ntmps6
  go_wp2_with fail
  refine (long_two w.heap.size 2 a a' l.length m.length cap cap' _ ((Blk.new rfl : Blk (w.alloc (.cells #[.slice a l.length cap, .slice a' m.length cap'] 22)) w.heap.size 22 [.slice a l.length cap, .slice a' m.length cap']).cell (i := 0) rfl) ((Blk.new rfl : Blk (w.alloc (.cells #[.slice a l.length cap, .slice a' m.length cap'] 22)) w.heap.size 22 [.slice a l.length cap, .slice a' m.length cap']).cell (i := 1) rfl)).mono ?_
  rintro e wq ⟨rfl, rfl⟩
  have hG : Grow 0 w (w.alloc (.cells #[.slice a l.length cap, .slice a' m.length cap'] 22)) := ((Grow.refl 0 w).alloc _)
  have B1 := hid (show Below w.heap.size w (w.alloc (.cells #[.slice a l.length cap, .slice a' m.length cap'] 22)) from ((Below.refl _ w).alloc (Nat.le_refl _) _))
  have s1 := B1.out.size
  clear hG
  generalize (w.alloc (.cells #[.slice a l.length cap, .slice a' m.length cap'] 22)) = w1 at *
  by_cases hlong : 3000 < l.length ∨ 3000 < m.length
  · rw [decide_eq_true hlong]
    go_wp2_with fail
    refine (alive02_any _).mono ?_
    rintro e w2 ⟨rfl, b⟩
    have B2 := hid (B1.out.trans (b.mono s1))
    have s2 := B2.out.size
    clear b
    go_wp2
    go_ret
    exact ⟨rfl, B2.out⟩
  · rw [decide_eq_false hlong]
    have hl : l.length < 3001 := by omega
    have hm : m.length < 3001 := by omega
    go_wp2_with fail
    refine (new_any _ l _ (H.out.below B1.out) (by omega)).mono ?_
    rintro e w2 ⟨pt, ft, rfl, h9, b, z9⟩
    have Nt_2 := hid h9
    have B2 := hid (B1.out.trans (b.mono s1))
    have s2 := B2.out.size
    have Zt : Hid (∀ k ∈ ft, w.heap.size ≤ k) := hid (fun k hk => by have a1 := z9 k hk; (try simp at a1); omega)
    clear b h9 z9
    obtain ⟨n1, hn1⟩ : ∃ n, l.length = n := ⟨_, rfl⟩
    obtain ⟨n2, hn2⟩ : ∃ n, m.length = n := ⟨_, rfl⟩
    have N1 := hid hn1
    have N2 := hid hn2
    rw [hn1, hn2] at hlong
    rw [hn1] at hl
    rw [hn2] at hm
    rw [hn1, hn2]
    have HA := hid (show EvSl w (.slice a n1 cap) l by rw [← hn1]; exact H.out)
    have HB9 := hid (show EvSl w (.slice a' n2 cap') m by rw [← hn2]; exact H'.out)
    clear hn1 hn2
    go_wp2
    go_loopw [17] (fun i wr => ∃ (k : Nat) (fs : List Nat), k ≤ n2 ∧ i = .int .i64 (k : Int) ∧ Tape wr pt fs (l ++ m.take k) ∧ Below w.heap.size w wr ∧ ∀ b ∈ fs, w.heap.size ≤ b) (fun i _ => n2 - (intOf i).toNat)
    case atStart => exact ⟨0, ft, by omega, rfl, by rw [List.take_zero, List.append_nil]; exact Nt_2.out, B2.out, Zt.out⟩
    case round =>
      obtain ⟨k, fs, hk, rfl, hT, hB, hfs⟩ := hrel
      have HT := hid hT
      have HF := hid hfs
      have zB := hB.size
      have HB := hid hB
      clear hT hfs
      by_cases hlt : k < n2
      · obtain ⟨x, hx⟩ : ∃ x, m[k]? = some x := ⟨m[k]'(by rw [N2.out]; exact hlt), List.getElem?_eq_getElem _⟩
        obtain ⟨g, off, hga, he⟩ : ∃ g off, a' = some ⟨g, off, none⟩ ∧ EvsAt w g off m := by
          obtain ⟨a9, cap9, h8, _, h9⟩ := H'.out
          cases h8
          rcases h9 with h | h
          · subst h; cases hx
          · exact h
        subst hga
        obtain ⟨e0, e1, e2⟩ := he k x hx
        have zg := World.block_lt_of_cell? _ _ e0
        have d0 := (hB.cell (p := ⟨g, off + k * 3, none⟩) zg).trans e0
        have d1 := (hB.cell (p := ⟨g, off + k * 3 + 1, none⟩) zg).trans e1
        have d2 := (hB.cell (p := ⟨g, off + k * 3 + 2, none⟩) zg).trans e2
        have zg2 : g < wr.heap.size := Nat.lt_of_lt_of_le zg zB
        have HX := hid hx
        have hlen : ((l ++ m.take k ++ [(⟨x.k, x.a, x.b⟩ : Ev)]).length : Int) = (n1 : Int) + (k : Int) + 1 := by
          rw [List.length_append, List.length_append, List.length_take, N1.out, N2.out]; simp; omega
        have HLN := hid hlen
        have HT2 := hid (HT.out.alloc (.cells #[.int .i64 x.k, .int .i64 x.a, .int .i64 x.b] 41))
        clear e0 e1 e2 he hx hlen hB
        go_wp2_with fail
        refine (note_at pt fs (l ++ m.take k) x.k x.a x.b _ HT2.out (by rw [List.length_append, List.length_take, N1.out]; omega)).mono ?_
        rintro e wn ⟨y, fs', rfl, h1, h2, h3⟩
        have H1 := hid h1
        have H2 := hid h2
        have H3 := hid h3
        clear h1 h2 h3
        go_wp2_with fail
        refine (len_at pt fs' _ _ H1.out).mono ?_
        rintro e wq ⟨rfl, rfl⟩
        rw [HLN.out]
        go_wp2
        go_roundw
        case rel =>
          refine ⟨k + 1, fs', by omega, by go_num, ?_, ?_, ?_⟩
          · rw [List.take_add_one, HX.out, ← List.append_assoc]; exact H1.out
          · exact (HB.out.alloc zB _).trans (H2.out.below (fun b hb => HF.out b hb) (by simp; omega))
          · intro b hb
            rcases H3.out b hb with h | h
            · exact HF.out b h
            · simp at h; omega
        case measure => simp [intOf]; omega
      · obtain rfl : k = n2 := by omega
        have he : m.take k = m := List.take_of_length_le (by rw [N2.out]; exact Nat.le_refl _)
        have TW := hid (show Tape wr pt fs (l ++ m) by rw [← he]; exact HT.out)
        have BW := HB
        have sBW := BW.out.size
        have sW := sBW
        clear he HT HB hB
        go_wp2_with fail
        refine (alive02_any _).mono ?_
        rintro e w3 ⟨rfl, b⟩
        have t_3 := hid (TW.out.call b)
        have B3 := hid (BW.out.trans (b.mono sW))
        have s3 := B3.out.size
        clear b
        go_wp2_with fail
        refine (events_at pt fs (l ++ m) _ t_3.out (by simp [N1.out, N2.out]; omega)).mono ?_
        rintro e w4 ⟨vVb, rfl, h9, b⟩
        have t_4 := hid (t_3.out.call b)
        have B4 := hid (B3.out.trans (b.mono s3))
        have s4 := B4.out.size
        have Vb := hid (owns_evsl h9)
        clear b h9
        go_wp2_with fail
        refine (concat_two w4.heap.size 2 (.slice a n1 cap) (.slice a' k cap') l m _ ((Blk.new rfl : Blk (w4.alloc (.cells #[(.slice a n1 cap), (.slice a' k cap')] 22)) w4.heap.size 22 [(.slice a n1 cap), (.slice a' k cap')]).cell (i := 0) rfl) ((Blk.new rfl : Blk (w4.alloc (.cells #[(.slice a n1 cap), (.slice a' k cap')] 22)) w4.heap.size 22 [(.slice a n1 cap), (.slice a' k cap')]).cell (i := 1) rfl) (HA.out.below (B4.out.alloc s4 _)) (HB9.out.below (B4.out.alloc s4 _)) (by rw [N1.out, N2.out]; omega)).mono ?_
        rintro e w5 ⟨vVc, rfl, h9, b⟩
        have t_5 := hid ((t_4.out.alloc (.cells #[(.slice a n1 cap), (.slice a' k cap')] 22)).call b)
        have Vb_5 := hid ((Vb.out.below ((Below.refl _ _).alloc (Nat.le_refl _) _)).below b)
        have B5 := hid ((B4.out.alloc s4 _).trans (b.mono (by simp; try omega)))
        have s5 := B5.out.size
        have Vc := hid (owns_evsl h9)
        clear b h9
        go_wp2_with fail
        refine (rsame_any vVb vVc (l ++ m) (l ++ m) _ Vb_5.out Vc.out (by simp [N1.out, N2.out]; omega) (by simp [N1.out, N2.out]; omega)).mono ?_
        rintro e wq ⟨rfl, q5, rfl⟩
        have hq : decide ((l ++ m) = (l ++ m)) = true := by simp
        rw [hq]
        clear hq
        have hG : Grow 0 w5 (w5.drewN q5) := ((Grow.refl 0 w5).drewN q5)
        have t_6 := hid (t_5.out.grow hG)
        have Vb_6 := hid (Vb_5.out.grow hG)
        have Vc_6 := hid (Vc.out.grow hG)
        have B6 := hid (show Below w.heap.size w (w5.drewN q5) from (Below.drewN' B5.out q5))
        have s6 := B6.out.size
        clear hG
        generalize (w5.drewN q5) = w6 at *
        go_wp2_with fail
        refine (len_at pt fs (l ++ m) _ t_6.out).mono ?_
        rintro e wq ⟨rfl, rfl⟩
        have hq : ((l ++ m).length : Int) = (n1 : Int) + (k : Int) := by rw [List.length_append, N1.out, N2.out]; rfl
        rw [hq]
        go_wp2
        go_ret
        exact ⟨rfl, B6.out⟩
end Go.Proofs.Ytbkpiegkiokdlaa
