/-
  The iterator over a tape.
-/
import Derived.Test.YtbkpiegkiokdlaaTapeNew
import Derived.Shelf.Abstract
import Derived.Shelf.RegionOpen
import Derived.OwnWalkIn
import Derived.TacticsInMore
import Derived.LoopNIn
import Derived.LoopIn
namespace Go.Proofs.Ytbkpiegkiokdlaa
open Go.RowKit Go.Shelf

attribute [local go_sem] Oper.semAt_some

/-- What the iterator reads: the tape's box; the tape, whose first events are l. -/
def PreS (bt p : Nat) (l : List Ev) (W : World) : Prop := Blk W bt 25 [ptr p] ∧ ∃ fs l', Tape W p fs l' ∧ l <+: l'
theorem PreS.grow {bt p B : Nat} {l : List Ev} {W W' : World} (h : PreS bt p l W) (g : Grow B W W') : PreS bt p l W' := by
  obtain ⟨h1, fs, l', h2, h3⟩ := h; exact ⟨h1.grow g, fs, l', h2.grow g, h3⟩
set_option maxRecDepth 100000 in
set_option maxHeartbeats 1000000 in
theorem from1_seq (p bf bt : Nat) (first : Int) (fs : List Nat) (l : List Ev) (W : World) (hbf : Blk W bf 3 [.int .i64 first]) (hbt : Blk W bt 25 [ptr p]) (hT : Tape W p fs l) (hl : l.length < 1000000000) :
    SeqAt Try.prog 30 #[ptr bf, ptr bt] (fun e : Ev => #[e.val]) (fun A B => PreS bt p l A → PreS bt p l B) (l.drop first.toNat) W := by
  intro L J Jx hJ hJx hY h0
  have HS := hid (show PreS bt p l W from ⟨hbt, fs, l, hT, List.prefix_refl _⟩)
  have c0 := hbf.cell (i := 0) rfl
  have c1 := hbt.cell (i := 0) rfl
  have HT := hid hT
  have HJ0 := hid (hJ [] W _ h0 (Grow.refl _ W).drew)
  clear hT hbf hbt h0
  refine (callsIn_wide (n := 5)).1 ?_
  refine callsIn_of_wp Try.func30 rfl trivial ?_ rfl
  simp only [Try.ntmps30, List.size_toArray, List.length_cons, List.length_nil, Nat.reduceAdd, Nat.reduceSub, Array.replicate_succ, Array.replicate_zero, List.push_toArray, List.append_toArray, List.nil_append, List.cons_append]
  obtain ⟨m, hm0⟩ : ∃ m, first.toNat = m := ⟨_, rfl⟩
  have hm : (if first < 0 then (0 : Int) else first) = (m : Int) := by subst hm0; split <;> omega
  rw [hm0] at hY ⊢
  clear hm0
  have hmix : Try.prog.follows .mixedOrders = true := by kernel_rfl
  gi_wp2
  gi_region_with_o ((refine ⟨trivial, ?_⟩; gi_at_call 22; refine (callsIn_wide.2 (len_at p fs l _ (Tape.drew HT.out))).mono ?_; rintro e w' ⟨rfl, rfl⟩))
  all_goals clear hm
  all_goals gi_wp2
  all_goals (simp only [List.getElem_toArray, List.getElem_cons_succ, List.getElem_cons_zero, Act.put, List.setIfInBounds_toArray, List.set_cons_zero, List.set_cons_succ])
  all_goals
    have HS1 := hid (PreS.grow HS.out (Grow.refl 0 W).drew)
    generalize W.drew = W1 at *
    clear c0 c1 HT HS
    gi_loopw [4] (fun i wr => ∃ k : Nat, i = .int .i64 (k : Int) ∧ (m ≤ k) ∧ (k ≤ l.length ∨ k = m) ∧ PreS bt p l wr ∧ J ((l.drop m).take (k - m)) wr) (fun i _ => l.length - (intOf i).toNat)
    case atStart => exact ⟨m, rfl, Nat.le_refl _, .inr rfl, HS1.out, by rw [Nat.sub_self]; exact HJ0.out⟩
    case round =>
      obtain ⟨k, rfl, hmk, hk, hS, hJs⟩ := hrel
      have HJs := hid hJs
      clear hJs
      by_cases hlt : k < l.length
      · obtain ⟨x, hx⟩ : ∃ x, l[k]? = some x := ⟨l[k], List.getElem?_eq_getElem _⟩
        have hS2 := hS
        obtain ⟨hb, fs2, l2, hT2, hpre⟩ := hS2
        have hx2 : l2[k]? = some x := by obtain ⟨s, rfl⟩ := hpre; rw [List.getElem?_append_left hlt]; exact hx
        obtain ⟨g, n, cap, b, r0, hn, r1, r2, r3, r4⟩ := hT2.get hx2
        have hsnoc : (l.drop m).take (k - m) ++ [x] = (l.drop m).take (k + 1 - m) := by
          rw [show k + 1 - m = (k - m) + 1 by omega, List.take_add_one, List.getElem?_drop, show m + (k - m) = k by omega, hx]; rfl
        obtain ⟨fn, tmps, assign, body, hy, hR⟩ := hY _ x wr HJs.out (by rw [hsnoc]; exact List.take_prefix _ _) 4
        have HSN := hid hsnoc
        have HPX := hid (show (l.drop m).take (k + 1 - m) <+: l.drop m from List.take_prefix _ _)
        have HSS := hid hS
        have cb := hb.cell (i := 0) rfl
        have t2 : (k : Int) % 64 = ((k % 64 : Nat) : Int) := by omega
        have t1 : Int.tmod (k : Int) 64 = ((k % 64 : Nat) : Int) := by rw [Int.tmod_eq_emod_of_nonneg (by omega)]; omega
        have t3 : (k : Int) / 64 = ((k / 64 : Nat) : Int) := by omega
        have t4 : Int.tdiv (k : Int) 64 = ((k / 64 : Nat) : Int) := by rw [Int.tdiv_eq_ediv_of_nonneg (by omega)]; omega
        have b3 : (((k % 64 : Nat) : Int)) < 64 := by omega
        have b4 : (0 : Int) ≤ ((k % 64 : Nat) : Int) := by omega
        have b5 : (0 : Int) ≤ ((k / 64 : Nat) : Int) := by omega
        have b6 : ((k / 64 : Nat) : Int) < (n : Int) := by omega
        generalize k / 64 = q at *
        generalize k % 64 = r at *
        clear hx hx2 hT2 hpre hS hb hsnoc hY hJ hJx
        gi_wp2
        refine hR.mono ?_
        rintro e W3 (⟨rfl, hJ3, hk3⟩ | ⟨rfl, hJx3⟩)
        · have HJ3 := hid hJ3
          have HK3 := hid hk3
          clear hJ3 hk3 hy hR cb r0 r1 r2 r3 r4
          gi_wp2
          go_roundw
          case rel => exact ⟨k + 1, by go_num, by omega, .inl (by omega), HK3.out HSS.out, by rw [← HSN.out]; exact HJ3.out⟩
          case measure => simp [intOf]; omega
        · have HJ3 := hid hJx3
          clear hJx3 hy hR cb r0 r1 r2 r3 r4
          gi_wp2
          go_end0
          exact ⟨⟨_, rfl⟩, .inr ⟨_, by rw [HSN.out]; exact HPX.out, HJ3.out⟩⟩
      · have he : (l.drop m).take (k - m) = l.drop m := List.take_of_length_le (by rw [List.length_drop]; omega)
        have HE := hid he
        clear he hY hJ hJx
        gi_wp2
        refine ⟨fun _ h => (by cases h), ?_⟩
        gi_wp2
        go_end0
        exact ⟨⟨_, rfl⟩, .inl (by rw [← HE.out]; exact HJs.out)⟩
end Go.Proofs.Ytbkpiegkiokdlaa
