/-
  Fields, and lists of values with their elements.
-/
import Derived.Test.YtogenbggjodcnaaDoorLimbs
import Derived.Test.YtogenbggjodcnaaDoorPlainN
import Derived.Deep.MidRow
import Derived.Test.YtogenbggjodcnaaDoorRefV
import Derived.Deep.RegionWith
import Derived.Test.YtogenbggjodcnaaDoorKit
import Derived.OwnWalk
import Derived.Maps.AppendAt
/-
  The table of the fields, and Get.
-/
namespace Go.Proofs.YtogenbggjodcnaaDoor
open Go.RowKit

/-- The table's cells. -/
noncomputable def tabCells : List Value := [.int .i64 1, .int .u64 (limb P1 0 : Int), .int .u64 (limb P1 1 : Int), .int .u64 (limb P1 2 : Int), .int .u64 (limb P1 3 : Int), .int .u64 (I1 : Int), .int .u64 (limb O1 0 : Int), .int .u64 (limb O1 1 : Int), .int .u64 (limb O1 2 : Int), .int .u64 (limb O1 3 : Int), .int .u64 (limb S1 0 : Int), .int .u64 (limb S1 1 : Int), .int .u64 (limb S1 2 : Int), .int .u64 (limb S1 3 : Int), .int .i64 2, .int .u64 (limb P2 0 : Int), .int .u64 (limb P2 1 : Int), .int .u64 (limb P2 2 : Int), .int .u64 (limb P2 3 : Int), .int .u64 (I2 : Int), .int .u64 (limb O2 0 : Int), .int .u64 (limb O2 1 : Int), .int .u64 (limb O2 2 : Int), .int .u64 (limb O2 3 : Int), .int .u64 (limb S2 0 : Int), .int .u64 (limb S2 1 : Int), .int .u64 (limb S2 2 : Int), .int .u64 (limb S2 3 : Int)]
/-- The table lies in the variable's block. -/
def Tab (w : World) : Prop := w.rangeAt 0 0 tabCells
theorem Tab.keep {w w' : World} (h : Tab w) (hb : Below w.heap.size w w') : Tab w' := fun j v hv => by
  have e := h j v hv
  rw [hb.cell (p := ⟨0, 0 + j, none⟩) (World.block_lt_of_cell? w _ e)]; exact e
theorem Tab.below {w w' : World} {B : Nat} (h : Tab w) (hb : Below B w w') (hB : w.heap.size ≤ B) : Tab w' := h.keep (hb.mono hB)
theorem Tab.alloc {w : World} (h : Tab w) (o : Obj) : Tab (w.alloc o) := h.keep ((Below.refl _ w).alloc (Nat.le_refl _) o)
theorem Tab.drew {w : World} (h : Tab w) : Tab w.drew := h
theorem Tab.pos {w : World} (h : Tab w) : 0 < w.heap.size := World.block_lt_of_cell? w _ (h 0 _ rfl)

/-- The zero field. -/
abbrev fld0 : Value := .agg #[.int .i64 0, .int .u64 0, .int .u64 0, .int .u64 0, .int .u64 0, .int .u64 0, .int .u64 0, .int .u64 0, .int .u64 0, .int .u64 0, .int .u64 0, .int .u64 0, .int .u64 0, .int .u64 0]

theorem index_fields_0 (w : World) : (Instr.index 133 (.agg tabCells.toArray) (.int .i64 0)).run Tryd.prog w = .ok (fld 1 P1 I1 O1 S1) w := by kernel_rfl
theorem index_fields_1 (w : World) : (Instr.index 133 (.agg tabCells.toArray) (.int .i64 1)).run Tryd.prog w = .ok (fld 2 P2 I2 O2 S2) w := by kernel_rfl

set_option maxRecDepth 100000 in
set_option maxHeartbeats 2000000 in
theorem get_1 (w : World) (hT : Tab w) :
    Calls Tryd.prog 56 #[.int .i64 1] w (Ret (.tuple #[fld 1 P1 I1 O1 S1, .int .i64 0]) w) := by
  have i0 := index_fields_0
  have i1 := index_fields_1
  have hT' := hid (hT.alloc (.cells #[.int .i64 0, .int .u64 0, .int .u64 0, .int .u64 0, .int .u64 0, .int .u64 0, .int .u64 0, .int .u64 0, .int .u64 0, .int .u64 0, .int .u64 0, .int .u64 0, .int .u64 0, .int .u64 0] 31))
  clear hT
  go_enter Tryd.func56, Tryd.ntmps56
  go_wp2_with (refine wpList_load_mid rfl 133 _ rfl 0 0 rfl tabCells _ hT'.out Tryd.underlying133 rfl (by kernel_rfl) ?_)
  generalize hc : tabCells.toArray = tc at *
  clear hc
  refine wp_loop_rounds 3 ?_
  rw [rounds_succ]; go_wp2
  refine bodyPost_ret (by simp only [results, Tryd.results56]; go_simp; try rfl) rfl ?_
  exact ⟨rfl, by go_grown⟩

set_option maxRecDepth 100000 in
set_option maxHeartbeats 2000000 in
theorem get_2 (w : World) (hT : Tab w) :
    Calls Tryd.prog 56 #[.int .i64 2] w (Ret (.tuple #[fld 2 P2 I2 O2 S2, .int .i64 0]) w) := by
  have i0 := index_fields_0
  have i1 := index_fields_1
  have hT' := hid (hT.alloc (.cells #[.int .i64 0, .int .u64 0, .int .u64 0, .int .u64 0, .int .u64 0, .int .u64 0, .int .u64 0, .int .u64 0, .int .u64 0, .int .u64 0, .int .u64 0, .int .u64 0, .int .u64 0, .int .u64 0] 31))
  clear hT
  go_enter Tryd.func56, Tryd.ntmps56
  go_wp2_with (refine wpList_load_mid rfl 133 _ rfl 0 0 rfl tabCells _ hT'.out Tryd.underlying133 rfl (by kernel_rfl) ?_)
  generalize hc : tabCells.toArray = tc at *
  clear hc
  refine wp_loop_rounds 3 ?_
  rw [rounds_succ]; go_wp2
  rw [rounds_succ]; go_wp2
  refine bodyPost_ret (by simp only [results, Tryd.results56]; go_simp; try rfl) rfl ?_
  exact ⟨rfl, by go_grown⟩

set_option maxRecDepth 100000 in
set_option maxHeartbeats 2000000 in
theorem get_0 (i : Int) (h1 : i ≠ 1) (h2 : i ≠ 2) (w : World) (hT : Tab w) :
    Calls Tryd.prog 56 #[.int .i64 i] w (Ret (.tuple #[fld0, .int .i64 3]) w) := by
  have i0 := index_fields_0
  have i1 := index_fields_1
  have hT' := hid (hT.alloc (.cells #[.int .i64 0, .int .u64 0, .int .u64 0, .int .u64 0, .int .u64 0, .int .u64 0, .int .u64 0, .int .u64 0, .int .u64 0, .int .u64 0, .int .u64 0, .int .u64 0, .int .u64 0, .int .u64 0] 31))
  clear hT
  have d1 : ((1 : Int) == i) = false := by simp; omega
  have d2 : ((2 : Int) == i) = false := by simp; omega
  clear h1 h2
  go_enter Tryd.func56, Tryd.ntmps56
  go_wp2_with (refine wpList_load_mid rfl 133 _ rfl 0 0 rfl tabCells _ hT'.out Tryd.underlying133 rfl (by kernel_rfl) ?_)
  generalize hc : tabCells.toArray = tc at *
  clear hc
  refine wp_loop_rounds 3 ?_
  rw [rounds_succ]; go_wp2
  rw [rounds_succ]; go_wp2
  rw [rounds_succ]; go_wp2
  refine bodyPost_ret (by simp only [results, Tryd.results56]; go_simp; try rfl) rfl ?_
  exact ⟨rfl, by go_grown⟩
end Go.Proofs.YtogenbggjodcnaaDoor
/-
  get, form.
-/
namespace Go.Proofs.YtogenbggjodcnaaDoor
open Go.RowKit

theorem lform_any (p v : Nat) (hp : p < B256) (h1 : 1 < p) (hv : v < B256) (w : World) : Calls Tryd.prog 58 #[vec p, vec v] w (Ret (vec (frm p v)) w) := by
  go_enter Tryd.func58, Tryd.ntmps58
  go_wp2_with fail
  refine (rform_any p v hp h1 hv _).mono ?_
  rintro e w1 ⟨rfl, hb1⟩
  have h_p : Blk w1 (w.heap.size) 28 [.int .u64 (limb p 0 : Int), .int .u64 (limb p 1 : Int), .int .u64 (limb p 2 : Int), .int .u64 (limb p 3 : Int)] := Blk.keep (Blk.alloc (Blk.alloc (Blk.new (by simp)) _) _) hb1
  have h_v : Blk w1 (w.heap.size + 1) 28 [.int .u64 (limb v 0 : Int), .int .u64 (limb v 1 : Int), .int .u64 (limb v 2 : Int), .int .u64 (limb v 3 : Int)] := Blk.keep (Blk.alloc (Blk.new (by simp)) _) hb1
  have h_r : Blk w1 (w.heap.size + 1 + 1) 29 [.int .u64 0, .int .u64 0, .int .u64 0, .int .u64 0] := Blk.keep (Blk.new (by simp)) hb1
  have B1 : Below w.heap.size w w1 := Below.call (by go_grown) hb1
  have zB1 := B1.size
  have z_p := h_p.lt
  have z_v := h_v.lt
  have z_r := h_r.lt
  have c_r0 := h_r.cell (i := 0) rfl
  have c_r1 := h_r.cell (i := 1) rfl
  have c_r2 := h_r.cell (i := 2) rfl
  have c_r3 := h_r.cell (i := 3) rfl
  have f_r0 := h_r.frozen 0
  have f_r1 := h_r.frozen 1
  have f_r2 := h_r.frozen 2
  have f_r3 := h_r.frozen 3
  go_wp2
  refine bodyPost_ret (by simp only [results, Tryd.results58]; go_simp; try rfl) rfl ?_
  exact ⟨rfl, by go_grown⟩
set_option maxRecDepth 100000 in
theorem id_any (s : Bool) (w : World) : Calls Tryd.prog 57 #[.bool s] w fun e w' => e = .returned (.int .i64 (fID s)) ∧ w = w' := by
  cases s <;>
  · go_enter Tryd.func57, Tryd.ntmps57
    go_wp2
    go_ret
    exact ⟨rfl, rfl⟩
theorem get_sec (s : Bool) (w : World) (hT : Tab w) : Calls Tryd.prog 56 #[.int .i64 (fID s)] w (Ret (.tuple #[FV s, .int .i64 0]) w) := by
  cases s
  · exact get_1 w hT
  · exact get_2 w hT
theorem modulus_sec (s : Bool) (w : World) : Calls Tryd.prog 49 #[.int .i64 (fID s)] w (Ret (vec (fP s)) w) := by
  cases s
  · exact rmodulus_1 w
  · exact rmodulus_2 w
end Go.Proofs.YtogenbggjodcnaaDoor
/-
  Values: numbers modulo p, and their forms; same: whether elements are the forms of values.
-/
namespace Go.Proofs.YtogenbggjodcnaaDoor
open Go.RowKit

theorem info_v4 : (Tryd.prog.info? 28).map (fun i => (i.zero, i.size, i.bytes)) = some (some (.agg #[.int .u64 0, .int .u64 0, .int .u64 0, .int .u64 0]), 4, 32) := by kernel_rfl
theorem info_e4 : (Tryd.prog.info? 29).map (fun i => (i.zero, i.size, i.bytes)) = some (some (.agg #[.int .u64 0, .int .u64 0, .int .u64 0, .int .u64 0]), 4, 32) := by kernel_rfl
theorem run_append_el (base n b x : Nat) (v : Value) (xs : List Value) (w : World) (h : w.ownsRow base 29 4 v n xs) (hx : Blk w b 29 (limbs x)) (hn : n < 1000000) (hb : base ≤ w.heap.size) :
    ∃ v' w', (∀ ty, (Builtin.append_ #[34, 34] ty #[v, .slice (some ⟨b, 0, none⟩) 1 1]).run Tryd.prog w = .ok v' w') ∧ w'.ownsRow base 29 4 v' (n + 1) (xs ++ limbs x) ∧ w.grownBy w' v.ownBlock := by
  obtain ⟨i0, hi, hz0, hz1, hz2⟩ := info_parts info_e4
  obtain ⟨v', w', hr, h2, h3, _⟩ := run_append_own_at (P := Tryd.prog) w base 34 34 29 i0 (.agg #[.int .u64 0, .int .u64 0, .int .u64 0, .int .u64 0]) 4 32 Tryd.underlying34 hi hz0 hz1 hz2 rfl (by decide) v n xs h ⟨b, 0, none⟩ 1 1 (limbs x) rfl (Blk.news hx) (by simp [Value.oneCell']) (by unfold maxLen; omega) (by omega) hb
  refine ⟨v', w', fun ty => ?_, h2, h3⟩
  obtain ⟨v2, w2, hr2, _⟩ := run_append_own_at (P := Tryd.prog) w base 34 ty 29 i0 (.agg #[.int .u64 0, .int .u64 0, .int .u64 0, .int .u64 0]) 4 32 Tryd.underlying34 hi hz0 hz1 hz2 rfl (by decide) v n xs h ⟨b, 0, none⟩ 1 1 (limbs x) rfl (Blk.news hx) (by simp [Value.oneCell']) (by unfold maxLen; omega) (by omega) hb
  exact hr
/-- Rows of different types lie in different blocks. -/
theorem owns_apart {w : World} {b1 b2 s1 s2 n1 n2 : Nat} {e1 e2 : TypeId} {v1 v2 : Value} {x1 x2 : List Value} (h : w.ownsRow b1 e1 s1 v1 n1 x1) (k : w.ownsRow b2 e2 s2 v2 n2 x2) (he : e1 ≠ e2) : v1.ownBlock = none ∨ v1.ownBlock ≠ v2.ownBlock := by
  obtain ⟨_, ⟨rfl, _⟩ | ⟨g, cap, cur, rfl, _, hh, _⟩⟩ := h
  · exact .inl rfl
  · refine .inr (fun e => ?_)
    obtain ⟨_, ⟨rfl, _⟩ | ⟨g', cap', cur', rfl, _, hk, _⟩⟩ := k
    · cases e
    · cases e
      rw [hh] at hk
      cases hk
      exact he rfl
theorem mod_lt256 {p : Nat} (a : Nat) (hp : p < B256) (h1 : 1 < p) : mulm p 1 a < B256 := Nat.lt_trans (mulm_lt _ _ (by omega)) hp
/-- It returns the values and their forms. -/
def RetVals (p : Nat) (xs : List Nat) (w : World) : Ending → World → Prop := fun e w' => ∃ v1 v2, e = .returned (.tuple #[v1, v2]) ∧ w'.ownsRow (w.heap.size + 1) 28 4 v1 xs.length (nums (xs.map (mulm p 1))) ∧ w'.ownsRow (w.heap.size + 1) 29 4 v2 xs.length (nums ((xs.map (mulm p 1)).map (frm p))) ∧ Below w.heap.size w w'
set_option maxRecDepth 100000 in
set_option maxHeartbeats 1000000 in
theorem values_any (p : Nat) (v : Value) (xs : List Nat) (w : World) (hp : p < B256) (h1 : 1 < p) (hS : NumSl w v xs) (hl : xs.length < 1000000) : Calls Tryd.prog 16 #[vec p, v] w (RetVals p xs w) := by
  obtain ⟨i0, hi, hz0, hz1, hz2⟩ := info_parts info_v4
  obtain ⟨i1, hj, hj0, hj1, hj2⟩ := info_parts info_e4
  obtain ⟨a, cap, rfl, _, hrow⟩ := hS
  obtain ⟨n, hn⟩ : ∃ n, xs.length = n := ⟨_, rfl⟩
  unfold RetVals
  rw [hn] at hl ⊢
  have HM := hid hn
  have HR := hid hrow
  have HP := hid hp
  have H1 := hid h1
  clear hn hrow hp h1
  go_enter Tryd.func16, Tryd.ntmps16
  go_wp2
  go_loopw [12, 6, 7] (fun x y z wr => ∃ (k : Nat) , k ≤ n ∧ x = .int .i64 (k : Int) ∧ Below w.heap.size w wr ∧ Blk wr w.heap.size 28 [.int .u64 (limb p 0 : Int), .int .u64 (limb p 1 : Int), .int .u64 (limb p 2 : Int), .int .u64 (limb p 3 : Int)] ∧ wr.ownsRow (w.heap.size + 1) 28 4 y k (nums ((xs.take k).map (mulm p 1))) ∧ wr.ownsRow (w.heap.size + 1) 29 4 z k (nums (((xs.take k).map (mulm p 1)).map (frm p)))) (fun x _ _ _ => n - (intOf x).toNat)
  case atStart => exact ⟨0, Nat.zero_le _, rfl, by go_grown, Blk.new rfl, by simpa [nums] using World.ownsRow_nil _ _ _ _, by simpa [nums] using World.ownsRow_nil _ _ _ _⟩
  case round =>
    obtain ⟨k, hk, rfl, hB, hp, h6, h7⟩ := hrel
    have zB := hB.size
    have zp := hp.lt
    have HB := hid hB
    have O6 := hid h6
    have O7 := hid h7
    by_cases hlt : k < n
    · obtain ⟨x, hx⟩ : ∃ x, xs[k]? = some x := ⟨xs[k]'(by rw [HM.out]; exact hlt), List.getElem?_eq_getElem _⟩
      obtain ⟨g, off, hga, he⟩ : ∃ g off, a = some ⟨g, off, none⟩ ∧ NumsAt w g off xs := by
        rcases HR.out with h | h
        · rw [h] at hx; cases hx
        · exact h
      subst hga
      obtain ⟨hxl, e0, e1, e2, e3⟩ := he k x hx
      have hg : g < w.heap.size := World.block_lt_of_cell? w _ e0
      have hgr := Nat.lt_of_lt_of_le hg zB
      have d0 := (hB.cell (p := ⟨g, off + k * 4, none⟩) hg).trans e0
      have d1 := (hB.cell (p := ⟨g, off + k * 4 + 1, none⟩) hg).trans e1
      have d2 := (hB.cell (p := ⟨g, off + k * 4 + 2, none⟩) hg).trans e2
      have d3 := (hB.cell (p := ⟨g, off + k * 4 + 3, none⟩) hg).trans e3
      have p0 := hp.cell (i := 0) rfl
      have p1 := hp.cell (i := 1) rfl
      have p2 := hp.cell (i := 2) rfl
      have p3 := hp.cell (i := 3) rfl
      have HPB := hid hp
      obtain ⟨z, hz⟩ : ∃ z, mulm p 1 x = z := ⟨_, rfl⟩
      have HZ := hid hz
      have M := hid (rmod_any p x HP.out H1.out hxl)
      rw [hz] at M
      have hzl : z < B256 := by rw [← hz]; exact mod_lt256 x HP.out H1.out
      have FMC := hid (lform_any p z HP.out H1.out hzl)
      have T1 := hid (show (xs.take (k + 1)).map (mulm p 1) = (xs.take k).map (mulm p 1) ++ [z] by rw [take_next hx, List.map_append, ← HZ.out]; rfl)
      clear hB hp h6 h7 e0 e1 e2 e3 he hx hz hxl hzl
      go_wp2_with (first
        | (go_at_call 25; refine (M.out _).mono ?_; rintro e w1 ⟨rfl, b1⟩; have B1 := hid ((HB.out.alloc zB _).trans (b1.mono (by simp; omega))); have P1 := hid (Blk.keep (HPB.out.alloc _) b1); have O6a := hid (owns_keep (O6.out.alloc _) b1); have O7a := hid (owns_keep (O7.out.alloc _) b1); clear b1)
        | (at_builtin; refine wpList_append_own _ rfl _ _ 23 rfl (w.heap.size + 1) 28 i0 _ 4 32 Tryd.underlying23 hi hz0 hz1 hz2 rfl (by decide) _ k _ rfl (O6a.out.alloc _) ⟨w1.heap.size, 0, none⟩ 1 1 (limbs z) rfl rfl (Blk.news (t := 28) (Blk.new (by simp))) (by simp [Value.oneCell']) (by unfold maxLen; omega) (by omega) (by have := P1.out.lt; simp; omega) ?_; intro v6 w2 ho hg2 _))
      have B2 := hid (Below.grown (B1.out.alloc B1.out.size _) hg2 (by have := B1.out.size; simp; omega) (fun j hj => by have := (O6a.out.lt j hj).1; omega))
      have P2 := hid ((P1.out.alloc (.cells #[.int .u64 (limb z 0 : Int), .int .u64 (limb z 1 : Int), .int .u64 (limb z 2 : Int), .int .u64 (limb z 3 : Int)] 28)).grown hg2 (fun e => by have := (O6a.out.lt _ e.symm).1; omega))
      have O7b := hid ((O7a.out.alloc (.cells #[.int .u64 (limb z 0 : Int), .int .u64 (limb z 1 : Int), .int .u64 (limb z 2 : Int), .int .u64 (limb z 3 : Int)] 28)).kept hg2 (owns_apart O7a.out O6a.out (by decide)))
      have ho' : w2.ownsRow (w.heap.size + 1) 28 4 v6 (k + 1) (nums ((xs.take (k + 1)).map (mulm p 1))) := by rw [T1.out, nums_snoc]; exact ho
      have O6b := hid ho'
      have hzk : ((xs.take (k + 1)).map (mulm p 1))[k]? = some z := by
        rw [T1.out, List.getElem?_append_right (by rw [List.length_map, List.length_take]; omega), List.length_map, List.length_take, HM.out, Nat.min_eq_left (by omega), Nat.sub_self]
        rfl
      obtain ⟨a6, c6, rfl, hc6, _, hg6⟩ := owns_form ho'
      obtain ⟨g6, rfl⟩ := hg6 (by omega)
      have q0 : w2.cell? ⟨g6, k * 4, none⟩ = _ := (ho'.cellAt (k * 4) (by omega)).trans (nums_get _ k z hzk 0 (by omega))
      have q1 := (ho'.cellAt (k * 4 + 1) (by omega)).trans (nums_get _ k z hzk 1 (by omega))
      have q2 := (ho'.cellAt (k * 4 + 2) (by omega)).trans (nums_get _ k z hzk 2 (by omega))
      have q3 := (ho'.cellAt (k * 4 + 3) (by omega)).trans (nums_get _ k z hzk 3 (by omega))
      have s0 := P2.out.cell (i := 0) rfl
      have s1 := P2.out.cell (i := 1) rfl
      have s2 := P2.out.cell (i := 2) rfl
      have s3 := P2.out.cell (i := 3) rfl
      obtain ⟨K1, hK⟩ : ∃ K, K = k + 1 := ⟨_, rfl⟩
      rw [← hK]
      have zk1 : (K1 : Int) - 1 = (k : Int) := by omega
      have zk2 : IntKind.i64.wrap (k : Int) = (k : Int) := by rw [IntKind.wrap_i64]; omega
      have zk3 : (k : Int) < (K1 : Int) := by omega
      have zk4 : k < K1 := by omega
      have zs2 := P2.out.lt
      have zg6 : g6 < w2.heap.size := (O6b.out.lt _ rfl).2
      have zk5 : k + 1 ≤ c6 := hc6
      have HKK := hid hK
      clear hK
      clear ho ho' hg2 hg6 hzk d0 d1 d2 d3 p0 p1 p2 p3
      refine wp_region_soft1 (C := fun W' => Below w2.heap.size w2 W') 8 (by kernel_rfl) (by kernel_rfl) (by decide) (by kernel_rfl) (by kernel_rfl) (by kernel_rfl) (by kernel_rfl) (by kernel_rfl) (fun _ _ _ h => h) (Or.inl ⟨by rfl, fun _ => rfl⟩) ((Below.refl _ _).drew) ?_
      simp only [List.take_succ_cons, List.take_zero, List.drop_succ_cons, List.drop_zero]
      simp only [Act.put, List.setIfInBounds_toArray, List.set_cons_zero, List.set_cons_succ]
      refine wpQuiet_step (fun K hK => ?_)
      rw [if_pos (by rfl)]
      refine ⟨vec p, fun W' hW => ?_, hK _ ?_⟩
      · have e0 := (hW.cell (p := ⟨w.heap.size, 0, none⟩) zs2).trans s0
        have e1 := (hW.cell (p := ⟨w.heap.size, 1, none⟩) zs2).trans s1
        have e2 := (hW.cell (p := ⟨w.heap.size, 2, none⟩) zs2).trans s2
        have e3 := (hW.cell (p := ⟨w.heap.size, 3, none⟩) zs2).trans s3
        go_simp
      clear hK K
      simp only [Act.put, List.setIfInBounds_toArray, List.set_cons_zero, List.set_cons_succ]
      refine wpQuiet_step (fun K hK => ?_)
      rw [if_pos (by rfl)]
      refine ⟨.slice (some ⟨g6, 0, none⟩) K1 c6, fun W' hW => ?_, hK _ ?_⟩
      · go_simp
      clear hK K
      simp only [Act.put, List.setIfInBounds_toArray, List.set_cons_zero, List.set_cons_succ]
      refine wpQuiet_step (fun K hK => ?_)
      rw [if_pos (by rfl)]
      refine ⟨.slice (some ⟨g6, 0, none⟩) K1 c6, fun W' hW => ?_, hK _ ?_⟩
      · go_simp
      clear hK K
      simp only [Act.put, List.setIfInBounds_toArray, List.set_cons_zero, List.set_cons_succ]
      refine wpQuiet_step (fun K hK => ?_)
      rw [if_pos (by rfl)]
      refine ⟨.int .i64 (K1 : Int), fun W' hW => ?_, hK _ ?_⟩
      · go_simp
      clear hK K
      simp only [Act.put, List.setIfInBounds_toArray, List.set_cons_zero, List.set_cons_succ]
      refine wpQuiet_step (fun K hK => ?_)
      rw [if_pos (by rfl)]
      refine ⟨.int .i64 (k : Int), fun W' hW => ?_, hK _ ?_⟩
      · go_simp
      clear hK K
      simp only [Act.put, List.setIfInBounds_toArray, List.set_cons_zero, List.set_cons_succ]
      refine wpQuiet_step (fun K hK => ?_)
      rw [if_pos (by rfl)]
      refine ⟨.pointer (some ⟨g6, k * 4, none⟩), fun W' hW => ?_, hK _ ?_⟩
      · go_simp
      clear hK K
      simp only [Act.put, List.setIfInBounds_toArray, List.set_cons_zero, List.set_cons_succ]
      refine wpQuiet_step (fun K hK => ?_)
      rw [if_pos (by rfl)]
      refine ⟨vec z, fun W' hW => ?_, hK _ ?_⟩
      · have e0 := (hW.cell (p := ⟨g6, k * 4, none⟩) zg6).trans q0
        have e1 := (hW.cell (p := ⟨g6, k * 4 + 1, none⟩) zg6).trans q1
        have e2 := (hW.cell (p := ⟨g6, k * 4 + 2, none⟩) zg6).trans q2
        have e3 := (hW.cell (p := ⟨g6, k * 4 + 3, none⟩) zg6).trans q3
        go_simp
      clear hK K
      simp only [Act.put, List.setIfInBounds_toArray, List.set_cons_zero, List.set_cons_succ]
      refine wpQuiet_step (fun K hK => ?_)
      rw [if_pos (by rfl)]
      refine ⟨vec (frm p z), fun W' hW => ?_, hK _ ?_⟩
      · go_simp
        refine (FMC.out _).mono ?_
        rintro e w' ⟨rfl, b⟩
        exact ⟨rfl, hW.trans (b.mono hW.size)⟩
      clear hK K
      simp only [Act.put, List.setIfInBounds_toArray, List.set_cons_zero, List.set_cons_succ]
      refine wpQuiet_nil ?_
      intro w3 b3
      have P3 := hid (Blk.keep P2.out b3)
      have O6c := hid (owns_keep O6b.out b3)
      have O7c := hid (owns_keep O7b.out b3)
      have B3 := hid (B2.out.trans (b3.mono B2.out.size))
      have z3 := P3.out.lt
      clear b3
      go_wp2_with (at_builtin; refine wpList_append_own _ rfl _ _ 34 rfl (w.heap.size + 1) 29 i1 _ 4 32 Tryd.underlying34 hj hj0 hj1 hj2 rfl (by decide) _ k _ rfl (O7c.out.alloc _) ⟨w3.heap.size, 0, none⟩ 1 1 (limbs (frm p z)) rfl rfl (Blk.news (t := 29) (Blk.new (by simp))) (by simp [Value.oneCell']) (by unfold maxLen; omega) (by omega) (by simp; omega) ?_; intro v7 w4 o7 g7 _)
      have B4 := hid (Below.grown (B3.out.alloc B3.out.size _) g7 (by have := B3.out.size; simp; omega) (fun j hj => by have := (O7c.out.lt j hj).1; omega))
      have P4 := hid ((P3.out.alloc (.cells #[.int .u64 (limb (frm p z) 0 : Int), .int .u64 (limb (frm p z) 1 : Int), .int .u64 (limb (frm p z) 2 : Int), .int .u64 (limb (frm p z) 3 : Int)] 29)).grown g7 (fun e => by have := (O7c.out.lt _ e.symm).1; omega))
      have O6d := hid ((O6c.out.alloc (.cells #[.int .u64 (limb (frm p z) 0 : Int), .int .u64 (limb (frm p z) 1 : Int), .int .u64 (limb (frm p z) 2 : Int), .int .u64 (limb (frm p z) 3 : Int)] 29)).kept g7 (owns_apart O6c.out O7c.out (by decide)))
      have O7d := hid o7
      clear g7 o7
      go_roundw
      case rel => exact ⟨k + 1, by omega, by go_num, B4.out, P4.out, by rw [HKK.out]; exact O6d.out, by rw [T1.out, List.map_append, List.map_cons, List.map_nil, nums_snoc]; exact O7d.out⟩
      case measure => simp [intOf]; omega
    · obtain rfl : k = n := by omega
      have e1 := O6.out
      have e2 := O7.out
      rw [List.take_of_length_le (by rw [HM.out]; exact Nat.le_refl _)] at e1 e2
      have E1 := hid e1
      have E2 := hid e2
      clear e1 e2 h6 h7
      go_wp2
      go_ret2
      exact ⟨_, _, rfl, E1.out, E2.out, HB.out⟩
theorem eq_same_el (a b c d : Int) (w : World) : (Op.equalIn 10000 29 (.agg #[.int .u64 a, .int .u64 b, .int .u64 c, .int .u64 d]) (.agg #[.int .u64 a, .int .u64 b, .int .u64 c, .int .u64 d])).run Tryd.prog w = .ok true w := by
  rw [run_eq_elem]; simp
end Go.Proofs.YtogenbggjodcnaaDoor
