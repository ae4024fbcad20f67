/-
  add: an event behind the others.
-/
import Derived.Test.YtbkpiegkiokdlaaTape
import Derived.BigRegion
import Derived.Deep.RegionHeld3
import Derived.Deep.AppendLies
import Derived.Outline
import Derived.IntWalk
namespace Go.Proofs.Ytbkpiegkiokdlaa
open Go.RowKit

theorem info_blk : (Try.prog.info? 53).map (fun i => (i.zero, i.size, i.bytes)) = some (some (.pointer none), 1, 8) := by kernel_rfl
def zl : List Value := List.replicate 192 (.int .i64 0)
theorem zl_len : zl.length = 192 := List.length_replicate
theorem zero_blk (w : World) : (zeroValue 54).run Try.prog w = .ok (.agg zl.toArray) w := by kernel_rfl
theorem ownBlock_lt {w : World} {base : Nat} {e : TypeId} {size n : Nat} {v : Value} {xs : List Value} (h : w.ownsRow base e size v n xs) {k : Nat} (hk : w.heap.size ≤ k) : some k ≠ v.ownBlock := fun e => by
  have := owns_lt h e.symm; omega
theorem owns_get {w : World} {base : Nat} {e : TypeId} {g n cap j : Nat} {u : Value} {xs : List Value} (h : w.ownsRow base e 1 (.slice (some ⟨g, 0, none⟩) n cap) n xs) (hj : xs[j]? = some u) : w.cell? ⟨g, j, none⟩ = some u := by
  have := h.cells (g := g) rfl j u hj
  have hadd : (⟨g, 0, none⟩ : Addr).add j = ⟨g, j, none⟩ := by unfold Addr.add; split <;> simp_all
  rwa [hadd] at this
set_option maxRecDepth 100000 in
set_option maxHeartbeats 2000000 in
theorem add_new (p n q : Nat) (v : Value) (ps : List Value) (e : Ev) (w : World) (hq : n = 64 * q) (hn : n < 1000000000) (H : Blk w p 47 [v, .int .i64 (n : Int)])
    (R : w.ownsRow 0 53 1 v q ps) (hps : ps.length = q) (pv : some p ≠ v.ownBlock) :
    Calls Try.prog 26 #[ptr p, e.val] w fun e' w' => ∃ r g cap, e' = .returned r ∧ Blk w' p 47 [.slice (some ⟨g, 0, none⟩) (q + 1) cap, .int .i64 ((n + 1 : Nat) : Int)] ∧
      w'.ownsRow 0 53 1 (.slice (some ⟨g, 0, none⟩) (q + 1) cap) (q + 1) (ps ++ [ptr (w.heap.size + 1)]) ∧
      Blk w' (w.heap.size + 1) 54 (((zl.set 0 (.int .i64 e.k)).set 1 (.int .i64 e.a)).set 2 (.int .i64 e.b)) ∧
      (v.ownBlock = some g ∨ g = w.heap.size + 3) ∧ Only (fun k => k = p ∨ v.ownBlock = some k) w w' := by
  have t1 : Int.tmod (n : Int) 64 = 0 := by rw [Int.tmod_eq_emod_of_nonneg (by omega)]; omega
  have t2 : (n : Int) % 64 = 0 := by omega
  have t3 : (n : Int) / 64 = (q : Int) := by omega
  have z : p < w.heap.size := H.lt
  have c0 := H.cell (i := 0) rfl
  have c1 := H.cell (i := 1) rfl
  have zv := zero_blk
  obtain ⟨i0, hi, hz0, hz1, hz2⟩ := info_parts info_blk
  have HQ := hid hq
  clear hq
  go_enter Try.func26, Try.ntmps26
  go_wp2_with (at_builtin; refine wpList_append_lies _ rfl _ _ 45 rfl 0 53 i0 (.pointer none) 1 8 Try.underlying45 hi hz0 hz1 hz2 rfl (by decide) v q ps rfl (((R.alloc _).alloc _).alloc _) ⟨w.heap.size + 1 + 1, 0, none⟩ 1 1 [ptr (w.heap.size + 1)] rfl rfl (Blk.news (Blk.new (by simp))) (by simp [Value.oneCell']) (by omega) (by unfold maxLen; omega) (by omega) (Nat.zero_le _) (w.heap.size + 1 + 1 + 1) (by simp) ?_; intro g cap w1 hown1 hgrow1 hat hlt; have h_p := Blk.grown (((H.alloc _).alloc _).alloc _) hgrow1 pv; have h_e : Blk w1 w.heap.size 41 e.cells := Blk.grown (Blk.alloc (Blk.alloc (Blk.new rfl) _) _) hgrow1 (ownBlock_lt R (by omega)); have h_n : Blk w1 (w.heap.size + 1) 54 zl := Blk.grown (Blk.alloc (Blk.new (by simp)) _) hgrow1 (ownBlock_lt R (by omega)); have d0 := h_p.cell (i := 0) rfl; have d1 := h_p.cell (i := 1) rfl; have f0 := h_p.frozen 0; have zs := hgrow1.size; have hlp := h_p.lt)
  have gp : g ≠ p := by
    rcases hat with h | h
    · exact fun e => pv (by rw [h, e])
    · omega
  have gn : ¬ g = w.heap.size + 1 := by
    rcases hat with h | h
    · exact fun e => ownBlock_lt R (k := w.heap.size + 1) (by omega) (by rw [h, e])
    · omega
  have O1 : Only (fun k => k = p ∨ v.ownBlock = some k) w w1 := (((Only.refl _ w).alloc _).alloc _).alloc _ |>.trans (Only.grownBy hgrow1 (fun k hk => ⟨.inr hk, fun o ho => by
    obtain ⟨_, h0 | ⟨g0, cap0, cur0, hv0, _, hh0, _⟩⟩ := ((R.alloc _).alloc _).alloc _
    · rw [h0.1] at hk; cases hk
    · rw [hv0] at hk; cases hk; rw [hh0] at ho; cases ho; rfl⟩))
  have h_p2 := h_p.set 0 (.slice (some ⟨g, 0, none⟩) (q + 1) cap)
  have h_e2 := h_e.other ⟨p, 0, none⟩ (.slice (some ⟨g, 0, none⟩) (q + 1) cap) (by dsimp only; omega)
  have h_n2 := h_n.other ⟨p, 0, none⟩ (.slice (some ⟨g, 0, none⟩) (q + 1) cap) (by dsimp only; omega)
  have R2 := hown1.kept (grownBy_setCell' w1 p (.slice (some ⟨g, 0, none⟩) (q + 1) cap)) (.inr (fun h => gp (by simpa [Value.ownBlock] using h)))
  have O2 : Only (fun k => k = p ∨ v.ownBlock = some k) w (w1.setCell ⟨p, 0, none⟩ (.slice (some ⟨g, 0, none⟩) (q + 1) cap)) := O1.setCell (.inl (.inl rfl)) _
  have zs2 : w.heap.size + 3 ≤ (w1.setCell ⟨p, 0, none⟩ (.slice (some ⟨g, 0, none⟩) (q + 1) cap)).heap.size := by
    refine Nat.le_trans ?_ ((Below.refl 0 w1).setCell (p := ⟨p, 0, none⟩) (Nat.zero_le _) _).size
    simpa using zs
  have HA := hid hat
  clear d0 d1 f0 zs hlp hgrow1 hown1 h_p h_e h_n hat hlt O1 c0 c1 R H pv hi hz0 hz1 hz2
  generalize w1.setCell ⟨p, 0, none⟩ (.slice (some ⟨g, 0, none⟩) (q + 1) cap) = w2 at *
  have r0 : w2.cell? ⟨g, q, none⟩ = some (ptr (w.heap.size + 1)) := owns_get R2 (by simp [hps])
  have c0 := h_p2.cell (i := 0) rfl
  have c1 := h_p2.cell (i := 1) rfl
  have e0 := h_e2.cell (i := 0) rfl
  have e1 := h_e2.cell (i := 1) rfl
  have e2 := h_e2.cell (i := 2) rfl
  have n0 := h_n2.cell (i := 0) rfl
  have n1 := h_n2.cell (i := 1) rfl
  have n2 := h_n2.cell (i := 2) rfl
  have g0 := h_n2.frozen 0
  have g1 := h_n2.frozen 1
  have g2 := h_n2.frozen 2
  have fp1 := h_p2.frozen 1
  have HR := hid R2
  have HO := hid O2
  clear R2 O2
  have b0 : (0 : Int) ≤ (q : Int) := by omega
  have b1 : (q : Int) < ((q + 1 : Nat) : Int) := by omega
  have b2 : (q : Int) < (q : Int) + 1 := by omega
  have t4 : Int.tdiv (n : Int) 64 = (q : Int) := by rw [Int.tdiv_eq_ediv_of_nonneg (by omega)]; exact t3
  have t5 : IntKind.i64.wrap (q : Int) = (q : Int) := IntWalk.i64_in _ (by omega)
  go_region_held3 (fun w' => w'.cell? ⟨p, 0, none⟩ = some (.slice (some ⟨g, 0, none⟩) (q + 1) cap) ∧ w'.cell? ⟨p, 1, none⟩ = some (.int .i64 (n : Int)) ∧ w'.cell? ⟨g, q, none⟩ = some (ptr (w.heap.size + 1)) ∧ w'.cell? ⟨w.heap.size, 0, none⟩ = some (.int .i64 e.k) ∧ w'.cell? ⟨w.heap.size, 1, none⟩ = some (.int .i64 e.a) ∧ w'.cell? ⟨w.heap.size, 2, none⟩ = some (.int .i64 e.b)) ((first | (go_simp; done) | go_keep)) (fail)
  go_wp2
  go_end0
  have np : p ≠ w.heap.size + 1 := by omega
  have O3 : Only (fun k => k = p ∨ k = w.heap.size + 1) w2 ((((w2.setCell ⟨w.heap.size + 1, 0, none⟩ (.int .i64 e.k)).setCell ⟨w.heap.size + 1, 1, none⟩ (.int .i64 e.a)).setCell ⟨w.heap.size + 1, 2, none⟩ (.int .i64 e.b)).drew.setCell ⟨p, 1, none⟩ (.int .i64 ((n : Int) + 1))) :=
    (((((Only.refl _ w2).setCell (.inl (.inr rfl)) _).setCell (.inl (.inr rfl)) _).setCell (.inl (.inr rfl)) _).drew).setCell (.inl (.inl rfl)) _
  exact ⟨_, g, cap, rfl, ((((h_p2.other _ _ np).other _ _ np).other _ _ np).drew).set 1 _, owns_only HR.out O3 (fun k hk => by
    obtain rfl : g = k := by simpa [Value.ownBlock] using hk
    rintro (h | h)
    · exact gp h
    · exact gn h), (((h_n2.set 0 _).set 1 _).set 2 _).drew.other _ _ (Ne.symm np), HA.out, HO.out.then' O3 (fun i hi => by
    rcases hi with rfl | rfl
    · exact .inl (.inl rfl)
    · exact .inr (by omega))⟩

set_option maxRecDepth 100000 in
set_option maxHeartbeats 2000000 in
theorem add_old (p n q r b g cap : Nat) (cs : List Value) (e : Ev) (w : World) (hq : n = 64 * q + r) (hr : 0 < r) (hr2 : r < 64) (hn : n < 1000000000) (H : Blk w p 47 [.slice (some ⟨g, 0, none⟩) (q + 1) cap, .int .i64 (n : Int)])
    (r0 : w.cell? ⟨g, q, none⟩ = some (ptr b)) (HB : Blk w b 54 cs) (hcs : cs.length = 192) (np : p ≠ b) (gn : ¬ g = b) :
    Calls Try.prog 26 #[ptr p, e.val] w fun e' w' => ∃ x, e' = .returned x ∧ Blk w' p 47 [.slice (some ⟨g, 0, none⟩) (q + 1) cap, .int .i64 ((n + 1 : Nat) : Int)] ∧
      Blk w' b 54 (((cs.set (r * 3) (.int .i64 e.k)).set (r * 3 + 1) (.int .i64 e.a)).set (r * 3 + 2) (.int .i64 e.b)) ∧ Only (fun k => k = p ∨ k = b) w w' := by
  have t2 : (n : Int) % 64 = (r : Int) := by omega
  have t1 : Int.tmod (n : Int) 64 = (r : Int) := by rw [Int.tmod_eq_emod_of_nonneg (by omega)]; omega
  have t6 : ((r : Int) == 0) = false := by simp; omega
  have t3 : (n : Int) / 64 = (q : Int) := by omega
  have t4 : Int.tdiv (n : Int) 64 = (q : Int) := by rw [Int.tdiv_eq_ediv_of_nonneg (by omega)]; exact t3
  have t5 : IntKind.i64.wrap (q : Int) = (q : Int) := IntWalk.i64_in _ (by omega)
  have t7 : IntKind.i64.wrap (r : Int) = (r : Int) := IntWalk.i64_in _ (by omega)
  have b0 : (0 : Int) ≤ (q : Int) := by omega
  have b1 : (q : Int) < ((q + 1 : Nat) : Int) := by omega
  have b2 : (q : Int) < (q : Int) + 1 := by omega
  have b3 : (0 : Int) ≤ (r : Int) := by omega
  have b4 : (r : Int) < 64 := by omega
  have z : p < w.heap.size := H.lt
  have zb : b < w.heap.size := HB.lt
  have zg : g < w.heap.size := World.block_lt_of_cell? _ _ r0
  have c0 := H.cell (i := 0) rfl
  have c1 := H.cell (i := 1) rfl
  have fp1 := H.frozen 1
  obtain ⟨x0, hx0⟩ : ∃ x, cs[r * 3]? = some x := ⟨cs[r * 3], List.getElem?_eq_getElem (by omega)⟩
  obtain ⟨x1, hx1⟩ : ∃ x, cs[r * 3 + 1]? = some x := ⟨cs[r * 3 + 1], List.getElem?_eq_getElem (by omega)⟩
  obtain ⟨x2, hx2⟩ : ∃ x, cs[r * 3 + 2]? = some x := ⟨cs[r * 3 + 2], List.getElem?_eq_getElem (by omega)⟩
  have n0 := HB.cell hx0
  have n1 := HB.cell hx1
  have n2 := HB.cell hx2
  have g0 := HB.frozen (r * 3)
  have g1 := HB.frozen (r * 3 + 1)
  have g2 := HB.frozen (r * 3 + 2)
  have HQ := hid hq
  clear hq hx0 hx1 hx2 hcs
  go_enter Try.func26, Try.ntmps26
  go_wp2
  go_region_held3 (fun w' => w'.cell? ⟨p, 0, none⟩ = some (.slice (some ⟨g, 0, none⟩) (q + 1) cap) ∧ w'.cell? ⟨p, 1, none⟩ = some (.int .i64 (n : Int)) ∧ w'.cell? ⟨g, q, none⟩ = some (ptr b) ∧ w'.cell? ⟨w.heap.size, 0, none⟩ = some (.int .i64 e.k) ∧ w'.cell? ⟨w.heap.size, 1, none⟩ = some (.int .i64 e.a) ∧ w'.cell? ⟨w.heap.size, 2, none⟩ = some (.int .i64 e.b)) ((first | (go_simp; done) | go_keep)) (fail)
  go_wp2
  go_end0
  exact ⟨_, rfl, (((((H.other _ _ np).other _ _ np).other _ _ np).set 1 _).alloc _).drew, (((((HB.set _ _).set _ _).set _ _).other _ _ (Ne.symm np)).alloc _).drew,
    ((((((Only.refl _ w).setCell (.inl (.inr rfl)) _).setCell (.inl (.inr rfl)) _).setCell (.inl (.inr rfl)) _).setCell (.inl (.inl rfl)) _).alloc _).drew⟩

theorem BlkEv.snoc {w : World} {b j : Nat} {l : List Ev} {e : Ev} (h : BlkEv w b j l) (hj : 64 * j + 64 ≤ l.length) : BlkEv w b j (l ++ [e]) := by
  obtain ⟨cs, h1, h2, h3⟩ := h
  refine ⟨cs, h1, h2, fun i x hi hx => h3 i x hi ?_⟩
  rwa [List.getElem?_append_left (by omega)] at hx
theorem BlkEv.first {w : World} {b j : Nat} {l : List Ev} {e : Ev} (hj : l.length = 64 * j) (h : Blk w b 54 (((zl.set 0 (.int .i64 e.k)).set 1 (.int .i64 e.a)).set 2 (.int .i64 e.b))) : BlkEv w b j (l ++ [e]) := by
  refine ⟨_, by simp [zl_len], h, fun i x hi hx => ?_⟩
  rw [List.getElem?_append_right (by omega)] at hx
  by_cases h0 : i = 0
  · subst h0
    rw [hj] at hx
    simp at hx
    subst hx
    simp [zl_len]
  · rw [List.getElem?_eq_none (by simp; omega)] at hx; cases hx
theorem BlkEv.next {w : World} {b j r : Nat} {l : List Ev} {e : Ev} {cs : List Value} (hj : l.length = 64 * j + r) (hr : r < 64) (hcs : cs.length = 192)
    (h3 : ∀ i e, i < 64 → l[64 * j + i]? = some e → cs[i * 3]? = some (.int .i64 e.k) ∧ cs[i * 3 + 1]? = some (.int .i64 e.a) ∧ cs[i * 3 + 2]? = some (.int .i64 e.b))
    (h : Blk w b 54 (((cs.set (r * 3) (.int .i64 e.k)).set (r * 3 + 1) (.int .i64 e.a)).set (r * 3 + 2) (.int .i64 e.b))) : BlkEv w b j (l ++ [e]) := by
  refine ⟨_, by simp [hcs], h, fun i x hi hx => ?_⟩
  rcases Nat.lt_trichotomy i r with hlt | rfl | hgt
  · rw [List.getElem?_append_left (by omega)] at hx
    obtain ⟨a0, a1, a2⟩ := h3 i x hi hx
    refine ⟨?_, ?_, ?_⟩
    · rw [List.getElem?_set_ne (by omega), List.getElem?_set_ne (by omega), List.getElem?_set_ne (by omega)]; exact a0
    · rw [List.getElem?_set_ne (by omega), List.getElem?_set_ne (by omega), List.getElem?_set_ne (by omega)]; exact a1
    · rw [List.getElem?_set_ne (by omega), List.getElem?_set_ne (by omega), List.getElem?_set_ne (by omega)]; exact a2
  · rw [List.getElem?_append_right (by omega)] at hx
    have e0 : 64 * j + i - l.length = 0 := by omega
    rw [e0] at hx
    simp at hx
    subst hx
    refine ⟨?_, ?_, ?_⟩
    · rw [List.getElem?_set_ne (by omega), List.getElem?_set_ne (by omega), List.getElem?_set_self (by omega)]
    · rw [List.getElem?_set_ne (by omega), List.getElem?_set_self (by simp; omega)]
    · rw [List.getElem?_set_self (by simp; omega)]
  · rw [List.getElem?_eq_none (by simp; omega)] at hx; cases hx
/-- A tape, its blocks shut in fs. -/
def Tape (w : World) (p : Nat) (fs : List Nat) (l : List Ev) : Prop := ∃ v bs, TapeAt w p v bs l ∧ fs = fp p v bs
theorem add_any (p : Nat) (fs : List Nat) (l : List Ev) (e : Ev) (w : World) (h : Tape w p fs l) (hl : l.length < 1000000000) :
    Calls Try.prog 26 #[ptr p, e.val] w fun e' w' => ∃ x fs', e' = .returned x ∧ Tape w' p fs' (l ++ [e]) ∧ Only (fun k => k ∈ fs) w w' ∧ ∀ k ∈ fs', k ∈ fs ∨ w.heap.size ≤ k := by
  obtain ⟨v, bs, h, rfl⟩ := h
  have hlt := h.lt
  by_cases hr : l.length % 64 = 0
  · have hb : bs.length = l.length / 64 := by have := h.lo; have := h.hi; omega
    refine (add_new p l.length (l.length / 64) v (bs.map ptr) e w (by omega) hl h.head (hb ▸ h.row) (by simp [hb]) (Ne.symm h.pv)).mono ?_
    rintro e' w' ⟨x, g, cap, rfl, h1, h2, h3, h4, h5⟩
    have hg : some g ≠ some p ∧ g ∉ bs ∧ g ≠ w.heap.size + 1 := by
      rcases h4 with h4 | h4
      · exact ⟨fun e => h.pv (by rw [h4, e]), fun e => h.vb _ e h4, fun e => by have := owns_lt h.row h4; omega⟩
      · exact ⟨fun e => by cases e; have := h.head.lt; omega, fun e => by have := hlt g (mem_fp.2 (.inr (.inr e))); omega, by omega⟩
    have hnb : w.heap.size + 1 ∉ bs := fun e => by have := hlt _ (mem_fp.2 (.inr (.inr e))); omega
    refine ⟨x, fp p (.slice (some ⟨g, 0, none⟩) (l.length / 64 + 1) cap) (bs ++ [w.heap.size + 1]), rfl, ⟨_, _, ⟨?_, ?_, ?_, ?_, ?_, ?_, ?_, ?_, ?_⟩, rfl⟩, ?_, ?_⟩
    · rw [List.length_append]; exact h1
    · rw [List.length_append, hb, List.map_append]; exact h2
    · exact hg.1
    · intro e
      rcases List.mem_append.1 e with e | e
      · exact h.pb e
      · have := h.head.lt; simp at e; omega
    · intro b hb1 e
      obtain rfl : g = b := by simpa [Value.ownBlock] using e
      rcases List.mem_append.1 hb1 with e | e
      · exact hg.2.1 e
      · simp at e; exact hg.2.2 e
    · exact List.nodup_append.2 ⟨h.nd, by simp, fun a ha b hb => by simp at hb; subst hb; exact fun e => hnb (e ▸ ha)⟩
    · simp [hb]; omega
    · simp [hb]; omega
    · intro j b hj
      rcases Nat.lt_or_ge j bs.length with hjl | hjl
      · rw [List.getElem?_append_left hjl] at hj
        refine BlkEv.snoc ((h.evs j b hj).only h5 ?_) (by omega)
        have hm := List.mem_of_getElem? hj
        rintro (e | e)
        · exact h.pb (e ▸ hm)
        · exact h.vb b hm e
      · rw [List.getElem?_append_right hjl] at hj
        have hj2 : j = bs.length := by
          rcases Nat.lt_or_ge bs.length j with h9 | h9
          · rw [List.getElem?_eq_none (by simp; omega)] at hj; cases hj
          · omega
        subst hj2
        simp at hj
        subst hj
        exact BlkEv.first (by omega) h3
    · exact h5.mono (fun k hk => mem_fp.2 (hk.elim .inl (fun h => .inr (.inl h))))
    · intro k hk
      rcases mem_fp.1 hk with rfl | hk | hk
      · exact .inl (mem_fp.2 (.inl rfl))
      · obtain rfl : g = k := by simpa [Value.ownBlock] using hk
        rcases h4 with h4 | h4
        · exact .inl (mem_fp.2 (.inr (.inl h4)))
        · exact .inr (by omega)
      · rcases List.mem_append.1 hk with hk | hk
        · exact .inl (mem_fp.2 (.inr (.inr hk)))
        · simp at hk; exact .inr (by omega)
  · have hb : bs.length = l.length / 64 + 1 := by have := h.lo; have := h.hi; omega
    obtain ⟨g, cap, rfl, _, _⟩ := h.row.form (by omega)
    obtain ⟨b, hbq⟩ : ∃ b, bs[l.length / 64]? = some b := ⟨bs[l.length / 64], List.getElem?_eq_getElem (by omega)⟩
    have hm := List.mem_of_getElem? hbq
    obtain ⟨cs, hcs, hB, hev⟩ := h.evs _ _ hbq
    have hpb : p ≠ b := fun e => h.pb (e ▸ hm)
    have hgb : ¬ g = b := fun e => h.vb b hm (by simp [Value.ownBlock, e])
    have hhead := h.head
    rw [hb] at hhead
    refine (add_old p l.length (l.length / 64) (l.length % 64) b g cap cs e w (by omega) (by omega) (by omega) hl hhead (owns_get h.row (by simp [hbq])) hB hcs hpb hgb).mono ?_
    rintro e' w' ⟨x, rfl, h1, h2, h3⟩
    refine ⟨x, fp p (.slice (some ⟨g, 0, none⟩) bs.length cap) bs, rfl, ⟨_, _, ⟨?_, ?_, h.pv, h.pb, h.vb, h.nd, ?_, ?_, ?_⟩, rfl⟩, ?_, fun k hk => .inl hk⟩
    · rw [List.length_append, hb]; exact h1
    · refine owns_only h.row h3 (fun k hk => ?_)
      rintro (e | e)
      · exact h.pv (e ▸ hk)
      · exact h.vb b hm (e ▸ hk)
    · simp; omega
    · simp; omega
    · intro j b' hj
      by_cases hjq : j = l.length / 64
      · subst hjq
        obtain rfl : b = b' := Option.some.inj (hbq.symm.trans hj)
        exact BlkEv.next (r := l.length % 64) (by omega) (by omega) hcs hev h2
      · have hjl : j < bs.length := by
          rcases Nat.lt_or_ge j bs.length with h9 | h9
          · exact h9
          · rw [List.getElem?_eq_none h9] at hj; cases hj
        refine BlkEv.snoc ((h.evs j b' hj).only h3 ?_) (by omega)
        have hm' := List.mem_of_getElem? hj
        rintro (e | e)
        · exact h.pb (e ▸ hm')
        · subst e
          exact hjq ((List.getElem?_inj hjl h.nd).1 (hj.trans hbq.symm))
    · exact h3.mono (fun k hk => mem_fp.2 (hk.elim .inl (fun e => .inr (.inr (e ▸ hm)))))
theorem Tape.grow {w w' : World} {B p : Nat} {fs : List Nat} {l : List Ev} (h : Tape w p fs l) (g : Grow B w w') : Tape w' p fs l := by
  obtain ⟨v, bs, h1, h2⟩ := h; exact ⟨v, bs, h1.grow g, h2⟩
theorem Tape.alloc {w : World} {p : Nat} {fs : List Nat} {l : List Ev} (h : Tape w p fs l) (o : Obj) : Tape (w.alloc o) p fs l := h.grow ((Grow.refl 0 w).alloc o)
theorem Tape.drew {w : World} {p : Nat} {fs : List Nat} {l : List Ev} (h : Tape w p fs l) : Tape w.drew p fs l := h.grow (Grow.refl 0 w).drew
theorem Tape.call {w w' : World} {p : Nat} {fs : List Nat} {l : List Ev} (h : Tape w p fs l) (hb : Below w.heap.size w w') : Tape w' p fs l := h.grow (Below.grow hb 0)
theorem Tape.only {w w' : World} {F : Nat → Prop} {p : Nat} {fs : List Nat} {l : List Ev} (h : Tape w p fs l) (g : Only F w w') (hF : ∀ k ∈ fs, ¬ F k) : Tape w' p fs l := by
  obtain ⟨v, bs, h1, rfl⟩ := h; exact ⟨v, bs, h1.only g hF, rfl⟩
theorem Tape.lt {w : World} {p : Nat} {fs : List Nat} {l : List Ev} (h : Tape w p fs l) : ∀ k ∈ fs, k < w.heap.size := by
  obtain ⟨v, bs, h1, rfl⟩ := h; exact h1.lt
theorem Tape.mem {w : World} {p : Nat} {fs : List Nat} {l : List Ev} (h : Tape w p fs l) : p ∈ fs := by
  obtain ⟨v, bs, h1, rfl⟩ := h; exact mem_fp.2 (.inl rfl)
theorem Tape.len {w : World} {p : Nat} {fs : List Nat} {l : List Ev} (h : Tape w p fs l) : ∃ v, Blk w p 47 [v, .int .i64 (l.length : Int)] := by
  obtain ⟨v, bs, h1, rfl⟩ := h; exact ⟨v, h1.head⟩
theorem Tape.new {w : World} {p : Nat} (h : Blk w p 47 [.slice none 0 0, .int .i64 0]) : Tape w p [p] [] :=
  ⟨.slice none 0 0, [], { head := h, row := World.ownsRow_nil _ _ _ _, pv := (by simp [Value.ownBlock]), pb := (by simp), vb := (by simp), nd := List.nodup_nil, lo := (by simp), hi := (by simp), evs := (by simp) }, rfl⟩
/-- What is needed to read the event with the index i. -/
theorem Tape.get {w : World} {p : Nat} {fs : List Nat} {l : List Ev} (h : Tape w p fs l) {i : Nat} {e : Ev} (hi : l[i]? = some e) :
    ∃ g n cap b, w.cell? ⟨p, 0, none⟩ = some (.slice (some ⟨g, 0, none⟩) n cap) ∧ i / 64 < n ∧ w.cell? ⟨g, i / 64, none⟩ = some (ptr b) ∧
      w.cell? ⟨b, i % 64 * 3, none⟩ = some (.int .i64 e.k) ∧ w.cell? ⟨b, i % 64 * 3 + 1, none⟩ = some (.int .i64 e.a) ∧ w.cell? ⟨b, i % 64 * 3 + 2, none⟩ = some (.int .i64 e.b) := by
  obtain ⟨v, bs, h, rfl⟩ := h
  have hil : i < l.length := by
    rcases Nat.lt_or_ge i l.length with h9 | h9
    · exact h9
    · rw [List.getElem?_eq_none h9] at hi; cases hi
  have hlo := h.lo
  obtain ⟨g, cap, rfl, _, _⟩ := h.row.form (by omega)
  obtain ⟨b, hb⟩ : ∃ b, bs[i / 64]? = some b := ⟨bs[i / 64], List.getElem?_eq_getElem (by omega)⟩
  obtain ⟨cs, hcs, hB, hev⟩ := h.evs _ _ hb
  obtain ⟨e0, e1, e2⟩ := hev (i % 64) e (by omega) (by rwa [Nat.div_add_mod])
  exact ⟨g, bs.length, cap, b, h.head.cell (i := 0) rfl, by omega, owns_get h.row (by simp [hb]), hB.cell e0, hB.cell e1, hB.cell e2⟩
end Go.Proofs.Ytbkpiegkiokdlaa
