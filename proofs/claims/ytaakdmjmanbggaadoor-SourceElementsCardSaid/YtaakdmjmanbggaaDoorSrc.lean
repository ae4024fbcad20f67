/-
  Slices of bytes and sources in memory; New, Left and Take, and the reference's Take.
-/
import Derived.Test.YtaakdmjmanbggaaDoorByte
import Derived.Test.YtaakdmjmanbggaaDoorKit
import Derived.Maps.AppendAt
import Derived.Lib.SliceRun
import Derived.OwnWalk
namespace Go.Proofs.YtaakdmjmanbggaaDoor
open Go.RowKit

/-- Bytes in a row. -/
def ByteAt (w : World) (g off : Nat) (l : List Nat) : Prop := ∀ j x : Nat, l[j]? = some x → x < 256 ∧ w.cell? ⟨g, off + j, none⟩ = some (.int .u8 (x : Int))
def ByteSl (w : World) (v : Value) (l : List Nat) : Prop := ∃ a cap, v = .slice a l.length cap ∧ l.length ≤ cap ∧ (l = [] ∨ ∃ g off, a = some ⟨g, off, none⟩ ∧ ByteAt w g off l)
/-- A block that holds one slice of bytes of block g: a source. -/
def Src (w : World) (t : TypeId) (s g : Nat) (l : List Nat) : Prop := ∃ a cap, Blk w s t [.slice a l.length cap] ∧ ByteSl w (.slice a l.length cap) l ∧ ∀ ad, a = some ad → ad.block = g

section
variable {w w' : World} {l : List Nat} {v : Value} {g off : Nat}
theorem ByteSl.byt (h : ByteSl w v l) : Byt l := by
  intro x hx
  obtain ⟨a, cap, _, _, h0 | ⟨g, off, _, he⟩⟩ := h
  · rw [h0] at hx; cases hx
  · obtain ⟨j, hj, rfl⟩ := List.getElem_of_mem hx
    exact (he j _ (List.getElem?_eq_getElem hj)).1
theorem ByteAt.below (h : ByteAt w g off l) (hb : Below w.heap.size w w') : ByteAt w' g off l := fun j x hj => by
  obtain ⟨h1, h2⟩ := h j x hj
  exact ⟨h1, (hb.cell (World.block_lt_of_cell? w _ h2)).trans h2⟩
theorem ByteSl.below (h : ByteSl w v l) (hb : Below w.heap.size w w') : ByteSl w' v l := by
  obtain ⟨a, cap, hv, hc, h0 | ⟨g, off, ha, he⟩⟩ := h
  · exact ⟨a, cap, hv, hc, .inl h0⟩
  · exact ⟨a, cap, hv, hc, .inr ⟨g, off, ha, he.below hb⟩⟩
/-- Behind a store to blocks that hold no bytes. -/
theorem ByteSl.only {F : Nat → Prop} (h : ByteSl w v l) (ho : Only F w w') (hF : ∀ k o x, F k → w.cell? ⟨k, o, none⟩ ≠ some (.int .u8 x)) : ByteSl w' v l := by
  obtain ⟨a, cap, hv, hc, h0 | ⟨g, off, ha, he⟩⟩ := h
  · exact ⟨a, cap, hv, hc, .inl h0⟩
  · refine ⟨a, cap, hv, hc, .inr ⟨g, off, ha, fun j x hj => ?_⟩⟩
    obtain ⟨h1, h2⟩ := he j x hj
    exact ⟨h1, ho.cell (fun hf => hF g _ _ hf h2) h2⟩
theorem Src.nobyte {t : TypeId} {s : Nat} (h : Src w t s g l) : ∀ (k o : Nat) (x : Int), k = s → w.cell? ⟨k, o, none⟩ ≠ some (.int .u8 x) := by
  rintro k o x rfl e
  obtain ⟨a, cap, hX, _⟩ := h
  unfold Blk at hX
  rw [World.cell?] at e
  simp only [hX] at e
  match o with
  | 0 => simp at e
  | o + 1 => simp at e
theorem ByteSl.src {t : TypeId} {s g' : Nat} {l' : List Nat} (h : ByteSl w v l) (hs : Src w t s g' l') (ho : Only (fun k => k = s) w w') : ByteSl w' v l := h.only ho hs.nobyte
theorem Src.below {t : TypeId} {s : Nat} (h : Src w t s g l) (hb : Below w.heap.size w w') : Src w' t s g l := by
  obtain ⟨a, cap, hX, hS, hg⟩ := h
  exact ⟨a, cap, hX.keep hb, hS.below hb, hg⟩
theorem Src.other {t t' : TypeId} {s s' g' : Nat} {l' : List Nat} (h : Src w t s g l) (hs : Src w t' s' g' l') (hne : s ≠ s') (ho : Only (fun k => k = s') w w') : Src w' t s g l := by
  obtain ⟨a, cap, hX, hS, hg⟩ := h
  exact ⟨a, cap, hX.only ho hne, hS.src hs ho, hg⟩
theorem Src.byt {t : TypeId} {s : Nat} (h : Src w t s g l) : Byt l := by
  obtain ⟨a, cap, _, hS, _⟩ := h
  exact hS.byt
/-- A part of a slice of bytes. -/
theorem ByteSl.part {a : Option Addr} {n c : Nat} (h : ByteSl w (.slice a n c) l) (lo k c' : Nat) (hlo : lo + k ≤ l.length) (hc : k ≤ c') : ByteSl w (.slice (a.map (·.add lo)) k c') ((l.drop lo).take k) := by
  obtain ⟨a', cap, hv, hcp, hr⟩ := h
  have hlen : ((l.drop lo).take k).length = k := by simp; omega
  cases hv
  refine ⟨_, c', by rw [hlen], by omega, ?_⟩
  rcases hr with h0 | ⟨g, off, ha, he⟩
  · left; rw [h0]; simp
  · right
    refine ⟨g, off + lo, by rw [ha]; simp [Addr.add], fun j x hj => ?_⟩
    have hjk : j < k := by have := (List.getElem?_eq_some_iff.1 hj).1; omega
    rw [List.getElem?_take_of_lt hjk, List.getElem?_drop] at hj
    have := he _ _ hj
    rw [Nat.add_assoc]; exact this
theorem ByteSl.head {a : Option Addr} {n c k : Nat} (h : ByteSl w (.slice a n c) l) (hk : k ≤ l.length) (hc : k ≤ c) : ByteSl w (.slice a k c) (l.take k) := by
  have h1 := h.part 0 k c (by omega) hc
  have e : a.map (·.add 0) = a := by cases a with
    | none => rfl
    | some x => simp [Addr.add]
  rw [e, List.drop_zero] at h1
  exact h1
theorem ByteSl.nil (w : World) (a : Option Addr) (c : Nat) : ByteSl w (.slice a 0 c) [] := ⟨a, c, rfl, Nat.zero_le _, .inl rfl⟩
theorem ByteSl.tail {a : Option Addr} {n c k : Nat} (h : ByteSl w (.slice a n c) l) (hk : k ≤ l.length) (hc : l.length ≤ c) : ByteSl w (.slice (a.map (·.add k)) (l.length - k) (c - k)) (l.drop k) := by
  have h1 := h.part k (l.length - k) (c - k) (by omega) (by omega)
  rw [List.take_of_length_le (by simp)] at h1
  exact h1
theorem ByteSl.tail0 {k : Nat} (w : World) (a : Option Addr) (hk : l.length ≤ k) : ByteSl w (.slice a (l.length - k) 0) (l.drop k) := by
  rw [List.drop_of_length_le hk, show l.length - k = 0 by omega]; exact ByteSl.nil w a 0
theorem Src.put {t : TypeId} {s : Nat} {l0 : List Nat} {a : Option Addr} {n c : Nat} (hS : Src w t s g l0) (h : ByteSl w (.slice a n c) l) (hg : ∀ ad, a = some ad → ad.block = g) : Src (w.setCell ⟨s, 0, none⟩ (.slice a n c)) t s g l := by
  obtain ⟨a', cap, e, hc, _⟩ := id h
  cases e
  obtain ⟨a0, c0, hX, _⟩ := id hS
  exact ⟨_, _, hX.set 0 _, h.src hS ((Only.refl (fun k => k = s) w).setCell (p := ⟨s, 0, none⟩) (.inl rfl) _), hg⟩
theorem map_block {a : Option Addr} {k : Nat} (h : ∀ ad, a = some ad → ad.block = g) : ∀ ad, a.map (·.add k) = some ad → ad.block = g := by
  intro ad e
  cases a with
  | none => cases e
  | some x =>
    have e' : x.add k = ad := Option.some.inj e
    rw [← e', ← h x rfl]
    unfold Addr.add
    split <;> rfl
theorem Src.lt {t : TypeId} {s : Nat} (h : Src w t s g l) : s < w.heap.size := by obtain ⟨_, _, hX, _⟩ := h; exact hX.lt
theorem Src.blt {t : TypeId} {s : Nat} (h : Src w t s g l) (hl : 0 < l.length) : g < w.heap.size := by
  obtain ⟨a, c, _, hS, hg⟩ := h
  obtain ⟨a', cap, e, _, h0 | ⟨g', off, ha, he⟩⟩ := id hS
  · rw [h0] at hl; exact absurd hl (Nat.not_lt_zero _)
  · cases e
    subst ha
    rw [← hg _ rfl]
    exact World.block_lt_of_cell? w _ (he 0 _ (List.getElem?_eq_getElem hl)).2
/-- Behind stores to other blocks. -/
theorem Src.apart {F : Nat → Prop} {t : TypeId} {s : Nat} (h : Src w t s g l) (ho : Only F w w') (hs : ¬ F s) (hg : ¬ F g) : Src w' t s g l := by
  obtain ⟨a, cap, hX, hS, hb⟩ := h
  refine ⟨a, cap, hX.only ho hs, ?_, hb⟩
  obtain ⟨a', c, e, hc, h0 | ⟨g', off, ha, he⟩⟩ := hS
  · cases e; exact ⟨a, cap, rfl, hc, .inl h0⟩
  · cases e
    subst ha
    refine ⟨_, cap, rfl, hc, .inr ⟨g', off, rfl, fun j x hj => ?_⟩⟩
    obtain ⟨h1, h2⟩ := he j x hj
    have e2 : g' = g := hb _ rfl
    exact ⟨h1, ho.cell (by rw [e2]; exact hg) h2⟩
theorem Only.under {F : Nat → Prop} {A : World} (h : Only F A w) (hb : Below A.heap.size w w') : Only F A w' :=
  ⟨hb.os.trans h.os, hb.tape.trans h.tape, hb.output.trans h.output, Nat.le_trans h.size hb.size, fun k o hk hc => (hb.block k (heap_lt hk)).trans (h.block k o hk hc)⟩
theorem Src.under {n : Nat} {t : TypeId} {s : Nat} (h : Src w t s g l) (hb : Below n w w') (hs : s < n) (hg : g < n) : Src w' t s g l := by
  obtain ⟨a, cap, hX, hS, hk⟩ := h
  refine ⟨a, cap, hX.below hb hs, ?_, hk⟩
  obtain ⟨a', c, e, hc, h0 | ⟨g', off, ha, he⟩⟩ := hS
  · cases e; exact ⟨a, cap, rfl, hc, .inl h0⟩
  · cases e
    subst ha
    refine ⟨_, cap, rfl, hc, .inr ⟨g', off, rfl, fun j x hj => ?_⟩⟩
    obtain ⟨h1, h2⟩ := he j x hj
    have e2 : g' = g := hk _ rfl
    exact ⟨h1, (hb.cell (by show g' < n; rw [e2]; exact hg)).trans h2⟩
theorem owns_old {base : Nat} {e : TypeId} {size n s : Nat} {xs : List Value} (h : w.ownsRow base e size v n xs) (ho : Only (fun k => k = s) w w') (hs : s < base) : w'.ownsRow base e size v n xs := owns_only h ho (by
  intro k hk e
  subst e
  obtain ⟨_, ⟨h1, _⟩ | ⟨g, cap, cur, hv, hg, _⟩⟩ := h
  · rw [h1] at hk; cases hk
  · rw [hv] at hk; have e : g = k := Option.some.inj hk
    omega)
theorem bys_own {base : Nat} {t : TypeId} {n : Nat} (h : w.ownsRow base t 1 v n (bys l)) (hn : l.length = n) (hb : Byt l) : ByteSl w v l := by
  obtain ⟨_, ⟨hv, h0⟩ | ⟨g, cap, cur, hv, hg, hh, hc, _, _, hx⟩⟩ := h
  · have : l = [] := List.eq_nil_of_length_eq_zero (by omega)
    exact ⟨none, 0, by rw [hv, hn, h0], by omega, .inl this⟩
  · refine ⟨some ⟨g, 0, none⟩, cap, by rw [hv, hn], by omega, .inr ⟨g, 0, rfl, fun j x hj => ⟨hb x (List.mem_of_getElem? hj), ?_⟩⟩⟩
    have hjl := (List.getElem?_eq_some_iff.1 hj).1
    have e1 : (bys l)[j]? = some (.int .u8 (x : Int)) := by unfold bys; rw [List.getElem?_map, hj]; rfl
    rw [← hx, List.getElem?_take_of_lt (by omega)] at e1
    simp only [World.cell?, hh, Nat.zero_add]
    simpa using e1
theorem ByteSl.news {a : Addr} {n c : Nat} (h : ByteSl w (.slice (some a) n c) l) : ∀ j u, (bys l)[j]? = some u → w.cell? (a.add j) = some u := by
  intro j u hj
  obtain ⟨a', cap, hv, _, h0 | ⟨g, off, ha, he⟩⟩ := h
  · rw [h0] at hj; cases hj
  · cases hv
    cases ha
    unfold bys at hj
    rw [List.getElem?_map] at hj
    obtain ⟨x, hx, rfl⟩ := Option.map_eq_some_iff.1 hj
    have ha : (⟨g, off, none⟩ : Addr).add j = ⟨g, off + j, none⟩ := by unfold Addr.add; split <;> simp_all
    rw [ha]; exact (he j x hx).2
end
theorem ByteSl.at {w : World} {l : List Nat} {g off n c : Nat} (h : ByteSl w (.slice (some ⟨g, off, none⟩) n c) l) {j : Nat} (hj : j < l.length) : w.cell? ⟨g, off + j, none⟩ = some (.int .u8 (l.getD j 0 : Int)) := by
  obtain ⟨a', cap, hv, _, h0 | ⟨g', off', ha, he⟩⟩ := h
  · rw [h0] at hj; exact absurd hj (Nat.not_lt_zero _)
  · cases hv
    cases ha
    rw [List.getD_eq_getElem?_getD, List.getElem?_eq_getElem hj]
    exact (he j _ (List.getElem?_eq_getElem hj)).2
theorem ByteSl.lt {w : World} {l : List Nat} {g off n c : Nat} (h : ByteSl w (.slice (some ⟨g, off, none⟩) n c) l) (hl : 0 < l.length) : g < w.heap.size := World.block_lt_of_cell? w _ (h.at hl)
theorem ByteSl.ptr {w : World} {l : List Nat} {a : Option Addr} {n c : Nat} (h : ByteSl w (.slice a n c) l) (hl : 0 < l.length) : ∃ g off, a = some ⟨g, off, none⟩ := by
  obtain ⟨a', cap, hv, _, h0 | ⟨g', off', ha, he⟩⟩ := h
  · rw [h0] at hl; exact absurd hl (Nat.not_lt_zero _)
  · cases hv
    exact ⟨g', off', ha⟩
theorem bys_cells : ∀ l : List Nat, ∀ u ∈ bys l, u.oneCell' = true := fun l u hu => by
  unfold bys at hu
  obtain ⟨x, _, rfl⟩ := List.mem_map.1 hu; rfl
theorem info_u8 : (Tryd.prog.info? 5).map (fun i => (i.zero, i.size, i.bytes)) = some (some (.int .u8 0), 1, 1) := by kernel_rfl
set_option maxRecDepth 100000 in
set_option maxHeartbeats 1000000 in
theorem cloneb_any (v : Value) (l : List Nat) (w : World) (hS : ByteSl w v l) (hl : l.length < 1000000) : Calls Tryd.prog 24 #[v] w (RetOwn 5 1 l.length (bys l) w) := by
  obtain ⟨i0, hi, hz0, hz1, hz2⟩ := info_parts info_u8
  obtain ⟨a, cap, rfl, hc, hrow⟩ := id hS
  have qT : ∀ (w : World) (a : Option Addr) (n c n' c' : Nat), (binOp .eql 22 (.slice a n c) (.slice none n' c')).run Tryd.prog w = .ok (.bool a.isNone) w := fun w a n c n' c' => Lib.run_eql_slice_nil w _ _ a n c n' c' Tryd.underlying22
  obtain ⟨n, hn⟩ : ∃ n, l.length = n := ⟨_, rfl⟩
  rw [hn] at hl hS ⊢
  have HN := hid hn
  clear hc
  cases a with
  | none =>
    have h0 : l = [] := by
      rcases hrow with h | ⟨g, off, h, _⟩
      · exact h
      · cases h
    have HX := hid h0
    clear hrow hS
    go_enter Tryd.func24, Tryd.ntmps24
    go_wp2
    go_ret
    refine ⟨_, rfl, ?_, Below.refl _ _⟩
    rw [HX.out, ← HN.out, HX.out]
    exact ⟨rfl, .inl ⟨rfl, rfl⟩⟩
  | some ad =>
    have HNW := hid (hS.below ((Below.refl _ w).alloc (Nat.le_refl _) (.cells #[] 5))).news
    have HNL := hid ((bys_len l).trans hn)
    clear hrow hn hS
    go_enter Tryd.func24, Tryd.ntmps24
    have OWN : (w.alloc (.cells #[] 5)).ownsRow w.heap.size 5 1 (.slice (some ⟨w.heap.size, 0, none⟩) 0 0) 0 [] := ⟨rfl, .inr ⟨w.heap.size, 0, #[], rfl, Nat.le_refl _, (Blk.new (w := w) (xs := []) (t := 5) rfl : Blk _ w.heap.size 5 []), Nat.le_refl _, by unfold maxLen; omega, rfl, rfl⟩⟩
    go_wp2_with (at_builtin; refine wpList_append_own_at _ rfl _ _ 22 rfl w.heap.size 5 i0 _ 1 1 Tryd.underlying22 hi hz0 hz1 hz2 rfl (by decide) _ 0 [] rfl OWN ad n cap (bys l) rfl (HNL.out.trans (Nat.mul_one n).symm) HNW.out (bys_cells l) (by unfold maxLen; omega) (by omega) (by simp) ?_; intro v1 w1 ho1 hg1 _ _)
    go_ret
    have B1 := Below.grown (((Below.refl w.heap.size w).alloc (Nat.le_refl _) (.cells #[] 5))) hg1 (by simp) (fun j hj => by cases hj; exact Nat.le_refl _)
    refine ⟨_, rfl, ?_, B1⟩
    rw [Nat.zero_add, List.nil_append] at ho1
    exact ho1
end Go.Proofs.YtaakdmjmanbggaaDoor
