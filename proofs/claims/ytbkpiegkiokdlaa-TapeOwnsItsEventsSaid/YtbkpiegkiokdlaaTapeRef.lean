/-
  The reference of layer 2.
-/
import Derived.Test.YtbkpiegkiokdlaaTapeSeq
import Derived.BigQuiet
import Derived.Deep.QuietTactic
import Derived.LoopN
import Derived.Outline
namespace Go.Proofs.Ytbkpiegkiokdlaa
open Go.RowKit

theorem eq_ev_fields (x y : Ev) (w : World) (fs : List Field) (h : fs.map (fun f => (f.name, f.type, f.offset)) = [("Kind", 3, 0), ("A", 3, 1), ("B", 3, 2)]) :
    (Op.eqFields 9999 #[.int .i64 x.k, .int .i64 x.a, .int .i64 x.b] #[.int .i64 y.k, .int .i64 y.a, .int .i64 y.b] fs).run Try.prog w = .ok (decide (x = y)) w := by
  obtain ⟨xk, xa, xb⟩ := x
  obtain ⟨yk, ya, yb⟩ := y
  rcases fs with _ | ⟨f0, _ | ⟨f1, _ | ⟨f2, _ | ⟨f3, fs⟩⟩⟩⟩ <;> simp at h
  obtain ⟨⟨n0, t0, o0⟩, ⟨n1, t1, o1⟩, n2, t2, o2⟩ := h
  simp only [Op.eqFields, n0, n1, n2, t0, t1, t2, o0, o1, o2]
  by_cases h0 : xk = yk <;> by_cases h1 : xa = ya <;> by_cases h2 : xb = yb <;> simp [h0, h1, h2, go_sem]
theorem run_eq_ev (x y : Ev) (w : World) : (Op.equalIn 10000 41 x.val y.val).run Try.prog w = .ok (decide (x = y)) w := by
  rw [run_equalIn_struct w 9999 41 _ _ (by kernel_rfl) (by kernel_rfl)]
  exact eq_ev_fields x y w _ (by kernel_rfl)
set_option maxRecDepth 100000 in
set_option maxHeartbeats 2000000 in
theorem rfirst_any (v1 v2 : Value) (l m : List Ev) (w : World) (h1 : EvSl w v1 l) (h2 : EvSl w v2 m) (hl : l.length < 1000000000) (hm : m.length < 1000000000) :
    Calls Try.prog 17 #[v1, v2] w fun e w' => e = .returned (.int .i64 (fst l m)) ∧ ∃ q, w' = w.drewN q := by
  obtain ⟨e1, c1, rfl, _, h1⟩ := h1
  obtain ⟨e2, c2, rfl, _, h2⟩ := h2
  obtain ⟨n1, hn1⟩ : ∃ n, l.length = n := ⟨_, rfl⟩
  obtain ⟨n2, hn2⟩ : ∃ n, m.length = n := ⟨_, rfl⟩
  rw [hn1] at hl ⊢
  rw [hn2] at hm ⊢
  have H1 := hid h1
  have H2 := hid h2
  have N1 := hid hn1
  have N2 := hid hn2
  clear h1 h2 hn1 hn2
  go_enter Try.func17, Try.ntmps17
  go_wp2
  go_loopw [5] (fun i wr => ∃ k : Nat, k ≤ n1 ∧ k ≤ n2 ∧ i = .int .i64 (k : Int) ∧ l.take k = m.take k ∧ ∃ q, wr = w.drewN q) (fun i _ => n1 - (intOf i).toNat)
  case atStart => exact ⟨0, by omega, by omega, rfl, by simp, 0, rfl⟩
  case round =>
    obtain ⟨k, hk1, hk2, rfl, htk, q, rfl⟩ := hrel
    have HK := hid htk
    clear htk
    have p0 : (0 : Int) ≤ (k : Int) := by omega
    by_cases hlt : k < n1
    · by_cases hlt2 : k < n2
      · obtain ⟨x, hx⟩ : ∃ x, l[k]? = some x := ⟨l[k]'(by rw [N1.out]; exact hlt), List.getElem?_eq_getElem _⟩
        obtain ⟨y, hy⟩ : ∃ x, m[k]? = some x := ⟨m[k]'(by rw [N2.out]; exact hlt2), List.getElem?_eq_getElem _⟩
        obtain ⟨g1, o1, rfl, hv1⟩ : ∃ g o, e1 = some ⟨g, o, none⟩ ∧ EvsAt w g o l := by
          rcases H1.out with h | h
          · subst h; cases hx
          · exact h
        obtain ⟨g2, o2, rfl, hv2⟩ : ∃ g o, e2 = some ⟨g, o, none⟩ ∧ EvsAt w g o m := by
          rcases H2.out with h | h
          · subst h; cases hy
          · exact h
        obtain ⟨a0, a1, a2⟩ := hv1 k x hx
        obtain ⟨b0, b1, b2⟩ := hv2 k y hy
        have p1 : (k : Int) < (n1 : Int) := by omega
        have p2 : (k : Int) < (n2 : Int) := by omega
        have HX := hid hx
        have HY := hid hy
        clear hx hy hv1 hv2
        by_cases hxy : x = y
        · have he : ∀ W : World, (Op.equalIn 10000 41 (.agg #[.int .i64 x.k, .int .i64 x.a, .int .i64 x.b]) (.agg #[.int .i64 y.k, .int .i64 y.a, .int .i64 y.b])).run Try.prog W = .ok true W := fun W => by rw [show true = decide (x = y) by simp [hxy]]; exact run_eq_ev x y W
          have HXY := hid hxy
          clear hxy
          go_wp2
          go_quiet (fail)
          go_wp2
          go_roundw
          case rel => exact ⟨k + 1, by omega, by omega, by go_num, by rw [List.take_add_one, List.take_add_one, HK.out, HX.out, HY.out, HXY.out], _, rfl⟩
          case measure => simp [intOf]; omega
        · have he : ∀ W : World, (Op.equalIn 10000 41 (.agg #[.int .i64 x.k, .int .i64 x.a, .int .i64 x.b]) (.agg #[.int .i64 y.k, .int .i64 y.a, .int .i64 y.b])).run Try.prog W = .ok false W := fun W => by rw [show false = decide (x = y) by simp [hxy]]; exact run_eq_ev x y W
          have HXY := hid hxy
          clear hxy
          go_wp2
          go_quiet (fail)
          go_wp2
          go_ret
          exact ⟨by rw [fst_diff HK.out (by rw [N1.out]; omega) (by rw [N2.out]; omega) (by rw [HX.out, HY.out]; exact fun e => HXY.out (Option.some.inj e))]; rfl, _, World.drewN_drewN _ _ _⟩
      · obtain rfl : k = n2 := by omega
        have d1 : ((k : Int) == (n1 : Int)) = false := by simp; omega
        go_wp2
        go_ret
        exact ⟨by rw [fst_end HK.out (by rw [N1.out]; omega) (by rw [N2.out]; omega) (.inr N2.out.symm) (by rw [N1.out, N2.out]; omega)]; rfl, _, rfl⟩
    · obtain rfl : k = n1 := by omega
      by_cases hlt2 : k = n2
      · obtain rfl : k = n2 := hlt2
        go_wp2
        go_ret
        exact ⟨by rw [fst_eq HK.out N1.out.symm N2.out.symm]; rfl, _, rfl⟩
      · have d1 : ((k : Int) == (n2 : Int)) = false := by simp; omega
        go_wp2
        go_ret
        exact ⟨by rw [fst_end HK.out (by rw [N1.out]; omega) (by rw [N2.out]; omega) (.inl N1.out.symm) (by rw [N1.out, N2.out]; omega)]; rfl, _, rfl⟩
theorem rsame_any (v1 v2 : Value) (l m : List Ev) (w : World) (h1 : EvSl w v1 l) (h2 : EvSl w v2 m) (hl : l.length < 1000000000) (hm : m.length < 1000000000) :
    Calls Try.prog 14 #[v1, v2] w fun e w' => e = .returned (.bool (decide (l = m))) ∧ ∃ q, w' = w.drewN q := by
  have H := hid (rfirst_any v1 v2 l m w h1 h2 hl hm)
  have HF := hid (fst_neg l m)
  clear h1 h2
  go_enter Try.func14, Try.ntmps14
  go_wp2_with (go_at_call 17; refine H.out.mono ?_; rintro e w1 ⟨rfl, q, rfl⟩)
  go_ret
  exact ⟨by rw [← HF.out]; rfl, q, rfl⟩
theorem owns_slice {w : World} {base : Nat} {e : TypeId} {size n : Nat} {v : Value} {xs : List Value} (h : w.ownsRow base e size v n xs) : ∃ a cap, v = .slice a n cap := by
  obtain ⟨_, ⟨rfl, hn⟩ | ⟨g, cap, cur, rfl, _⟩⟩ := h
  · exact ⟨none, 0, by rw [hn]⟩
  · exact ⟨_, cap, rfl⟩
/-- The events of a kind. -/
def ofk (k : Int) (l : List Ev) : List Ev := l.filter fun e => e.k == k
theorem ofk_snoc (k : Int) (l : List Ev) (e : Ev) : ofk k (l ++ [e]) = ofk k l ++ if e.k == k then [e] else [] := by
  unfold ofk; rw [List.filter_append]; simp [List.filter_cons]
theorem ofk_len (k : Int) (l : List Ev) : (ofk k l).length = cnt k l := rfl
set_option maxRecDepth 100000 in
set_option maxHeartbeats 2000000 in
theorem rof_any (v : Value) (l : List Ev) (kind : Int) (w : World) (h1 : EvSl w v l) (hl : l.length < 1000000000) :
    Calls Try.prog 13 #[v, .int .i64 kind] w (RetOwn 41 3 (cnt kind l) (evs (ofk kind l)) w) := by
  obtain ⟨e1, c1, rfl, _, h1⟩ := h1
  obtain ⟨n1, hn1⟩ : ∃ n, l.length = n := ⟨_, rfl⟩
  rw [hn1] at hl ⊢
  obtain ⟨i0, hi, hz0, hz1, hz2⟩ := info_parts info_ev
  have H1 := hid h1
  have N1 := hid hn1
  clear h1 hn1
  go_enter Try.func13, Try.ntmps13
  go_wp2
  go_loopw [5, 6] (fun v i wr => ∃ k : Nat, k ≤ n1 ∧ i = .int .i64 (k : Int) ∧ wr.ownsRow w.heap.size 41 3 v (cnt kind (l.take k)) (evs (ofk kind (l.take k))) ∧ Below w.heap.size w wr) (fun _ i _ => n1 - (intOf i).toNat)
  case atStart => exact ⟨0, by omega, rfl, World.ownsRow_nil _ _ _ _, Below.refl _ _⟩
  case round =>
    obtain ⟨k, hk1, rfl, hown, hB⟩ := hrel
    have p0 : (0 : Int) ≤ (k : Int) := by omega
    by_cases hlt : k < n1
    · obtain ⟨x, hx⟩ : ∃ x, l[k]? = some x := ⟨l[k]'(by rw [N1.out]; exact hlt), List.getElem?_eq_getElem _⟩
      obtain ⟨g1, o1, rfl, hv1⟩ : ∃ g o, e1 = some ⟨g, o, none⟩ ∧ EvsAt w g o l := by
        rcases H1.out with h | h
        · subst h; cases hx
        · exact h
      obtain ⟨a0, a1, a2⟩ := hv1 k x hx
      have zg := World.block_lt_of_cell? _ _ a0
      have d0 := (hB.cell (p := ⟨g1, o1 + k * 3, none⟩) zg).trans a0
      have d1 := (hB.cell (p := ⟨g1, o1 + k * 3 + 1, none⟩) zg).trans a1
      have d2 := (hB.cell (p := ⟨g1, o1 + k * 3 + 2, none⟩) zg).trans a2
      have zB := hB.size
      have p1 : (k : Int) < (n1 : Int) := by omega
      have hc : cnt kind (l.take k) ≤ k := Nat.le_trans (cnt_le _ _) (List.length_take_le _ _)
      have hs : l.take (k + 1) = l.take k ++ [x] := by rw [List.take_add_one, hx]; rfl
      have HC := hid (show cnt kind (l.take (k + 1)) = cnt kind (l.take k) + if x.k == kind then 1 else 0 by rw [hs, cnt_snoc])
      have HE := hid (show evs (ofk kind (l.take (k + 1))) = evs (ofk kind (l.take k)) ++ if x.k == kind then x.cells else [] by rw [hs, ofk_snoc]; split <;> simp [evs_snoc])
      have HO := hid hown
      have HB := hid hB
      clear hx hv1 a0 a1 a2 hs hown hB
      by_cases hk : (x.k == kind) = true
      · go_wp2_with (at_builtin; refine wpList_append_own _ rfl _ _ 22 rfl w.heap.size 41 i0 (.agg #[.int .i64 0, .int .i64 0, .int .i64 0]) 3 24 Try.underlying22 hi hz0 hz1 hz2 rfl (by decide) _ _ _ rfl (HO.out.alloc _) ⟨wr.heap.size, 0, none⟩ 1 1 x.cells rfl rfl (Blk.news (Blk.new (by simp))) (by simp [Value.oneCell', Ev.cells]) (by unfold maxLen; omega) (by omega) (by simp; omega) ?_; intro v' w1 hown' hgrow _; have H2 := hid hown'; have H3 := hid hgrow; clear hown' hgrow)
        go_roundw
        case rel =>
          have hh := hk
          exact ⟨k + 1, by omega, by go_num, by rw [HC.out, HE.out, if_pos hk, if_pos hk]; exact H2.out, Below.grown (HB.out.alloc zB _) H3.out (by simp; omega) (fun b e => (HO.out.lt b e).1)⟩
        case measure => simp [intOf]; omega
      · have hk2 : (x.k == kind) = false := by simpa using hk
        have HK := hid hk
        clear hk
        go_wp2
        go_roundw
        case rel => exact ⟨k + 1, by omega, by go_num, by rw [HC.out, HE.out, if_neg HK.out, if_neg HK.out, List.append_nil]; exact HO.out, HB.out⟩
        case measure => simp [intOf]; omega
    · obtain rfl : k = n1 := by omega
      have he : l.take k = l := List.take_of_length_le (by rw [N1.out]; exact Nat.le_refl _)
      rw [he] at hown
      have HO := hid hown
      have HB := hid hB
      clear hown hB he
      go_wp2
      go_ret
      exact ⟨_, rfl, HO.out, HB.out⟩
set_option maxHeartbeats 1000000 in
theorem rafter_any (v : Value) (l : List Ev) (n : Int) (w : World) (h1 : EvSl w v l) (_hl : l.length < 1000000000) :
    Calls Try.prog 16 #[v, .int .i64 n] w fun e w' => ∃ v', e = .returned v' ∧ EvSl w v' (l.drop n.toNat) ∧ w = w' := by
  have H0 := hid h1
  obtain ⟨e1, c1, rfl, hcap, h1⟩ := h1
  obtain ⟨n1, hn1⟩ : ∃ n, l.length = n := ⟨_, rfl⟩
  rw [hn1] at hcap ⊢
  have H1 := hid h1
  have N1 := hid hn1
  clear h1 hn1
  by_cases hn0 : n ≤ 0
  · have e0 : l.drop n.toNat = l := by rw [show n.toNat = 0 by omega]; rfl
    have E0 := hid e0
    clear e0
    go_enter Try.func16, Try.ntmps16
    go_wp2
    go_ret
    exact ⟨_, rfl, by rw [E0.out, ← N1.out]; exact H0.out, rfl⟩
  · by_cases hge : (n1 : Int) ≤ n
    · have e0 : l.drop n.toNat = [] := List.drop_eq_nil_of_le (by rw [N1.out]; omega)
      have E0 := hid e0
      clear e0
      have d1 : decide (n ≤ 0) = false := by simp; omega
      go_enter Try.func16, Try.ntmps16
      go_wp2
      go_ret
      exact ⟨_, rfl, by rw [E0.out]; exact ⟨none, 0, rfl, Nat.le_refl _, .inl rfl⟩, rfl⟩
    · obtain ⟨k, rfl⟩ : ∃ k : Nat, n = (k : Int) := ⟨n.toNat, by omega⟩
      obtain ⟨g1, o1, rfl, hv1⟩ : ∃ g o, e1 = some ⟨g, o, none⟩ ∧ EvsAt w g o l := by
        rcases H1.out with h | h
        · subst h; have := N1.out; simp at this; omega
        · exact h
      have d1 : decide (k = 0) = false := by simp; omega
      have d2 : decide (n1 ≤ k) = false := by simp; omega
      have p0 : (0 : Int) ≤ (k : Int) := by omega
      have p1 : (k : Int) ≤ (n1 : Int) := by omega
      have p2 : ¬ (c1 = k) := by omega
      have p3 : (k : Int) ≤ (c1 : Int) := by omega
      have HV := hid hv1
      clear hv1 hn0 hge
      go_enter Try.func16, Try.ntmps16
      go_wp2
      go_ret
      refine ⟨_, rfl, ⟨some ⟨g1, o1 + k * 3, none⟩, c1 - k, ?_, ?_, .inr ⟨g1, o1 + k * 3, rfl, fun i e hi => ?_⟩⟩, rfl⟩
      · rw [List.length_drop, N1.out]; rfl
      · rw [List.length_drop, N1.out]; simp only [Int.toNat_natCast]; omega
      · rw [List.getElem?_drop] at hi
        have := HV.out (k + i) e hi
        rw [Nat.add_mul, ← Nat.add_assoc] at this
        exact this
end Go.Proofs.Ytbkpiegkiokdlaa
