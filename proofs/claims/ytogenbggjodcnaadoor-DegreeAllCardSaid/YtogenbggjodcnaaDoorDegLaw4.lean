/-
  DegreeAll: All returns the conjunction, or the error.
-/
import Derived.Test.YtogenbggjodcnaaDoorAlive10
import Derived.Test.YtogenbggjodcnaaDoorRFit10
import Derived.Test.YtogenbggjodcnaaDoorAll10
import Derived.Deep.RegionHeld3
namespace Go.Proofs.YtogenbggjodcnaaDoor
open Go.RowKit

attribute [local go_sem] Oper.semAt_some
theorem max_int {a b c : Int} (ats : Array TypeId) (ty : TypeId) (h : (if b > a then b else a) = c) : Builtin.max_ ats ty #[.int .i64 a, .int .i64 b] = pure (.int .i64 c) := by rw [← h]; rfl
theorem min_int {a b c : Int} (ats : Array TypeId) (ty : TypeId) (h : (if a > b then b else a) = c) : Builtin.min_ ats ty #[.int .i64 a, .int .i64 b] = pure (.int .i64 c) := by
  rw [← h]
  rfl
theorem info_s6 : (Tryd.prog.info? 34).map (fun i => (i.zero, i.size, i.bytes)) = some (some (.slice none 0 0), 1, 24) := by kernel_rfl
theorem andk_congr {f g : Nat → Nat} : ∀ q, (∀ j, j < q → f j = g j) → andk f q = andk g q
  | 0, _ => rfl
  | q + 1, h => by
    show andk f q &&& f q = andk g q &&& g q
    rw [andk_congr q (fun j hj => h j (by omega)), h q (by omega)]
theorem NumSl.mid {w : World} {g off n c f u : Nat} {xs : List Nat} (h : NumSl w (.slice (some ⟨g, off, none⟩) n c) xs) (h1 : f ≤ u) (h2 : u ≤ xs.length) : NumSl w (.slice (some ⟨g, off + f * 4, none⟩) (u - f) (c - f)) ((xs.drop f).take (u - f)) := by
  obtain ⟨a', c', e, hc, hr⟩ := h
  cases e
  have hlen : ((xs.drop f).take (u - f)).length = u - f := by rw [List.length_take, List.length_drop]; omega
  refine ⟨_, _, by rw [hlen], by rw [hlen]; omega, ?_⟩
  rcases hr with h0 | ⟨g', off', e9, he⟩
  · subst h0; exact .inl (by simp)
  · cases e9
    refine .inr ⟨_, _, rfl, fun j x hj => ?_⟩
    have hx : xs[f + j]? = some x := by
      rw [List.getElem?_take] at hj
      split at hj
      · rw [List.getElem?_drop] at hj; exact hj
      · cases hj
    have := he (f + j) x hx
    rw [show off + (f + j) * 4 = off + f * 4 + j * 4 by omega] at this
    exact this
/-- The slices are rows of elements that were made. -/
def RowsOk (w : World) (base : Nat) (rs : List (Value × List Nat)) : Prop := ∀ r ∈ rs, w.ownsRow base 29 4 r.1 r.2.length (nums r.2)
theorem RowsOk.below {w w' : World} {base : Nat} {rs : List (Value × List Nat)} (h : RowsOk w base rs) (hb : Below w.heap.size w w') : RowsOk w' base rs := fun r hr => owns_keep (h r hr) hb
theorem RowsOk.sls {w : World} {base : Nat} {v : Value} {rs : List (Value × List Nat)} (h : RowsOk w base rs) (ho : w.ownsRow base 34 1 v rs.length (rs.map (·.1))) (hp : ∀ r ∈ rs, ∀ y ∈ r.2, y < B256) : SlsSl w v rs := SlsSl.own ho (fun r hr => nums_own (h r hr) (hp r hr))
theorem RowsOk.grown {w w' : World} {base : Nat} {v : Value} {rs : List (Value × List Nat)} {n : Nat} {zs : List Value} (h : RowsOk w base rs) (ho : w.ownsRow base 34 1 v n zs) (hg : w.grownBy w' v.ownBlock) : RowsOk w' base rs := fun r hr => (h r hr).kept hg (owns_apart (h r hr) ho (by decide))
theorem RowsOk.snoc {w : World} {base : Nat} {rs : List (Value × List Nat)} {r : Value × List Nat} (h : RowsOk w base rs) (hr : w.ownsRow base 29 4 r.1 r.2.length (nums r.2)) : RowsOk w base (rs ++ [r]) := fun x hx => by
  rcases List.mem_append.1 hx with h9 | h9
  · exact h x h9
  · rw [List.mem_singleton.1 h9]; exact hr
/-- The masks of the lists. -/
noncomputable def fvm (p : Nat) (ns : List Nat) (n : Nat) (k : Int) (vss : List (List Nat)) (j : Nat) : Nat := bmk (itp p ns (vss.getD j []) n) k
theorem fvm_snoc (p : Nat) (ns : List Nat) (n : Nat) (k : Int) (vss : List (List Nat)) (l : List Nat) : andk (fvm p ns n k (vss ++ [l])) (vss.length + 1) = andk (fvm p ns n k vss) vss.length &&& bmk (itp p ns l n) k := by
  show andk _ vss.length &&& fvm p ns n k (vss ++ [l]) vss.length = _
  rw [andk_congr (g := fvm p ns n k vss) vss.length (fun j hj => by unfold fvm; rw [List.getD_eq_getElem?_getD, List.getElem?_append_left hj, List.getD_eq_getElem?_getD])]
  unfold fvm
  rw [List.getD_eq_getElem?_getD, List.getElem?_append_right (Nat.le_refl _), Nat.sub_self]; rfl
/-- What bad is. -/
def badR (c : Int) (n : Nat) (p : Nat) (ns : List Nat) (k : Int) (vss : List (List Nat)) (A : Bool) (B : Int) : Prop :=
  (c ≠ 0 ∧ B = c) ∨ (c = 0 ∧ B = 0 ∧ (∀ l ∈ vss, l.length = n) ∧ andk (fvm p ns n k vss) vss.length = if A then 18446744073709551615 else 0) ∨ (c = 0 ∧ B = 8 ∧ ∃ l ∈ vss, l.length ≠ n)
theorem rs_at {p : Nat} {rs : List (Value × List Nat)} {vss : List (List Nat)} (h2 : rs.map (·.2) = vss.map (fun l => l.map (frm p))) {j : Nat} {r : Value × List Nat} (hr : rs[j]? = some r) : ∃ l, vss[j]? = some l ∧ r.2 = l.map (frm p) := by
  have h := congrArg (fun l => l[j]?) h2
  simp only [List.getElem?_map, hr] at h
  cases e : vss[j]? with
  | none => rw [e] at h; cases h
  | some l => rw [e] at h; exact ⟨l, rfl, Option.some.inj h⟩
theorem rs_of {p : Nat} {rs : List (Value × List Nat)} {vss : List (List Nat)} (h2 : rs.map (·.2) = vss.map (fun l => l.map (frm p))) {l : List Nat} (hl : l ∈ vss) : ∃ r ∈ rs, r.2 = l.map (frm p) := by
  have h : l.map (frm p) ∈ rs.map (·.2) := by rw [h2]; exact List.mem_map_of_mem hl
  obtain ⟨r, hr, e⟩ := List.mem_map.1 h
  exact ⟨r, hr, e⟩
theorem rs_small {b : Bool} {rs : List (Value × List Nat)} {vss : List (List Nat)} (h2 : rs.map (·.2) = vss.map (fun l => l.map (frm (fP b)))) : ∀ r ∈ rs, ∀ y ∈ r.2, y < B256 := fun r hr => by
  obtain ⟨j, hj⟩ := List.mem_iff_getElem?.1 hr
  obtain ⟨l, _, e⟩ := rs_at h2 hj
  rw [e]; exact small9 (forms9 b l)
theorem badR_nil (c : Int) (n p : Nat) (ns : List Nat) (k : Int) : badR c n p ns k [] true c := by
  by_cases h : c = 0
  · exact .inr (.inl ⟨h, h, fun l hl => (by cases hl), rfl⟩)
  · exact .inl ⟨h, rfl⟩
theorem badR_fit {c : Int} {n p : Nat} {ns : List Nat} {k : Int} {vss : List (List Nat)} {A q : Bool} {l : List Nat} (hc : c = 0) (hl : ∀ l ∈ vss, l.length = n) (hA : andk (fvm p ns n k vss) vss.length = if A then 18446744073709551615 else 0) (hln : l.length = n) (hq : bmk (itp p ns l n) k = if q then 18446744073709551615 else 0) : badR c n p ns k (vss ++ [l]) (A && q) 0 := by
  refine .inr (.inl ⟨hc, rfl, fun x hx => ?_, ?_⟩)
  · rcases List.mem_append.1 hx with h | h
    · exact hl x h
    · rw [List.mem_singleton.1 h]; exact hln
  · rw [List.length_append, List.length_singleton, fvm_snoc, hA, hq]
    cases A <;> cases q <;> decide
theorem badR_len {c : Int} {n p : Nat} {ns : List Nat} {k : Int} {vss : List (List Nat)} {A : Bool} {l : List Nat} (hc : c = 0) (h : (∃ l ∈ vss, l.length ≠ n) ∨ l.length ≠ n) : badR c n p ns k (vss ++ [l]) A 8 := by
  refine .inr (.inr ⟨hc, rfl, ?_⟩)
  rcases h with ⟨x, hx, hne⟩ | h
  · exact ⟨x, List.mem_append_left _ hx, hne⟩
  · exact ⟨l, by simp, h⟩
set_option maxRecDepth 100000 in
set_option maxHeartbeats 8000000 in
theorem dall_law (b : Bool) (v u : Value) (xs : List Int) (ls : List Nat) (k : Int) (w : World) (hT : Tab w) (hS : IntSl w v xs) (hU : NumSl w u ls) (hcap : ∀ a n c, v = .slice a n c → n ≤ c) :
    Calls Tryd.prog 4 #[.bool b, .agg #[v, u], .int .i64 k] w (Ret (.bool true) w) := by
  have BW := hid (Below.refl w.heap.size w)
  have T := hid hT
  clear hT
  have HS := hid hS
  obtain ⟨sa, sc, rfl, _⟩ := hS
  obtain ⟨n, hn⟩ : ∃ n, xs.length = n := ⟨_, rfl⟩
  rw [hn] at HS ⊢
  have HN := hid hn
  have HU := hid hU
  obtain ⟨su, cu, rfl, _, _⟩ := hU
  obtain ⟨m, hm⟩ : ∃ n, ls.length = n := ⟨_, rfl⟩
  rw [hm] at HU ⊢
  rw [hn] at hcap
  have hlcu : m ≤ cu := by obtain ⟨a9, c9, e9, h9, _⟩ := HU.out; cases e9; omega
  by_cases h6 : 5 < n
  · skip
    go_enter Tryd.func4, Tryd.ntmps4
    go_wp2_with fail
    obtain ⟨v1, hv9⟩ : ∃ v, (w.alloc (.cells #[.slice sa n sc, .slice su m cu] 25)) = v := ⟨_, rfl⟩
    have hG9 : Below w.heap.size w v1 := by rw [← hv9]; go_grown
    have X_X : Blk v1 (w.heap.size) 25 [.slice sa n sc, .slice su m cu] := by rw [← hv9]; exact Blk.new rfl
    obtain ⟨bX, hb9⟩ : ∃ k, w.heap.size = k := ⟨_, rfl⟩
    rw [hb9] at X_X
    have g_bX : w.heap.size ≤ bX := by rw [← hb9]; exact BW.out.size
    replace T := hid (T.out.keep hG9)
    replace BW := hid (BW.out.trans (hG9.mono BW.out.size))
    clear hG9
    rw [hv9]
    try rw [hb9]
    clear hv9 hb9
    refine (alive10_any _ T.out).mono ?_
    rintro e v2 ⟨rfl, b9⟩
    replace X_X := X_X.keep b9
    replace T := hid (T.out.keep b9)
    replace BW := hid (BW.out.trans (b9.mono BW.out.size))
    clear b9
    go_wp2
    go_ret
    exact ⟨rfl, BW.out⟩
  by_cases h7 : 15 < m
  · skip
    go_enter Tryd.func4, Tryd.ntmps4
    go_wp2_with fail
    obtain ⟨v3, hv9⟩ : ∃ v, (w.alloc (.cells #[.slice sa n sc, .slice su m cu] 25)) = v := ⟨_, rfl⟩
    have hG9 : Below w.heap.size w v3 := by rw [← hv9]; go_grown
    have X_X : Blk v3 (w.heap.size) 25 [.slice sa n sc, .slice su m cu] := by rw [← hv9]; exact Blk.new rfl
    obtain ⟨bX, hb9⟩ : ∃ k, w.heap.size = k := ⟨_, rfl⟩
    rw [hb9] at X_X
    have g_bX : w.heap.size ≤ bX := by rw [← hb9]; exact BW.out.size
    replace T := hid (T.out.keep hG9)
    replace BW := hid (BW.out.trans (hG9.mono BW.out.size))
    clear hG9
    rw [hv9]
    try rw [hb9]
    clear hv9 hb9
    refine (alive10_any _ T.out).mono ?_
    rintro e v4 ⟨rfl, b9⟩
    replace X_X := X_X.keep b9
    replace T := hid (T.out.keep b9)
    replace BW := hid (BW.out.trans (b9.mono BW.out.size))
    clear b9
    go_wp2
    go_ret
    exact ⟨rfl, BW.out⟩
  have hlx : xs.length < 1000000 := by omega
  have RCC := hid (fun (W : World) (h : IntSl W (.slice sa n sc) xs) => rlcheck_any (.slice sa n sc) xs W h hlx)
  have hp2 := fP_two b
  have hpb := fP_lt b
  obtain ⟨c, hc9⟩ : ∃ c, chkx xs = c := ⟨_, rfl⟩
  rw [hc9] at RCC
  have HC := hid hc9
  clear hc9
  obtain ⟨d, hd9⟩ : ∃ d, max n 1 = d := ⟨_, rfl⟩
  have hdn : n ≤ d := by omega
  have hd1 : 1 ≤ d := by omega
  have hd6 : d ≤ 5 := by omega
  have dm1 : (if (1 : Int) > (n : Int) then (1 : Int) else (n : Int)) = (d : Int) := by split <;> omega
  have HD := hid (fun (ats : Array TypeId) (ty : TypeId) => max_int ats ty dm1)
  clear dm1 hd9
  have HNS := hid (rfl : pts xs = pts xs)
  obtain ⟨i0, hi, hz0, hz1, hz2⟩ := info_parts info_s6
  go_enter Tryd.func4, Tryd.ntmps4
  go_wp2_with fail
  obtain ⟨v5, hv9⟩ : ∃ v, (w.alloc (.cells #[.slice sa n sc, .slice su m cu] 25)) = v := ⟨_, rfl⟩
  have hG9 : Below w.heap.size w v5 := by rw [← hv9]; go_grown
  have X_X : Blk v5 (w.heap.size) 25 [.slice sa n sc, .slice su m cu] := by rw [← hv9]; exact Blk.new rfl
  obtain ⟨bX, hb9⟩ : ∃ k, w.heap.size = k := ⟨_, rfl⟩
  rw [hb9] at X_X
  have g_bX : w.heap.size ≤ bX := by rw [← hb9]; exact BW.out.size
  replace T := hid (T.out.keep hG9)
  replace BW := hid (BW.out.trans (hG9.mono BW.out.size))
  clear hG9
  rw [hv9]
  try rw [hb9]
  clear hv9 hb9
  refine (get10_any b _ T.out).mono ?_
  rintro e v6 ⟨rfl, b9⟩
  replace X_X := X_X.keep b9
  replace T := hid (T.out.keep b9)
  replace BW := hid (BW.out.trans (b9.mono BW.out.size))
  clear b9
  have z_X := X_X.lt
  have c_X0 := X_X.cell (i := 0) rfl
  have c_X1 := X_X.cell (i := 1) rfl
  go_wp2_with fail
  obtain ⟨v7, hv9⟩ : ∃ v, ((v6.alloc (.cells #[.int .i64 (fID b), .int .u64 (limb (fP b) 0 : Int), .int .u64 (limb (fP b) 1 : Int), .int .u64 (limb (fP b) 2 : Int), .int .u64 (limb (fP b) 3 : Int), .int .u64 (fI b : Int), .int .u64 (limb (fO b) 0 : Int), .int .u64 (limb (fO b) 1 : Int), .int .u64 (limb (fO b) 2 : Int), .int .u64 (limb (fO b) 3 : Int), .int .u64 (limb (fS b) 0 : Int), .int .u64 (limb (fS b) 1 : Int), .int .u64 (limb (fS b) 2 : Int), .int .u64 (limb (fS b) 3 : Int)] 31)).alloc (.cells #[.int .u64 (limb (fP b) 0 : Int), .int .u64 (limb (fP b) 1 : Int), .int .u64 (limb (fP b) 2 : Int), .int .u64 (limb (fP b) 3 : Int)] 28)) = v := ⟨_, rfl⟩
  have hG9 : Below v6.heap.size v6 v7 := by rw [← hv9]; go_grown
  have X_F : Blk v7 (v6.heap.size) 31 [.int .i64 (fID b), .int .u64 (limb (fP b) 0 : Int), .int .u64 (limb (fP b) 1 : Int), .int .u64 (limb (fP b) 2 : Int), .int .u64 (limb (fP b) 3 : Int), .int .u64 (fI b : Int), .int .u64 (limb (fO b) 0 : Int), .int .u64 (limb (fO b) 1 : Int), .int .u64 (limb (fO b) 2 : Int), .int .u64 (limb (fO b) 3 : Int), .int .u64 (limb (fS b) 0 : Int), .int .u64 (limb (fS b) 1 : Int), .int .u64 (limb (fS b) 2 : Int), .int .u64 (limb (fS b) 3 : Int)] := by rw [← hv9]; exact Blk.alloc (Blk.new rfl) _
  have X_P : Blk v7 (v6.heap.size + 1) 28 [.int .u64 (limb (fP b) 0 : Int), .int .u64 (limb (fP b) 1 : Int), .int .u64 (limb (fP b) 2 : Int), .int .u64 (limb (fP b) 3 : Int)] := by rw [← hv9]; exact Blk.new (by simp)
  obtain ⟨bF, hb9⟩ : ∃ k, v6.heap.size = k := ⟨_, rfl⟩
  rw [hb9] at X_F
  rw [hb9] at X_P
  have g_bF : w.heap.size ≤ bF := by rw [← hb9]; exact BW.out.size
  have q_X_bF : bX < bF := by rw [← hb9]; exact X_X.lt
  clear z_X c_X0 c_X1
  replace X_X := X_X.keep hG9
  replace T := hid (T.out.keep hG9)
  replace BW := hid (BW.out.trans (hG9.mono BW.out.size))
  clear hG9
  rw [hv9]
  try rw [hb9]
  clear hv9 hb9
  refine (RCC.out _ (HS.out.below BW.out)).mono ?_
  rintro e v8 ⟨rfl, b9⟩
  replace X_X := X_X.keep b9
  replace X_F := X_F.keep b9
  replace X_P := X_P.keep b9
  replace T := hid (T.out.keep b9)
  replace BW := hid (BW.out.trans (b9.mono BW.out.size))
  clear b9
  go_wp2
  have BW0 := BW
  have T0 := T
  have XW_X := X_X
  have XW_F := X_F
  have XW_P := X_P
  have HSW := hid (HS.out.below BW.out)
  have HUW := hid (HU.out.below BW.out)
  go_loopw [10, 11, 12, 13] (fun y al bd fr wr => ∃ (rs : List (Value × List Nat)) (vss : List (List Nat)) (f : Nat) (A : Bool) (B : Int) (z9 : Value), z9 = y ∧ .bool A = al ∧ .int .i64 B = bd ∧ .int .i64 (f : Int) = fr ∧ f ≤ m + d ∧ rs.length ≤ f ∧ Below v8.heap.size v8 wr ∧ wr.ownsRow v8.heap.size 34 1 y rs.length (rs.map (·.1)) ∧ RowsOk wr v8.heap.size rs ∧ rs.map (·.2) = vss.map (fun l => l.map (frm (fP b))) ∧ (∀ l ∈ vss, ∀ y ∈ l, y < fP b) ∧ badR c n (fP b) (pts xs) k vss A B) (fun _ _ _ fr _ => m - (intOf fr).toNat)
  case atStart => exact ⟨[], [], 0, true, c, _, rfl, rfl, rfl, rfl, Nat.zero_le _, Nat.zero_le _, Below.refl _ _, World.ownsRow_nil _ _ _ _, fun r hr => (by cases hr), rfl, fun l hl => (by cases hl), badR_nil c n _ _ k⟩
  case round =>
    obtain ⟨rs, vss, f, A, B, yv, rfl, rfl, rfl, rfl, hf, hrf, hB, hO, hNS, h2, hlt9, hbad⟩ := hrel
    have N_y := hid hO
    have N_r := hid hNS
    have H2 := hid h2
    have HLT := hid hlt9
    have HB := hid hB
    clear hO hNS h2 hlt9
    obtain ⟨v9, hv9⟩ : ∃ v, v = wr := ⟨_, rfl⟩
    subst hv9
    replace X_X := X_X.keep hB
    replace X_F := X_F.keep hB
    replace X_P := X_P.keep hB
    replace T := hid (T.out.keep hB)
    replace BW := hid (BW.out.trans (hB.mono BW.out.size))
    clear hB
    by_cases hlt : f < m
    · skip
      obtain ⟨x0, hx0⟩ : ∃ x, ls[f]? = some x := ⟨ls[f]'(by omega), List.getElem?_eq_getElem _⟩
      obtain ⟨gu, ou, rfl, zu⟩ := sl_open HU.out hx0
      clear hx0 zu
      obtain ⟨ue, hue⟩ : ∃ q, min (f + d) m = q := ⟨_, rfl⟩
      have hfu : f < ue := by omega
      have hum : ue ≤ m := by omega
      have um1 : (if (f : Int) + (d : Int) > (m : Int) then (m : Int) else (f : Int) + (d : Int)) = (ue : Int) := by split <;> omega
      have HUM := hid (fun (ats : Array TypeId) (ty : TypeId) => min_int ats ty um1)
      clear um1
      have hf0 : (0 : Int) ≤ (f : Int) := by omega
      have hfi : (f : Int) ≤ (ue : Int) := by omega
      have hui : (ue : Int) ≤ (cu : Int) := by omega
      have huf : (f : Int) < (m : Int) := by omega
      have hcf : ¬ (cu = f) := by omega
      have HMW := hid (HUW.out.mid (f := f) (u := ue) (by omega) (by rw [hm]; exact hum))
      obtain ⟨l0, hl0⟩ : ∃ l, (ls.drop f).take (ue - f) = l := ⟨_, rfl⟩
      have hl0n : l0.length = ue - f := by rw [← hl0, List.length_take, List.length_drop]; omega
      rw [hl0] at HMW
      clear hl0
      have VC := hid (fun (W : World) (h : NumSl W (.slice (some ⟨gu, ou + f * 4, none⟩) (ue - f) (cu - f)) l0) => values_any (fP b) _ l0 W hpb (by omega) h (by omega))
      unfold RetVals at VC
      obtain ⟨l, hl9⟩ : ∃ l, l0.map (mulm (fP b) 1) = l := ⟨_, rfl⟩
      have HLN : Hid (l.length = ue - f) := hid (by rw [← hl9, List.length_map, hl0n])
      have HLL : Hid (∀ y ∈ l, y < fP b) := hid (by intro y hy; rw [← hl9] at hy; obtain ⟨z, _, rfl⟩ := List.mem_map.1 hy; exact mulm_lt _ _ (by omega))
      rw [hl9, hl0n] at VC
      clear hl9 hl0n
      have HMN := hid hum
      have HFR := hid (And.intro hf hrf)
      clear hf hrf
      have hfm := h7
      have z_X := X_X.lt
      have c_X0 := X_X.cell (i := 0) rfl
      have c_X1 := X_X.cell (i := 1) rfl
      go_upto_region 11 with (fail)
      clear z_X c_X0 c_X1
      have um1 := HUM.out
      have dm1 := HD.out
      have wfd : IntKind.i64.wrap ((f : Int) + (d : Int)) = (f : Int) + (d : Int) := by rw [IntKind.wrap_i64]; have := HFR.out.1; omega
      have hz9 := HB.out.size
      have z_P := X_P.lt
      have c_P0 := X_P.cell (i := 0) rfl
      have c_P1 := X_P.cell (i := 1) rfl
      have c_P2 := X_P.cell (i := 2) rfl
      have c_P3 := X_P.cell (i := 3) rfl
      have z_X := X_X.lt
      have c_X0 := X_X.cell (i := 0) rfl
      have c_X1 := X_X.cell (i := 1) rfl
      go_wp2_with fail
      go_region_held3 (fun w' => ∀ b o, b < v9.heap.size → w'.cell? ⟨b, o, none⟩ = v9.cell? ⟨b, o, none⟩) ((intro b o h; first | with_reducible exact c1 b o h | with_reducible exact cell_drew | with_reducible exact cell_drew.trans (cell_alloc h) | (with_reducible refine (cell_alloc (by (try simp); omega)).trans ?_; first | with_reducible exact c1 b o h | with_reducible exact cell_drew) | with_reducible exact (below_set4 H1.out (by omega) _ _ _ _).cell (p := ⟨b, o, none⟩) h)) (first | (go_at_call 16; refine (VC.out _ ((HMW.out.below HB.out).below (by first | with_reducible exact Below.drew (Below.refl _ _) | with_reducible exact Below.drew ((Below.refl _ _).alloc (Nat.le_refl _) _)))).mono ?_; rintro e ra1 ⟨vv, vx, rfl, ho, ho2, b9⟩; have H1 : Hid (Below v9.heap.size v9 ra1) := hid (Below.drew (Below.refl _ v9)).trans b9; have ho := hid ho; have ho2 := hid ho2; clear b9; have c1 := bcell H1.out; have z1 := H1.out.size))
      have hH9 := H1.out
      clear z_P c_P0 c_P1 c_P2 c_P3 z_X c_X0 c_X1
      replace N_y := hid (owns_keep N_y.out hH9)
      replace X_X := X_X.keep hH9
      replace X_F := X_F.keep hH9
      replace X_P := X_P.keep hH9
      replace N_r := hid (N_r.out.below hH9)
      replace T := hid (T.out.keep hH9)
      replace HB := hid (HB.out.trans (hH9.mono HB.out.size))
      replace BW := hid (BW.out.trans (hH9.mono BW.out.size))
      clear hH9
      clear H1 c1 z1
      clear um1 dm1
      have ho := ho.out
      have ho2 := ho2.out
      obtain ⟨ac, cc, rfl, _, _, _⟩ := owns_form ho2
      obtain ⟨av, cv, rfl, _, _, _⟩ := owns_form ho
      have hbs := HB.out.size
      have HO1 := hid (owns_mono ho (base' := 0) (Nat.zero_le _))
      have HO2 := hid (owns_mono ho2 (base' := v8.heap.size) (Nat.le_succ_of_le hz9))
      clear ho ho2 hbs
      obtain ⟨hff, hrl⟩ := HFR.out
      go_upto_region 13 with (at_builtin; refine wpList_append_own _ rfl _ _ 44 rfl v8.heap.size 34 i0 _ 1 24 Tryd.underlying44 hi hz0 hz1 hz2 rfl (by decide) _ rs.length _ rfl (N_y.out.alloc _) ⟨ra1.heap.size, 0, none⟩ 1 1 [.slice ac (ue - f) cc] rfl rfl (Blk.news (t := 34) (Blk.new (by simp))) (by simp [Value.oneCell']) (by unfold maxLen; omega) (by omega) (by have := HB.out.size; simp; omega) ?_; intro vq w2 ho3 hg2 _)
      have B2 := hid (Below.grown (HB.out.alloc HB.out.size _) hg2 (by have := HB.out.size; simp; omega) (fun j hj => by have := (N_y.out.lt j hj).1; omega))
      have hlen6 := HLN.out
      have hl9 : (l.map (frm (fP b))).length = ue - f := by rw [List.length_map]; exact hlen6
      have HO2r : Hid (ra1.ownsRow v8.heap.size 29 4 (.slice ac (ue - f) cc) (l.map (frm (fP b))).length (nums (l.map (frm (fP b))))) := hid (by rw [hl9]; exact HO2.out)
      have R2 := hid (((N_r.out.snoc (r := (Value.slice ac (ue - f) cc, l.map (frm (fP b)))) HO2r.out).below ((Below.refl _ _).alloc (Nat.le_refl _) _)).grown (N_y.out.alloc _) hg2)
      have HOV := hid ((owns_keep HO1.out ((Below.refl _ _).alloc (Nat.le_refl _) _)).kept hg2 (owns_apart HO1.out N_y.out (by decide)))
      have NV := hid (nums_own (xs := l) (by rw [HLN.out]; exact HOV.out) (fun y hy => Nat.lt_trans (HLL.out y hy) hpb))
      have HO3 : Hid (w2.ownsRow v8.heap.size 34 1 vq (rs ++ [(Value.slice ac (ue - f) cc, l.map (frm (fP b)))]).length ((rs ++ [(Value.slice ac (ue - f) cc, l.map (frm (fP b)))]).map (·.1))) := hid (by rw [List.length_append, List.map_append]; exact ho3)
      have H22 := hid (show (rs ++ [(Value.slice ac (ue - f) cc, l.map (frm (fP b)))]).map (·.2) = (vss ++ [l]).map (fun l => l.map (frm (fP b))) by rw [List.map_append, List.map_append, H2.out]; rfl)
      have HLT2 : Hid (∀ x ∈ vss ++ [l], ∀ y ∈ x, y < fP b) := hid (fun x hx => by
              rcases List.mem_append.1 hx with h9 | h9
              · exact HLT.out x h9
              · rw [List.mem_singleton.1 h9]; exact HLL.out)
      have hrl2 : (rs ++ [(Value.slice ac (ue - f) cc, l.map (frm (fP b)))]).length ≤ f + d := by rw [List.length_append]; show rs.length + 1 ≤ f + d; omega
      have HRL := hid hrl2
      have hfm2 : f + d ≤ m + d := by omega
      clear ho3 hg2 hlen6 hl9 HO2r HOV HO1 HO2 hrl2 N_y N_r HB BW X_X X_F X_P
      replace T := hid (T0.out.keep B2.out)
      have X_X := XW_X.keep B2.out
      have X_F := XW_F.keep B2.out
      have X_P := XW_P.keep B2.out
      have BW := hid (BW0.out.trans (B2.out.mono BW0.out.size))
      have dm1 := HD.out
      have wfd : IntKind.i64.wrap ((f : Int) + (d : Int)) = (f : Int) + (d : Int) := by rw [IntKind.wrap_i64]; omega
      rcases hbad with ⟨hc, hB9⟩ | ⟨hc, hB9, hle, hA⟩ | ⟨hc, hB9, hex⟩
      · skip
        subst hB9
        have e13 : (B == 0) = false := by simp [hc]
        go_wp2
        go_roundw
        case rel => exact ⟨rs ++ [(Value.slice ac (ue - f) cc, l.map (frm (fP b)))], vss ++ [l], f + d, A, B, _, rfl, rfl, rfl, (by simp), hfm2, HRL.out, B2.out, HO3.out, R2.out, H22.out, HLT2.out, .inl ⟨hc, rfl⟩⟩
        case measure => simp [intOf]; omega
      · skip
        subst hB9
        by_cases hln : ue - f = n
        · skip
          have e13 : (((ue - f : Nat) : Int) != (n : Int)) = false := by simp; omega
          have hlq : l.length = n := by rw [HLN.out]; exact hln
          have hc9 : chkx xs = 0 := by rw [HC.out]; exact hc
          have HALL := (chkx_zero hc9).1
          have hdp := (chkx_zero hc9).2
          have hbf := bmk_fits (b := b) (pts_lt HALL (show 255 < fP b by cases b <;> decide)) (pts_nodup HALL hdp) HLL.out (by rw [hlq, pts_len, HN.out]) k
          rw [pts_len, HN.out] at hbf
          have R1 := hid (fun (W : World) (u : Value) (h : IntSl W (.slice sa n sc) xs) (h2 : NumSl W u l) => rfits_any b (.slice sa n sc) u xs l k W h h2 HLL.out (by omega) (by rw [hlq, HN.out]) HALL hcap)
          obtain ⟨q, hq⟩ : ∃ z, pdec (rft (fP b) (pts xs) l (cutk k n) n) = z := ⟨_, rfl⟩
          rw [HN.out, hq] at R1
          rw [hq] at hbf
          have HBN := hid (badR_fit hc hle hA hlq hbf)
          clear hq hbf hA HALL hdp hc9 hlq hln hc
          cases A
          · skip
            go_wp2
            go_roundw
            case rel => exact ⟨rs ++ [(Value.slice ac (ue - f) cc, l.map (frm (fP b)))], vss ++ [l], f + d, false, 0, _, rfl, rfl, rfl, (by simp), hfm2, HRL.out, B2.out, HO3.out, R2.out, H22.out, HLT2.out, by have h := HBN.out; rw [Bool.false_and] at h; exact h⟩
            case measure => simp [intOf]; omega
          · skip
            have N_q := HO3
            have N_r := R2
            have HB := B2
            have z_P := X_P.lt
            have c_P0 := X_P.cell (i := 0) rfl
            have c_P1 := X_P.cell (i := 1) rfl
            have c_P2 := X_P.cell (i := 2) rfl
            have c_P3 := X_P.cell (i := 3) rfl
            have z_X := X_X.lt
            have c_X0 := X_X.cell (i := 0) rfl
            have c_X1 := X_X.cell (i := 1) rfl
            go_wp2_with fail
            refine (R1.out _ _ (HS.out.below BW.out) NV.out).mono ?_
            rintro e v10 ⟨rfl, b9⟩
            clear z_P c_P0 c_P1 c_P2 c_P3 z_X c_X0 c_X1
            replace N_q := hid (owns_keep N_q.out b9)
            replace X_X := X_X.keep b9
            replace X_F := X_F.keep b9
            replace X_P := X_P.keep b9
            replace N_r := hid (N_r.out.below b9)
            replace T := hid (T.out.keep b9)
            replace HB := hid (HB.out.trans (b9.mono HB.out.size))
            replace BW := hid (BW.out.trans (b9.mono BW.out.size))
            clear b9
            go_wp2
            go_roundw
            case rel => exact ⟨rs ++ [(Value.slice ac (ue - f) cc, l.map (frm (fP b)))], vss ++ [l], f + d, true && q, 0, _, rfl, (by simp), rfl, (by simp), hfm2, HRL.out, HB.out, N_q.out, N_r.out, H22.out, HLT2.out, HBN.out⟩
            case measure => simp [intOf]; omega
        · skip
          have e13 : (((ue - f : Nat) : Int) != (n : Int)) = true := by simp; omega
          go_wp2
          go_roundw
          case rel => exact ⟨rs ++ [(Value.slice ac (ue - f) cc, l.map (frm (fP b)))], vss ++ [l], f + d, A, 8, _, rfl, rfl, rfl, (by simp), hfm2, HRL.out, B2.out, HO3.out, R2.out, H22.out, HLT2.out, badR_len hc (.inr (by rw [HLN.out]; exact hln))⟩
          case measure => simp [intOf]; omega
      · skip
        subst hB9
        go_wp2
        go_roundw
        case rel => exact ⟨rs ++ [(Value.slice ac (ue - f) cc, l.map (frm (fP b)))], vss ++ [l], f + d, A, 8, _, rfl, rfl, rfl, (by simp), hfm2, HRL.out, B2.out, HO3.out, R2.out, H22.out, HLT2.out, badR_len hc (.inl hex)⟩
        case measure => simp [intOf]; omega
    · skip
      have hrl : rs.length < 1000000 := by omega
      have hla : ∀ xs9 : List Int, xs9.length = n → xs9.length < 10000 := fun x h => by omega
      have HY := hid (fun (W : World) (ho : W.ownsRow v8.heap.size 34 1 yv rs.length (rs.map (·.1))) (hr : RowsOk W v8.heap.size rs) => hr.sls ho (rs_small H2.out))
      have hrv : rs.length = vss.length := by have h := congrArg List.length H2.out; simpa using h
      rcases hbad with ⟨hc, hB9⟩ | ⟨hc, hB9, hle, hA⟩ | ⟨hc, hB9, hex⟩
      · skip
        subst hB9
        have hd : (B != 0) = true := by simp [hc]
        have hd2 : (B == B) = true := by simp
        have hcc : chkx xs ≠ 0 := by rw [HC.out]; exact hc
        have AF := hid (fun (W : World) (h : IntSl W (.slice sa n sc) xs) (h2 : SlsSl W yv rs) => all_bad b (.slice sa n sc) yv xs rs k W h h2 (hla xs HN.out) hrl hcc)
        rw [HC.out] at AF
        clear hc hcc
        have z_F := X_F.lt
        have c_F0 := X_F.cell (i := 0) rfl
        have c_F1 := X_F.cell (i := 1) rfl
        have c_F2 := X_F.cell (i := 2) rfl
        have c_F3 := X_F.cell (i := 3) rfl
        have c_F4 := X_F.cell (i := 4) rfl
        have c_F5 := X_F.cell (i := 5) rfl
        have c_F6 := X_F.cell (i := 6) rfl
        have c_F7 := X_F.cell (i := 7) rfl
        have c_F8 := X_F.cell (i := 8) rfl
        have c_F9 := X_F.cell (i := 9) rfl
        have c_F10 := X_F.cell (i := 10) rfl
        have c_F11 := X_F.cell (i := 11) rfl
        have c_F12 := X_F.cell (i := 12) rfl
        have c_F13 := X_F.cell (i := 13) rfl
        have z_X := X_X.lt
        have c_X0 := X_X.cell (i := 0) rfl
        have c_X1 := X_X.cell (i := 1) rfl
        go_wp2_with fail
        refine (AF.out _ (HS.out.below BW.out) (HY.out _ N_y.out N_r.out)).mono ?_
        rintro e v61 ⟨rfl, b9⟩
        clear z_F c_F0 c_F1 c_F2 c_F3 c_F4 c_F5 c_F6 c_F7 c_F8 c_F9 c_F10 c_F11 c_F12 c_F13 z_X c_X0 c_X1
        replace N_y := hid (owns_keep N_y.out b9)
        replace X_X := X_X.keep b9
        replace X_F := X_F.keep b9
        replace X_P := X_P.keep b9
        replace N_r := hid (N_r.out.below b9)
        replace T := hid (T.out.keep b9)
        replace HB := hid (HB.out.trans (b9.mono HB.out.size))
        replace BW := hid (BW.out.trans (b9.mono BW.out.size))
        clear b9
        go_wp2_with fail
        refine (alive10_any _ T.out).mono ?_
        rintro e v62 ⟨rfl, b9⟩
        replace N_y := hid (owns_keep N_y.out b9)
        replace X_X := X_X.keep b9
        replace X_F := X_F.keep b9
        replace X_P := X_P.keep b9
        replace N_r := hid (N_r.out.below b9)
        replace T := hid (T.out.keep b9)
        replace HB := hid (HB.out.trans (b9.mono HB.out.size))
        replace BW := hid (BW.out.trans (b9.mono BW.out.size))
        clear b9
        go_wp2
        go_ret
        exact ⟨rfl, BW.out⟩
      · skip
        subst hB9
        have hcc : chkx xs = 0 := by rw [HC.out]; exact hc
        have AF := hid (fun (W : World) (h : IntSl W (.slice sa n sc) xs) (h2 : SlsSl W yv rs) => all_ok b (.slice sa n sc) yv xs rs k W h h2 (hla xs HN.out) hrl hcc (fvm (fP b) (pts xs) n k vss) (fun j r hr => by
                obtain ⟨l, h1, h2⟩ := rs_at H2.out hr
                refine ⟨l, h2, by rw [HN.out]; exact hle l (List.mem_of_getElem? h1), ?_⟩
                rw [HN.out]; unfold fvm; rw [List.getD_eq_getElem?_getD, h1]; rfl))
        rw [hrv, hA] at AF
        have MC := hid (fun W : World => rmask_any A W)
        obtain ⟨mk, hmk⟩ : ∃ z : Int, (if A then 18446744073709551615 else 0 : Int) = z := ⟨_, rfl⟩
        rw [hmk] at MC
        rw [show (((if A = true then 18446744073709551615 else 0 : Nat) : Nat) : Int) = mk by rw [← hmk]; cases A <;> rfl] at AF
        clear hc hcc hA hle hmk
        have z_F := X_F.lt
        have c_F0 := X_F.cell (i := 0) rfl
        have c_F1 := X_F.cell (i := 1) rfl
        have c_F2 := X_F.cell (i := 2) rfl
        have c_F3 := X_F.cell (i := 3) rfl
        have c_F4 := X_F.cell (i := 4) rfl
        have c_F5 := X_F.cell (i := 5) rfl
        have c_F6 := X_F.cell (i := 6) rfl
        have c_F7 := X_F.cell (i := 7) rfl
        have c_F8 := X_F.cell (i := 8) rfl
        have c_F9 := X_F.cell (i := 9) rfl
        have c_F10 := X_F.cell (i := 10) rfl
        have c_F11 := X_F.cell (i := 11) rfl
        have c_F12 := X_F.cell (i := 12) rfl
        have c_F13 := X_F.cell (i := 13) rfl
        have z_X := X_X.lt
        have c_X0 := X_X.cell (i := 0) rfl
        have c_X1 := X_X.cell (i := 1) rfl
        go_wp2_with fail
        refine (AF.out _ (HS.out.below BW.out) (HY.out _ N_y.out N_r.out)).mono ?_
        rintro e v61 ⟨rfl, b9⟩
        clear z_F c_F0 c_F1 c_F2 c_F3 c_F4 c_F5 c_F6 c_F7 c_F8 c_F9 c_F10 c_F11 c_F12 c_F13 z_X c_X0 c_X1
        replace N_y := hid (owns_keep N_y.out b9)
        replace X_X := X_X.keep b9
        replace X_F := X_F.keep b9
        replace X_P := X_P.keep b9
        replace N_r := hid (N_r.out.below b9)
        replace T := hid (T.out.keep b9)
        replace HB := hid (HB.out.trans (b9.mono HB.out.size))
        replace BW := hid (BW.out.trans (b9.mono BW.out.size))
        clear b9
        go_wp2_with fail
        refine (alive10_any _ T.out).mono ?_
        rintro e v62 ⟨rfl, b9⟩
        replace N_y := hid (owns_keep N_y.out b9)
        replace X_X := X_X.keep b9
        replace X_F := X_F.keep b9
        replace X_P := X_P.keep b9
        replace N_r := hid (N_r.out.below b9)
        replace T := hid (T.out.keep b9)
        replace HB := hid (HB.out.trans (b9.mono HB.out.size))
        replace BW := hid (BW.out.trans (b9.mono BW.out.size))
        clear b9
        go_wp2_with fail
        refine (MC.out _).mono ?_
        rintro e v63 ⟨rfl, b9⟩
        replace N_y := hid (owns_keep N_y.out b9)
        replace X_X := X_X.keep b9
        replace X_F := X_F.keep b9
        replace X_P := X_P.keep b9
        replace N_r := hid (N_r.out.below b9)
        replace T := hid (T.out.keep b9)
        replace HB := hid (HB.out.trans (b9.mono HB.out.size))
        replace BW := hid (BW.out.trans (b9.mono BW.out.size))
        clear b9
        go_wp2
        go_ret
        exact ⟨rfl, BW.out⟩
      · skip
        subst hB9
        have hcc : chkx xs = 0 := by rw [HC.out]; exact hc
        have AF := hid (fun (W : World) (h : IntSl W (.slice sa n sc) xs) (h2 : SlsSl W yv rs) => all_len b (.slice sa n sc) yv xs rs k W h h2 (hla xs HN.out) hrl hcc (by
                obtain ⟨l, hl, hne⟩ := hex
                obtain ⟨r, hr, e⟩ := rs_of H2.out hl
                exact ⟨r, hr, by rw [e, List.length_map, HN.out]; exact hne⟩))
        clear hc hcc hex
        have z_F := X_F.lt
        have c_F0 := X_F.cell (i := 0) rfl
        have c_F1 := X_F.cell (i := 1) rfl
        have c_F2 := X_F.cell (i := 2) rfl
        have c_F3 := X_F.cell (i := 3) rfl
        have c_F4 := X_F.cell (i := 4) rfl
        have c_F5 := X_F.cell (i := 5) rfl
        have c_F6 := X_F.cell (i := 6) rfl
        have c_F7 := X_F.cell (i := 7) rfl
        have c_F8 := X_F.cell (i := 8) rfl
        have c_F9 := X_F.cell (i := 9) rfl
        have c_F10 := X_F.cell (i := 10) rfl
        have c_F11 := X_F.cell (i := 11) rfl
        have c_F12 := X_F.cell (i := 12) rfl
        have c_F13 := X_F.cell (i := 13) rfl
        have z_X := X_X.lt
        have c_X0 := X_X.cell (i := 0) rfl
        have c_X1 := X_X.cell (i := 1) rfl
        go_wp2_with fail
        refine (AF.out _ (HS.out.below BW.out) (HY.out _ N_y.out N_r.out)).mono ?_
        rintro e v61 ⟨rfl, b9⟩
        clear z_F c_F0 c_F1 c_F2 c_F3 c_F4 c_F5 c_F6 c_F7 c_F8 c_F9 c_F10 c_F11 c_F12 c_F13 z_X c_X0 c_X1
        replace N_y := hid (owns_keep N_y.out b9)
        replace X_X := X_X.keep b9
        replace X_F := X_F.keep b9
        replace X_P := X_P.keep b9
        replace N_r := hid (N_r.out.below b9)
        replace T := hid (T.out.keep b9)
        replace HB := hid (HB.out.trans (b9.mono HB.out.size))
        replace BW := hid (BW.out.trans (b9.mono BW.out.size))
        clear b9
        go_wp2_with fail
        refine (alive10_any _ T.out).mono ?_
        rintro e v62 ⟨rfl, b9⟩
        replace N_y := hid (owns_keep N_y.out b9)
        replace X_X := X_X.keep b9
        replace X_F := X_F.keep b9
        replace X_P := X_P.keep b9
        replace N_r := hid (N_r.out.below b9)
        replace T := hid (T.out.keep b9)
        replace HB := hid (HB.out.trans (b9.mono HB.out.size))
        replace BW := hid (BW.out.trans (b9.mono BW.out.size))
        clear b9
        go_wp2
        go_ret
        exact ⟨rfl, BW.out⟩
end Go.Proofs.YtogenbggjodcnaaDoor
