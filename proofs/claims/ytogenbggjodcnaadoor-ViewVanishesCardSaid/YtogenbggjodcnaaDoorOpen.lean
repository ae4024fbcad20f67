/-
  What the rows' proofs share: a number of four words among the arguments; the table of the fields out of the row's condition.
-/
import Derived.Test.YtogenbggjodcnaaDoorGetB
import Derived.ProofKit
import Derived.LaidMore
import Derived.OpenShut
import Derived.Stop.Joined
namespace Go.Proofs.YtogenbggjodcnaaDoor
open Go.ChangeShapes Go.WideShapes Go.ChangeAt Go.WideMaps Go.WideElems Go.RowKit
set_option maxRecDepth 100000

theorem own : ownKnob Tryd.prog.godebug = none := by kernel_rfl
theorem laidOut : laidOutB Tryd.prog = true := by kernel_rfl
theorem cells_u64 : Tryd.prog.cellsOf 27 = 1 := by kernel_rfl
theorem cells_vec : Tryd.prog.cellsOf 28 = 4 := by kernel_rfl
theorem cells_elem : Tryd.prog.cellsOf 29 = 4 := by kernel_rfl
theorem cells_int : Tryd.prog.cellsOf 3 = 1 := by kernel_rfl
theorem cells_fld : Tryd.prog.cellsOf 31 = 14 := by kernel_rfl
theorem cells_tab : Tryd.prog.cellsOf 133 = 28 := by kernel_rfl

theorem nat_u64 {n : Int} (h : (Lit.int .u64 n).wf = true) : ∃ m : Nat, n = m ∧ m < B64 := by
  have := bounds_u64 h
  exact ⟨n.toNat, by omega, by unfold B64; omega⟩

section
variable {H : Type} {enc : TypeId × Value → H} {w : World} {base : Nat} {sp : Nat → Bool} {held : Bool}
theorem list4 {α : Type} {l : List α} (h : l.length = 4) : ∃ a b c d, l = [a, b, c, d] := by
  match l, h with
  | [a, b, c, d], _ => exact ⟨a, b, c, d, rfl⟩
theorem arr4 {α : Type} {l : Array α} (h : l.size = 4) : ∃ a b c d, l = #[a, b, c, d] := by
  obtain ⟨a, b, c, d, e⟩ := list4 (l := l.toList) (by simpa using h)
  exact ⟨a, b, c, d, by rw [← e]⟩
/-- Four words as they are read. -/
theorem trod_vec {t : TypeId} {fuel : Nat} {cs : List Value} {x : DataW H × List MemPlace} (ht : Tryd.prog.underlying t = some (.array 4 27)) (hC : Tryd.prog.cellsOf t = 4)
    (h : DataW.trod enc Tryd.prog w base sp held fuel t cs = some x) :
    ∃ a b c d : Nat, a < B64 ∧ b < B64 ∧ c < B64 ∧ d < B64 ∧ cs = [.int .u64 (a : Int), .int .u64 (b : Int), .int .u64 (c : Int), .int .u64 (d : Int)] ∧
      x = (.agg [.lit (.int .u64 (a : Int)), .lit (.int .u64 (b : Int)), .lit (.int .u64 (c : Int)), .lit (.int .u64 (d : Int))], []) := by
  obtain ⟨_, _, _, _, hl, _, _⟩ := DataW.trod_array ht h
  obtain ⟨c0, c1, c2, c3, rfl⟩ := list4 (hl.trans hC)
  obtain ⟨y0, y1, y2, y3, n, hx, h0, h1, h2, h3⟩ := trod_array4 ht cells_u64 h
  obtain ⟨n0, e0, f0, w0⟩ := DataW.trod_int Tryd.underlying27 h0
  obtain ⟨n1, e1, f1, w1⟩ := DataW.trod_int Tryd.underlying27 h1
  obtain ⟨n2, e2, f2, w2⟩ := DataW.trod_int Tryd.underlying27 h2
  obtain ⟨n3, e3, f3, w3⟩ := DataW.trod_int Tryd.underlying27 h3
  obtain ⟨m0, rfl, l0⟩ := nat_u64 w0
  obtain ⟨m1, rfl, l1⟩ := nat_u64 w1
  obtain ⟨m2, rfl, l2⟩ := nat_u64 w2
  obtain ⟨m3, rfl, l3⟩ := nat_u64 w3
  simp only [List.cons.injEq, and_true] at e0 e1 e2 e3
  subst e0 e1 e2 e3 f0 f1 f2 f3
  exact ⟨m0, m1, m2, m3, l0, l1, l2, l3, rfl, by rw [hx]; rfl⟩
/-- A number of four words among the arguments. -/
theorem open_vec {r : Reach} {b0 : Nat} {v : Value} {d : DataW H} {p : List MemPlace} {t : TypeId} (ht : Tryd.prog.underlying t = some (.array 4 27)) (hC : Tryd.prog.cellsOf t = 4)
    (hv : Value.okWide Tryd.prog w r b0 t v) (h : DataW.Trod enc Tryd.prog w base sp held t v d p) : ∃ n, n < B256 ∧ v = vec n := by
  simp only [Value.okWide, ht] at hv
  obtain ⟨cs, rfl, hsz, _⟩ := hv
  obtain ⟨fuel, hf⟩ := h
  obtain ⟨a, b, c, d, la, lb, lc, ld, e, _⟩ := trod_vec ht hC hf
  exact ⟨val4 a b c d, val4_lt la lb lc ld, by rw [← vec_words la lb lc ld, ← e]; rfl⟩
/-- One entry of the table. -/
theorem trod_fld {fuel : Nat} {cs : List Value} {id : Int} {m0 m1 m2 m3 i o0 o1 o2 o3 s0 s1 s2 s3 : Int} {p : List MemPlace}
    (h : DataW.trod enc Tryd.prog w base sp held fuel 31 cs = some (.agg [.lit (.int .i64 id), .agg [.lit (.int .u64 m0), .lit (.int .u64 m1), .lit (.int .u64 m2), .lit (.int .u64 m3)], .lit (.int .u64 i), .agg [.lit (.int .u64 o0), .lit (.int .u64 o1), .lit (.int .u64 o2), .lit (.int .u64 o3)], .agg [.lit (.int .u64 s0), .lit (.int .u64 s1), .lit (.int .u64 s2), .lit (.int .u64 s3)]], p)) :
    cs = [.int .i64 id, .int .u64 m0, .int .u64 m1, .int .u64 m2, .int .u64 m3, .int .u64 i, .int .u64 o0, .int .u64 o1, .int .u64 o2, .int .u64 o3, .int .u64 s0, .int .u64 s1, .int .u64 s2, .int .u64 s3] := by
  obtain ⟨xs, n, _, hx, hl, hlen, hf⟩ := DataW.trod_struct Tryd.underlying31 h
  rw [cells_fld] at hl
  match cs, hl with
  | [c0, c1, c2, c3, c4, c5, c6, c7, c8, c9, c10, c11, c12, c13], _ =>
    match xs, hlen with
    | [y0, y1, y2, y3, y4], _ =>
      have h0 : DataW.trod enc Tryd.prog w base sp held n 3 [c0] = some y0 := by
        have := hf 0 _ rfl
        have e : (([c0, c1, c2, c3, c4, c5, c6, c7, c8, c9, c10, c11, c12, c13] : List Value).drop 0).take (Tryd.prog.cellsOf 3) = [c0] := by rw [cells_int]; rfl
        rw [← e]; exact this
      have h1 : DataW.trod enc Tryd.prog w base sp held n 28 [c1, c2, c3, c4] = some y1 := by
        have := hf 1 _ rfl
        have e : (([c0, c1, c2, c3, c4, c5, c6, c7, c8, c9, c10, c11, c12, c13] : List Value).drop 1).take (Tryd.prog.cellsOf 28) = [c1, c2, c3, c4] := by rw [cells_vec]; rfl
        rw [← e]; exact this
      have h2 : DataW.trod enc Tryd.prog w base sp held n 27 [c5] = some y2 := by
        have := hf 2 _ rfl
        have e : (([c0, c1, c2, c3, c4, c5, c6, c7, c8, c9, c10, c11, c12, c13] : List Value).drop 5).take (Tryd.prog.cellsOf 27) = [c5] := by rw [cells_u64]; rfl
        rw [← e]; exact this
      have h3 : DataW.trod enc Tryd.prog w base sp held n 29 [c6, c7, c8, c9] = some y3 := by
        have := hf 3 _ rfl
        have e : (([c0, c1, c2, c3, c4, c5, c6, c7, c8, c9, c10, c11, c12, c13] : List Value).drop 6).take (Tryd.prog.cellsOf 29) = [c6, c7, c8, c9] := by rw [cells_elem]; rfl
        rw [← e]; exact this
      have h4 : DataW.trod enc Tryd.prog w base sp held n 28 [c10, c11, c12, c13] = some y4 := by
        have := hf 4 _ rfl
        have e : (([c0, c1, c2, c3, c4, c5, c6, c7, c8, c9, c10, c11, c12, c13] : List Value).drop 10).take (Tryd.prog.cellsOf 28) = [c10, c11, c12, c13] := by rw [cells_vec]; rfl
        rw [← e]; exact this
      simp only [List.map_cons, List.map_nil, Prod.mk.injEq, DataW.agg.injEq, List.cons.injEq, and_true] at hx
      obtain ⟨⟨x0, x1, x2, x3, x4⟩, _⟩ := hx
      obtain ⟨n0, e0, f0, _⟩ := DataW.trod_int Tryd.underlying3 h0
      obtain ⟨n2, e2, f2, _⟩ := DataW.trod_int Tryd.underlying27 h2
      obtain ⟨a1, b1, g1, d1, _, _, _, _, e1, f1⟩ := trod_vec Tryd.underlying28 cells_vec h1
      obtain ⟨a3, b3, g3, d3, _, _, _, _, e3, f3⟩ := trod_vec Tryd.underlying29 cells_elem h3
      obtain ⟨a4, b4, g4, d4, _, _, _, _, e4, f4⟩ := trod_vec Tryd.underlying28 cells_vec h4
      subst f0 f1 f2 f3 f4
      simp only [DataW.lit.injEq, Lit.int.injEq, true_and, DataW.agg.injEq, List.cons.injEq, and_true] at x0 x1 x2 x3 x4
      simp only [List.cons.injEq, and_true] at e0 e1 e2 e3 e4
      obtain ⟨rfl, rfl, rfl, rfl⟩ := e1
      obtain ⟨rfl, rfl, rfl, rfl⟩ := e3
      obtain ⟨rfl, rfl, rfl, rfl⟩ := e4
      obtain ⟨rfl, rfl, rfl, rfl⟩ := x1
      obtain ⟨rfl, rfl, rfl, rfl⟩ := x3
      obtain ⟨rfl, rfl, rfl, rfl⟩ := x4
      subst e0 e2 x0 x2
      rfl
end

theorem gFields : Tryd.prog.globalNamed "sharecore/field.fields" = some 0 := by kernel_rfl
theorem tFields : (Tryd.prog.globals[0]?).map (·.type) = some 133 := by kernel_rfl
abbrev laid1 : List (String × DataW Unit) := [("sharecore/field.fields", Rows.laid_sharecore_field_fields)]

/-- The row's condition lays the table. -/
theorem tab_of_laid {W : World} (h : laidMetH Tryd.prog laid1 W) : Tab W := by
  rw [MakeChecks.laidMetH_plain _ _ _ (by kernel_rfl)] at h
  obtain ⟨ps, ⟨g0, t0, cs0, f0, p0, q0, hg0, ht0, hv0, hd0, _, _⟩, _, _⟩ := h
  obtain rfl := Option.some.inj (gFields.symm.trans hg0)
  obtain rfl := Option.some.inj (tFields.symm.trans ht0)
  obtain ⟨xs, n, _, hx, hl, hlen, hf⟩ := DataW.trod_array Tryd.underlying133 hd0
  rw [cells_tab] at hl
  match xs, hlen with
  | [y0, y1], _ =>
    have h0 := hf 0 (by omega)
    have h1 := hf 1 (by omega)
    rw [cells_fld] at h0 h1
    simp only [List.getElem?_cons_zero, List.getElem?_cons_succ] at h0 h1
    simp only [Rows.laid_sharecore_field_fields, List.map_cons, List.map_nil, Prod.mk.injEq, DataW.agg.injEq, List.cons.injEq, and_true] at hx
    obtain ⟨⟨x0, x1⟩, _⟩ := hx
    obtain ⟨d0, k0⟩ := y0
    obtain ⟨d1, k1⟩ := y1
    simp only at x0 x1
    subst x0 x1
    have r0 := trod_fld h0
    have r1 := trod_fld h1
    have hcat : cs0.toList = tabCells := by
      have e1 : cs0.toList = (cs0.toList.drop 0).take 14 ++ ((cs0.toList.drop 14).take 14) := by
        rw [List.drop_zero]
        conv => lhs; rw [← List.take_append_drop 14 cs0.toList]
        congr 1
        rw [List.take_of_length_le (by rw [List.length_drop, hl]; omega)]
      rw [e1]
      have z0 : (0 : Nat) * 14 = 0 := rfl
      have z1 : (1 : Nat) * 14 = 14 := rfl
      rw [z0] at r0
      rw [z1] at r1
      rw [r0, r1]
      obtain ⟨a0, a1, a2, a3⟩ := limbs_P1
      obtain ⟨b0, b1, b2, b3⟩ := limbs_P2
      obtain ⟨c0, c1, c2, c3⟩ := limbs_O1
      obtain ⟨d0, d1, d2, d3⟩ := limbs_O2
      obtain ⟨e0, e1, e2, e3⟩ := limbs_S1
      obtain ⟨g0, g1, g2, g3⟩ := limbs_S2
      rw [tabCells, ← a0, ← a1, ← a2, ← a3, ← b0, ← b1, ← b2, ← b3, ← c0, ← c1, ← c2, ← c3, ← d0, ← d1, ← d2, ← d3, ← e0, ← e1, ← e2, ← e3, ← g0, ← g1, ← g2, ← g3]
      rfl
    intro j v hj
    rw [← hcat] at hj
    rw [Nat.zero_add, World.var?_cell gFields hv0 j]
    simpa using hj

/-- The door's own heap meets the condition. -/
theorem door_met (os : Os) (args : Array Value) : laidMetH Tryd.prog laid1 ((World.doorLaid Tryd.prog 400 os).forCall (fun _ _ => 0) ⟨#[], args, []⟩).memory :=
  laidMetH_of_parts3 (fuel := 8) (laidMet_of_run' 8 (by kernel_rfl) (by kernel_rfl)) (by kernel_rfl) (by kernel_rfl)
end Go.Proofs.YtogenbggjodcnaaDoor
