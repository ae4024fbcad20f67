/-
  Equality of slices of bytes.
-/
import Derived.Test.YtaakdmjmanbggaaDoorSrc
import Derived.Laws.BytesArg
import Derived.WideShapes
namespace Go.Proofs.YtaakdmjmanbggaaDoor
open Go.RowKit

/-- Bytes as a string. -/
def bstr (l : List Nat) : ByteArray := strOfNums (l.map fun x : Nat => (x : Int))
theorem bstr_inj {a b : List Nat} (ha : Byt a) (hb : Byt b) (h : bstr a = bstr b) : a = b := by
  have h1 : (a.map fun x : Nat => (x : Int)).map (fun n => UInt8.ofNat n.toNat) = (b.map fun x : Nat => (x : Int)).map (fun n => UInt8.ofNat n.toNat) := by
    rw [← strOfNums_data, ← strOfNums_data]; exact congrArg (fun s : ByteArray => s.data.toList) h
  rw [List.map_map, List.map_map] at h1
  have hl : a.length = b.length := by simpa using congrArg List.length h1
  refine List.ext_getElem hl fun i h2 h3 => ?_
  have e := congrArg (fun l : List UInt8 => l[i]?) h1
  simp only [List.getElem?_map, List.getElem?_eq_getElem h2, List.getElem?_eq_getElem h3, Option.map_some, Function.comp] at e
  have e2 := congrArg UInt8.toNat (Option.some.inj e)
  have x1 := ha _ (List.getElem_mem h2)
  have x2 := hb _ (List.getElem_mem h3)
  simp at e2
  omega
theorem conv_bytes {w : World} {v : Value} {l : List Nat} (h : ByteSl w v l) : (convert 22 9 v).run Tryd.prog w = .ok (.string (bstr l)) w := by
  obtain ⟨a, cap, rfl, hc, hr⟩ := id h
  cases a with
  | none =>
    have : l = [] := by
      rcases hr with h | ⟨_, _, h, _⟩
      · exact h
      · cases h
    subst this
    exact run_convert_bytes_nil w _ _ Tryd.underlying22 Tryd.underlying5 _ _ _ Tryd.underlying9
  | some ad =>
    have hn := h.news
    rw [run_convert_bytes_string w _ _ _ _ _ _ Tryd.underlying22 Tryd.underlying5 Tryd.underlying9,
      run_bytesToString w ad l.length cap (l.map fun x : Nat => (x : Int)) (by
        have := run_loadCells_list (P := Tryd.prog) w ad (bys l) hn
        rw [bys_len] at this
        rw [this]; unfold bys; rw [List.map_map]; rfl), foldl_push_bytes]
    simp [bstr, strOfNums, ByteArray.empty, ByteArray.emptyWithCapacity]
    rfl
theorem str_beq (a b : ByteArray) : (a.toList == b.toList) = decide (a = b) := by
  by_cases h : a = b
  · subst h; simp
  · rw [decide_eq_false h]
    refine Bool.eq_false_iff.2 fun e => h ?_
    have e2 := eq_of_beq e
    rw [ByteArray.toList_eq, ByteArray.toList_eq] at e2
    exact Go.WideShapes.bytes_inj e2
set_option maxRecDepth 100000 in
theorem equalb_any (v1 v2 : Value) (l1 l2 : List Nat) (w : World) (h1 : ByteSl w v1 l1) (h2 : ByteSl w v2 l2) :
    Calls Tryd.prog 14 #[v1, v2] w (fun e w' => e = .returned (.bool (decide (l1 = l2))) ∧ w = w') := by
  have c1 := conv_bytes h1
  have c2 := conv_bytes h2
  have e : decide (l1 = l2) = decide (bstr l1 = bstr l2) := by
    refine decide_eq_decide.2 ⟨fun h => by rw [h], fun h => bstr_inj h1.byt h2.byt h⟩
  rw [e, ← str_beq]
  generalize bstr l1 = s1 at *
  generalize bstr l2 = s2 at *
  clear h1 h2 e
  go_enter Tryd.func14, Tryd.ntmps14
  go_wp2
  go_ret
  exact ⟨rfl, rfl⟩
end Go.Proofs.YtaakdmjmanbggaaDoor
