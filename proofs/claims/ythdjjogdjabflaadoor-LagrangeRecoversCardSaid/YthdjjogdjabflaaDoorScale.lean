/-
  The multiple of a polynomial; no tape.
-/
import Derived.Test.YthdjjogdjabflaaDoorPolys
import Derived.Test.YthdjjogdjabflaaDoorQuot
import Derived.Test.YthdjjogdjabflaaDoorMont
import Derived.Test.YthdjjogdjabflaaDoorLimbs
import Derived.OwnWalk
import Derived.Test.YthdjjogdjabflaaDoorKit
namespace Go.Proofs.YthdjjogdjabflaaDoor
open Go.RowKit Go.Shelf

attribute [local go_sem] Oper.semAt_some

/-- The multiple of a list of forms. -/
noncomputable def pscl (m x : Nat) (xs : List Nat) : List Nat := xs.map fun y => mont m y x
theorem scl_store {m n k x y r : Nat} {xs : List Nat} {zs : List Value} (h : FRow n (fun t => if t < k then mont m (xs.getD t 0) x else 0) zs) (hc : k < n) (hx : xs.getD k 0 = y) (hr : mont m y x = r) :
    FRow n (fun t => if t < k + 1 then mont m (xs.getD t 0) x else 0) ((((zs.set (k * 4) (.int .u64 (limb r 0 : Int))).set (k * 4 + 1) (.int .u64 (limb r 1 : Int))).set (k * 4 + 2) (.int .u64 (limb r 2 : Int))).set (k * 4 + 3) (.int .u64 (limb r 3 : Int))) := by
  refine h.store hc r (fun t _ => ?_)
  by_cases e : t = k
  · rw [if_pos e, if_pos (by omega), e, hx, hr]
  · rw [if_neg e]
    by_cases l : t < k
    · rw [if_pos l, if_pos (by omega)]
    · rw [if_neg l, if_neg (by omega)]
theorem pscl_range (m x : Nat) (xs : List Nat) : pscl m x xs = (List.range xs.length).map fun t => mont m (xs.getD t 0) x := by
  unfold pscl
  refine List.ext_getElem? fun k => ?_
  rw [List.getElem?_map, List.getElem?_map]
  by_cases h : k < xs.length
  · rw [List.getElem?_range h, List.getElem?_eq_getElem h]
    show some (mont m (xs[k]) x) = some (mont m (xs.getD k 0) x)
    rw [getD_some (List.getElem?_eq_getElem h)]
  · rw [List.getElem?_eq_none (by omega), List.getElem?_eq_none (by simp; omega)]; rfl
end Go.Proofs.YthdjjogdjabflaaDoor
