/-
  The sum of two polynomials; no tape.
-/
import Derived.Test.YthdjjogdjabflaaDoorClone
import Derived.Test.YthdjjogdjabflaaDoorScale
import Derived.Test.YthdjjogdjabflaaDoorPolys
import Derived.Test.YthdjjogdjabflaaDoorQuot
import Derived.Test.YthdjjogdjabflaaDoorMont
import Derived.Test.YthdjjogdjabflaaDoorLimbs
import Derived.OwnWalk
import Derived.Test.YthdjjogdjabflaaDoorKit
namespace Go.Proofs.YthdjjogdjabflaaDoor
open Go.RowKit Go.Shelf

attribute [local go_sem] Oper.semAt_some

theorem padd_store {m n n2 i x y r : Nat} {xs ys : List Nat} {zs : List Value} (h : FRow n (fun t => if t < i ∧ t < n2 then addm m (xs.getD t 0) (ys.getD t 0) else xs.getD t 0) zs) (hc : i < n) (hi2 : i < n2) (hx : xs.getD i 0 = x) (hy : ys.getD i 0 = y) (hr : addm m x y = r) :
    FRow n (fun t => if t < i + 1 ∧ t < n2 then addm m (xs.getD t 0) (ys.getD t 0) else xs.getD t 0) ((((zs.set (i * 4) (.int .u64 (limb r 0 : Int))).set (i * 4 + 1) (.int .u64 (limb r 1 : Int))).set (i * 4 + 2) (.int .u64 (limb r 2 : Int))).set (i * 4 + 3) (.int .u64 (limb r 3 : Int))) := by
  refine h.store hc r (fun t _ => ?_)
  by_cases e : t = i
  · rw [if_pos e, if_pos ⟨by omega, by omega⟩, e, hx, hy, hr]
  · rw [if_neg e]
    by_cases l : t < i ∧ t < n2
    · rw [if_pos l, if_pos ⟨by omega, l.2⟩]
    · rw [if_neg l, if_neg (fun h => l ⟨by omega, h.2⟩)]
theorem padd_skip {m n n2 i : Nat} {xs ys : List Nat} {zs : List Value} (h : FRow n (fun t => if t < i ∧ t < n2 then addm m (xs.getD t 0) (ys.getD t 0) else xs.getD t 0) zs) (hi2 : ¬ i < n2) :
    FRow n (fun t => if t < i + 1 ∧ t < n2 then addm m (xs.getD t 0) (ys.getD t 0) else xs.getD t 0) zs := by
  refine h.congr (fun t _ => ?_)
  by_cases l : t < i ∧ t < n2
  · rw [if_pos l, if_pos ⟨by omega, l.2⟩]
  · rw [if_neg l, if_neg (fun h => l ⟨by omega, h.2⟩)]
end Go.Proofs.YthdjjogdjabflaaDoor
