/-
  slices.Equal on lists of ints.
-/
import Derived.Test.YticpjaooegpipaaDoorBase
import Derived.BigQuiet
import Derived.Deep.QuietTactic
import Derived.Deep.MidRow
import Derived.Outline
namespace Go.Proofs.YticpjaooegpipaaDoor
open Go.RowKit

theorem owns_pos {w : World} {base : Nat} {e : TypeId} {size n : Nat} {v : Value} {xs : List Value} (h : w.ownsRow base e size v n xs) (hn : 0 < n) : ∃ g cap, v = .slice (some ⟨g, 0, none⟩) n cap ∧ base ≤ g := by
  obtain ⟨_, ⟨_, h0⟩ | ⟨g, cap, cur, hv, hg, _⟩⟩ := h
  · omega
  · exact ⟨g, cap, hv, hg⟩
theorem owns_range {w : World} {base : Nat} {e : TypeId} {size n g cap : Nat} {xs : List Value} (h : w.ownsRow base e size (.slice (some ⟨g, 0, none⟩) n cap) n xs) : w.rangeAt g 0 xs := fun j v hv => by
  have := h.cells (g := g) rfl j v hv
  by_cases e : j = 0
  · subst e; simpa [Addr.add] using this
  · simpa [Addr.add, e] using this
theorem Blk.range {w : World} {b : Nat} {t : TypeId} {xs : List Value} (h : Blk w b t xs) : w.rangeAt b 0 xs := fun j v hv => by rw [Nat.zero_add]; exact h.cell hv
theorem take_all {n : Nat} {xs ys : List Int} (hx : xs.length = n) (hy : ys.length = n) (h : ∀ i, i < n → xs[i]? = ys[i]?) : xs = ys := by
  apply List.ext_getElem? ; intro i
  by_cases hi : i < n
  · exact h i hi
  · rw [List.getElem?_eq_none (by omega), List.getElem?_eq_none (by omega)]

set_option maxHeartbeats 1000000 in
theorem eqInts_any (b1 o1 c1 b2 o2 c2 n : Nat) (xs ys : List Int) (hx : xs.length = n) (hy : ys.length = n) (hn : n ≤ 140737488355328) (w : World)
    (h1 : w.rangeAt b1 o1 (xs.map (Value.int .i64))) (h2 : w.rangeAt b2 o2 (ys.map (Value.int .i64))) :
    Calls Tryd.prog 24 #[.slice (some ⟨b1, o1, none⟩) n c1, .slice (some ⟨b2, o2, none⟩) n c2] w fun e w' => e = .returned (.bool (decide (xs = ys))) ∧ ∃ m, w' = w.drewN m := by
  go_enter Tryd.func24, Tryd.ntmps24
  go_wp2
  go_loopw [5, 13] (fun _ i wr => ∃ k m : Nat, k ≤ n ∧ i = .int .i64 (k : Int) ∧ wr = w.drewN m ∧ ∀ i, i < k → xs[i]? = ys[i]?) (fun _ i _ => n - (intOf i).toNat)
  case atStart => exact ⟨0, 0, by omega, rfl, rfl, fun i hi => by omega⟩
  case round =>
    obtain ⟨k, m, hk, rfl, rfl, hj⟩ := hrel
    have HJ := hid hj; clear hj
    by_cases hlt : k < n
    · have ex : xs[k]? = some xs[k] := List.getElem?_eq_getElem (by omega)
      have ey : ys[k]? = some ys[k] := List.getElem?_eq_getElem (by omega)
      have cx := h1 k (.int .i64 xs[k]) (by rw [List.getElem?_map, ex]; rfl)
      have cy := h2 k (.int .i64 ys[k]) (by rw [List.getElem?_map, ey]; rfl)
      have EX := hid ex; have EY := hid ey; have HX := hid hx; have HY := hid hy
      clear ex ey
      have H1 := hid h1; have H2 := hid h2; clear h1 h2
      generalize xs[k] = x at *
      generalize ys[k] = y at *
      clear hx hy
      by_cases g : x = y
      · have d : (x != y) = false := by simp [g]
        have G := hid g; clear g
        go_wp2
        go_quiet (fail)
        go_wp2
        go_roundw
        case rel => exact ⟨k + 1, m + nq, by omega, by go_num, rfl, fun i hi => by
          by_cases e : i = k
          · subst e; rw [EX.out, EY.out, G.out]
          · exact HJ.out i (by omega)⟩
        case measure => simp [intOf]; omega
      · have d : (x != y) = true := by simp [g]
        have G := hid g; clear g
        go_wp2
        go_quiet (fail)
        go_wp2
        go_ret
        exact ⟨by rw [decide_eq_false (fun h => G.out (by rw [h] at EX; exact Option.some.inj (EX.out.symm.trans EY.out)))]; rfl, m + nq, by unfold World.drewN; simp [Nat.add_assoc]⟩
    · obtain rfl : k = n := by omega
      go_wp2
      go_ret
      exact ⟨by rw [decide_eq_true (take_all hx hy HJ.out)]; rfl, _, rfl⟩
end Go.Proofs.YticpjaooegpipaaDoor
