/-
  ParamsShares: the walk.
-/
import Derived.Test.YticpjaooegpipaaDoorParAlive
import Derived.Test.YticpjaooegpipaaDoorParLarge
import Derived.Test.YticpjaooegpipaaDoorParSharesR
namespace Go.Proofs.YticpjaooegpipaaDoor
open Go.RowKit

set_option maxRecDepth 100000 in
set_option maxHeartbeats 1000000 in
theorem shares_law (v : Value) (ss : List Shr) (w : World) (hT : Tab w) (hS : ShSl w v ss) : Calls Tryd.prog 5 #[v] w (Ret (.bool true) w) := by
  have HT := hid hT
  have HS := hid hS
  clear hT hS
  go_enter Tryd.func5, Tryd.ntmps5
  go_wp2_with fail
  refine (large_any _ ss _ HS.out).mono ?_
  rintro e w1 ⟨z, rfl, b1, hz⟩
  have B1 := hid b1
  have T1 := hid (HT.out.below b1 (Nat.le_refl _))
  clear b1
  rcases hz with rfl | ⟨rfl, hl1, _⟩
  · go_wp2_with fail
    refine (alive_any _ T1.out).mono ?_
    rintro e w2 ⟨rfl, b2⟩
    have B2 := hid (B1.out.trans (b2.mono B1.out.size))
    clear b2
    go_wp2
    go_ret
    exact ⟨rfl, B2.out⟩
  · go_wp2_with fail
    refine (alive_any _ T1.out).mono ?_
    rintro e w2 ⟨rfl, b2⟩
    have B2 := hid (B1.out.trans (b2.mono B1.out.size))
    clear b2
    go_wp2_with fail
    refine (pshares_any _ ss _ (HT.out.below B2.out (Nat.le_refl _)) (HS.out.below B2.out) (by omega)).mono ?_
    rintro e w3 ⟨rfl, b3⟩
    have B3 := hid (B2.out.trans (b3.mono B2.out.size))
    clear b3
    go_wp2_with fail
    refine (rshares_any _ ss _ (HS.out.below B3.out) (by omega)).mono ?_
    rintro e w4 ⟨rfl, b4⟩
    have B4 := hid (B3.out.trans (b4.mono B3.out.size))
    clear b4
    go_wp2
    go_ret
    exact ⟨rfl, B4.out⟩
end Go.Proofs.YticpjaooegpipaaDoor
