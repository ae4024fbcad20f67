/-
  Masks of bits, and the choice of a word by a mask.
-/
import Derived.Test.YtfaicnileghjiaaDoorBase
import Derived.Test.YtfaicnileghjiaaDoorNum3
import Derived.StillTailTactics
namespace Go.Proofs.YtfaicnileghjiaaDoor
open Go.RowKit

/-- A region that draws its order: all but the last operations read or call quietly; the last ones come in one order. -/
theorem wp_tail {P : Program} {id : Nat} {Q : Exit → Act → World → Prop} {a : Act} {w : World} {l : List Oper} (n : Nat) (hm : P.follows .mixedOrders = true) (hB : Region.lexTailB .any l.toArray n = true)
    (h : wpStill P l.toArray w.drew (fun a' => wpList P l.toArray Q (l.drop n) a' w.drew) (l.take n) a) : (Code.region id l.toArray true).wp P Q a w := wp_region_still_tail n hm hB h

theorem fromBit_any (b : Nat) (hb : b < B64) (w : World) :
    Calls Tryd.prog 67 #[.int .u64 (b : Int)] w fun e w' => e = .returned (.int .u64 (msk b : Int)) ∧ w = w' := by
  have h := hid (fromBit_word b hb)
  clear hb
  go_enter Tryd.func67, Tryd.ntmps67
  go_wp2
  go_ret
  exact ⟨by rw [← h.out]; rfl, rfl⟩
theorem mchoose_any (c a b : Nat) (ha : a < B64) (hb : b < B64) (w : World) :
    Calls Tryd.prog 74 #[.int .u64 (msk c : Int), .int .u64 (a : Int), .int .u64 (b : Int)] w fun e w' => e = .returned (.int .u64 (pick c a b : Int)) ∧ w = w' := by
  have h := hid (choose_word c a b ha hb)
  clear ha hb
  go_enter Tryd.func74, Tryd.ntmps74
  go_wp2
  go_ret
  exact ⟨by rw [← h.out]; rfl, rfl⟩
end Go.Proofs.YtfaicnileghjiaaDoor
