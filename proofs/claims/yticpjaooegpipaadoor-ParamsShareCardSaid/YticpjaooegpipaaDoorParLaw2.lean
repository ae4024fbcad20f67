/-
  ParamsShare: the walk.
-/
import Derived.Test.YticpjaooegpipaaDoorParAlive
import Derived.Test.YticpjaooegpipaaDoorParLarge
import Derived.Test.YticpjaooegpipaaDoorParShareR
namespace Go.Proofs.YticpjaooegpipaaDoor
open Go.RowKit

set_option maxRecDepth 100000 in
set_option maxHeartbeats 1000000 in
theorem share_law (f t i n : Int) (v : Value) (ps : List Nat) (w : World) (hT : Tab w) (hP : PaySl w v ps) : Calls Tryd.prog 4 #[.agg #[.int .i64 f, .int .i64 t, .int .i64 i, .int .i64 n, v]] w (Ret (.bool true) w) := by
  have HT := hid hT
  have HP0 := hid hP
  obtain ⟨a, cap, rfl, _, _⟩ := hP
  obtain ⟨m, hm⟩ : ∃ m, ps.length = m := ⟨_, rfl⟩
  rw [hm] at HP0 ⊢
  have HP := HP0
  clear hm hT HP0
  have X1 := hid (((Below.refl w.heap.size w).alloc (Nat.le_refl _) (.cells #[.int .i64 f, .int .i64 t, .int .i64 i, .int .i64 n, .slice a m cap] 31)).alloc (by simp) (.cells #[.int .i64 f, .int .i64 t, .int .i64 i, .int .i64 n, .slice a m cap] 31))
  go_enter Tryd.func4, Tryd.ntmps4
  go_wp2_with fail
  refine (large_any _ [⟨f, t, i, n, .slice a m cap, ps⟩] _ (sh_one (s := ⟨f, t, i, n, .slice a m cap, ps⟩) (r := []) (Blk.new (by simp)) (HP.out.below X1.out) (Nat.le_refl 1))).mono ?_
  rintro e w1 ⟨z, rfl, b, hz⟩
  have B1 : Below w.heap.size w w1 := X1.out.trans (b.mono (by simp; omega))
  have h_s : Blk w1 w.heap.size 31 [.int .i64 f, .int .i64 t, .int .i64 i, .int .i64 n, .slice a m cap] := Blk.keep (Blk.alloc (Blk.new rfl) _) b
  have zBw1 := B1.size
  have zw1 := h_s.lt
  rcases hz with rfl | ⟨rfl, _, _⟩
  · clear h_s b
    go_wp2_with fail
    refine (alive_any _ (HT.out.below B1 (Nat.le_refl _))).mono ?_
    rintro e w2 ⟨rfl, b2⟩
    have B2 : Below w.heap.size w w2 := B1.trans (b2.mono zBw1)
    clear b2
    go_wp2
    go_ret
    exact ⟨rfl, B2⟩
  · have n10 := h_s.cell (i := 0) rfl
    have n11 := h_s.cell (i := 1) rfl
    have n12 := h_s.cell (i := 2) rfl
    have n13 := h_s.cell (i := 3) rfl
    have n14 := h_s.cell (i := 4) rfl
    clear h_s b
    go_wp2
    go_region_held3 (fun w' => w'.cell? ⟨w.heap.size, 0, none⟩ = some (.int .i64 f) ∧ w'.cell? ⟨w.heap.size, 1, none⟩ = some (.int .i64 t) ∧ w'.cell? ⟨w.heap.size, 2, none⟩ = some (.int .i64 i) ∧ w'.cell? ⟨w.heap.size, 3, none⟩ = some (.int .i64 n) ∧ w'.cell? ⟨w.heap.size, 4, none⟩ = some (.slice a m cap)) ((first | (go_simp; done) | go_keep)) (first | (go_at_call 16; refine (rshare_any f t i n _ ps w3 (HP.out.below B3)).mono ?_; rintro e w4 ⟨rfl, b4⟩; have hc : ∀ b o, b < w3.heap.size → w4.cell? ⟨b, o, none⟩ = w3.cell? ⟨b, o, none⟩ := fun b o h => bcell (W := w3) b4 b o h; have n40 := (hc _ _ zw3).trans n30; have n41 := (hc _ _ zw3).trans n31; have n42 := (hc _ _ zw3).trans n32; have n43 := (hc _ _ zw3).trans n33; have n44 := (hc _ _ zw3).trans n34; have B4 : Below w.heap.size w w4 := Below.trans B3 (b4.mono (show w.heap.size ≤ w3.heap.size from zBw3)); have zBw4 := B4.size; have zw4 := Nat.lt_of_lt_of_le zw3 b4.size; clear hc) | (go_at_call 15; refine (pshare_any f t i n _ ps w2 (HT.out.below B2 (Nat.le_refl _)) (HP.out.below B2)).mono ?_; rintro e w3 ⟨rfl, b3⟩; have hc : ∀ b o, b < w2.heap.size → w3.cell? ⟨b, o, none⟩ = w2.cell? ⟨b, o, none⟩ := fun b o h => bcell (W := w2) b3 b o h; have n30 := (hc _ _ zw2).trans n20; have n31 := (hc _ _ zw2).trans n21; have n32 := (hc _ _ zw2).trans n22; have n33 := (hc _ _ zw2).trans n23; have n34 := (hc _ _ zw2).trans n24; have B3 : Below w.heap.size w w3 := Below.trans B2 (b3.mono (show w.heap.size ≤ w2.heap.size from zBw2)); have zBw3 := B3.size; have zw3 := Nat.lt_of_lt_of_le zw2 b3.size; clear hc) | (go_at_call 9; refine (alive_any w1.drew (HT.out.below B1.drew (Nat.le_refl _))).mono ?_; rintro e w2 ⟨rfl, b2⟩; have hc : ∀ b o, b < w1.heap.size → w2.cell? ⟨b, o, none⟩ = w1.cell? ⟨b, o, none⟩ := fun b o h => bcell (W := w1.drew) b2 b o h; have n20 := (hc _ _ zw1).trans n10; have n21 := (hc _ _ zw1).trans n11; have n22 := (hc _ _ zw1).trans n12; have n23 := (hc _ _ zw1).trans n13; have n24 := (hc _ _ zw1).trans n14; have B2 : Below w.heap.size w w2 := Below.trans (Below.drew B1) (b2.mono (show w.heap.size ≤ w1.heap.size from zBw1)); have zBw2 := B2.size; have zw2 := Nat.lt_of_lt_of_le zw1 b2.size; clear hc))
    go_wp2
    go_ret
    exact ⟨rfl, B4⟩
end Go.Proofs.YticpjaooegpipaaDoor
