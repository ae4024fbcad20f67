/-
  The reference: the next values of a source.
-/
import Derived.Test.YtaakdmjmanbggaaDoorRWide
namespace Go.Proofs.YtaakdmjmanbggaaDoor
open Go.RowKit

theorem wids_next {p : Nat} {l : List Nat} {k z : Nat} (h : wid p ((l.drop (64 * k)).take 64) = z) : wids p l (k + 1) = wids p l k ++ [z] := by
  unfold wids; rw [List.range_succ, List.map_append, ← h]; rfl
theorem div_wrap {m : Nat} (h : m < 1000000) : wrap64 ((m : Int) / 64) = (m : Int) / 64 := by unfold wrap64; omega
theorem info_v4e : (Tryd.prog.info? 41).map (fun i => (i.zero, i.size, i.bytes)) = some (some (.agg #[.int .u64 0, .int .u64 0, .int .u64 0, .int .u64 0]), 4, 32) := by kernel_rfl
set_option maxRecDepth 100000 in
set_option maxHeartbeats 8000000 in
theorem relements_any (b : Bool) (s g : Nat) (l : List Nat) (n : Int) (hl : l.length < 1000000) (w : World) (hS : Src w 30 s g l) :
    Calls Tryd.prog 18 #[.pointer (some ⟨s, 0, none⟩), vec (fP b), .int .i64 n] w fun e w' => ∃ r, e = .returned (.tuple #[r, .int .i64 (chk l.length n 64)]) ∧ w'.ownsRow w.heap.size 41 4 r (ekn l.length n) (nums (wids (fP b) l (ekn l.length n))) ∧ Src w' 30 s g (l.drop (64 * ekn l.length n)) ∧ Only (fun k => k = s) w w' := by
  have BW := hid (Below.refl w.heap.size w)
  have zw : wrap64 ((l.length : Int) / 64) = (l.length : Int) / 64 := div_wrap hl
  by_cases h1 : n < 0
  · skip
    have E : chk l.length n 64 = 2 := by unfold chk; rw [if_pos h1]
    have ht : ekn l.length n = 0 := by unfold ekn; rw [if_neg (by rw [E]; decide)]
    rw [ht, E]
    clear ht E
    have HS := hid hS
    have zs0 : s < w.heap.size := hS.lt
    clear hS
    go_enter Tryd.func18, Tryd.ntmps18
    obtain ⟨a0, c0, hX0, _⟩ := HS.out
    have cs0 := hX0.cell (i := 0) rfl
    have zz0 := hX0.lt
    clear hX0
    go_wp2
    refine bodyPost_ret (by simp only [results, Tryd.results18]; go_simp; try rfl) rfl ?_
    have hB : Below w.heap.size w (w.alloc (.cells #[.int .u64 (limb (fP b) 0 : Int), .int .u64 (limb (fP b) 1 : Int), .int .u64 (limb (fP b) 2 : Int), .int .u64 (limb (fP b) 3 : Int)] 41)) := (Below.refl _ w).alloc (Nat.le_refl _) _
    exact ⟨_, rfl, ⟨rfl, .inl ⟨rfl, rfl⟩⟩, by first | exact HS.out.below hB | (rw [Nat.mul_zero, List.drop_zero]; exact HS.out.below hB), Below.only hB _⟩
  by_cases h2 : (l.length : Int) / 64 < n
  · skip
    have E : chk l.length n 64 = 7 := by unfold chk; rw [if_neg h1, if_pos (by omega)]
    have ht : ekn l.length n = 0 := by unfold ekn; rw [if_neg (by rw [E]; decide)]
    rw [ht, E]
    clear ht E
    have HS := hid hS
    have zs0 : s < w.heap.size := hS.lt
    clear hS
    go_enter Tryd.func18, Tryd.ntmps18
    obtain ⟨a0, c0, hX0, _⟩ := HS.out
    have cs0 := hX0.cell (i := 0) rfl
    have zz0 := hX0.lt
    clear hX0
    go_wp2
    refine bodyPost_ret (by simp only [results, Tryd.results18]; go_simp; try rfl) rfl ?_
    have hB : Below w.heap.size w (w.alloc (.cells #[.int .u64 (limb (fP b) 0 : Int), .int .u64 (limb (fP b) 1 : Int), .int .u64 (limb (fP b) 2 : Int), .int .u64 (limb (fP b) 3 : Int)] 41)) := (Below.refl _ w).alloc (Nat.le_refl _) _
    exact ⟨_, rfl, ⟨rfl, .inl ⟨rfl, rfl⟩⟩, by first | exact HS.out.below hB | (rw [Nat.mul_zero, List.drop_zero]; exact HS.out.below hB), Below.only hB _⟩
  have E : chk l.length n 64 = 0 := by unfold chk; rw [if_neg h1, if_neg (by omega)]
  obtain ⟨n, rfl, hn, ht⟩ := echk_ok E
  rw [ht, E]
  clear ht E
  have HS := hid hS
  have zs0 : s < w.heap.size := hS.lt
  clear hS
  go_enter Tryd.func18, Tryd.ntmps18
  obtain ⟨a0, c0, hX0, _⟩ := HS.out
  have cs0 := hX0.cell (i := 0) rfl
  have zz0 := hX0.lt
  clear hX0
  obtain ⟨i0, hi, hz0, hz1, hz2⟩ := info_parts info_v4e
  go_wp2_with fail
  obtain ⟨v1, hv9⟩ : ∃ v, (w.alloc (.cells #[.int .u64 (limb (fP b) 0 : Int), .int .u64 (limb (fP b) 1 : Int), .int .u64 (limb (fP b) 2 : Int), .int .u64 (limb (fP b) 3 : Int)] 41)) = v := ⟨_, rfl⟩
  have hG9 : Below w.heap.size w v1 := by rw [← hv9]; go_grown
  have X_P : Blk v1 (w.heap.size) 41 [.int .u64 (limb (fP b) 0 : Int), .int .u64 (limb (fP b) 1 : Int), .int .u64 (limb (fP b) 2 : Int), .int .u64 (limb (fP b) 3 : Int)] := by rw [← hv9]; exact Blk.new rfl
  obtain ⟨bP, hb9⟩ : ∃ k, w.heap.size = k := ⟨_, rfl⟩
  rw [hb9] at X_P
  have g_bP : w.heap.size ≤ bP := by rw [← hb9]; exact BW.out.size
  replace BW := hid (BW.out.trans (hG9.mono BW.out.size))
  clear hG9
  rw [hv9]
  try rw [hb9]
  clear hv9 hb9
  clear cs0 zz0
  replace HS := hid (HS.out.below BW.out)
  have zv := BW.out.size
  have HG := hid (fun h : 0 < l.length => HS.out.blt h)
  go_loopw [8, 9] (fun y i wr => ∃ k : Nat, k ≤ n ∧ i = .int .i64 (k : Int) ∧ Src wr 30 s g (l.drop (64 * k)) ∧ Only (fun j => j = s) v1 wr ∧ wr.ownsRow v1.heap.size 41 4 y k (nums (wids (fP b) l k))) (fun _ i _ => n - (intOf i).toNat)
  case atStart => exact ⟨0, Nat.zero_le _, rfl, by rw [Nat.mul_zero, List.drop_zero]; exact HS.out, Only.refl _ _, by simpa [nums, wids] using World.ownsRow_nil _ _ _ _⟩
  case round =>
    obtain ⟨k, hk, rfl, hs, hO, hw⟩ := hrel
    have ON := hid hO
    have OW := hid hw
    have HS1 := hid hs
    have zr := hO.size
    clear hs hO hw
    by_cases hlt : k < n
    · have zg := HG.out (by omega)
      have hq : 64 ≤ (l.drop (64 * k)).length := by simp; omega
      obtain ⟨z, hz9⟩ : ∃ z, wid (fP b) ((l.drop (64 * k)).take 64) = z := ⟨_, rfl⟩
      have WC := hid (fun (v : Value) (W : World) (h : ByteSl W v ((l.drop (64 * k)).take 64)) => rwide_any b v _ (by rw [List.length_take]; omega) W h)
      rw [hz9] at WC
      have T1 := hid (wids_next hz9 : wids (fP b) l (k + 1) = wids (fP b) l k ++ [z])
      have hc1 := chk_one hq
      have hT : tkn (l.drop (64 * k)).length 64 = 64 := by unfold tkn; rw [hc1]; rfl
      have TC := rtake_any s g (l.drop (64 * k)) 64 wr HS1.out
      rw [hT, hc1] at TC
      have HTC := hid TC
      clear hz9 hc1 hT TC hq
      go_wp2_with fail
      refine (HTC.out).mono ?_
      rintro e w1 ⟨r, rfl, hy1, hs1, hO1⟩
      rw [List.drop_drop] at hs1
      have HS2 := hid hs1
      have HY := hid hy1
      have ON2 := hid (ON.out.trans hO1)
      have OW2 := hid (owns_old OW.out hO1 (by omega))
      have z1 := hO1.size
      clear hs1 hO1 hy1 HTC
      have XP1 := X_P.only ON2.out (show ¬ bP = s by omega)
      have z_P := XP1.lt
      have c_P0 := XP1.cell (i := 0) rfl
      have c_P1 := XP1.cell (i := 1) rfl
      have c_P2 := XP1.cell (i := 2) rfl
      have c_P3 := XP1.cell (i := 3) rfl
      go_wp2_with fail
      refine (WC.out _ _ HY.out).mono ?_
      rintro e w2 ⟨rfl, b2⟩
      replace HS2 := hid (HS2.out.below b2)
      replace ON2 := hid (ON2.out.call b2)
      replace OW2 := hid (owns_keep OW2.out b2)
      have z2 := b2.size
      clear z_P c_P0 c_P1 c_P2 c_P3 XP1 b2 WC HY
      go_wp2_with (at_builtin; refine wpList_append_own _ rfl _ _ 50 rfl v1.heap.size 41 i0 _ 4 32 Tryd.underlying50 hi hz0 hz1 hz2 rfl (by decide) _ k _ rfl ((OW2.out.alloc _).alloc _) ⟨w2.heap.size + 1, 0, none⟩ 1 1 (limbs z) rfl rfl (Blk.news (t := 41) (Blk.new (by simp))) (by simp [Value.oneCell']) (by unfold maxLen; omega) (by omega) (by simp; omega) ?_; intro v6 w3 ho hg2 _)
      have B2 := hid (Below.grown (((Below.refl v1.heap.size w2).alloc (show v1.heap.size ≤ w2.heap.size by omega) _).alloc (by simp; omega) _) hg2 (by simp; omega) (fun j hj => (OW2.out.lt j hj).1))
      have ho' : w3.ownsRow v1.heap.size 41 4 v6 (k + 1) (nums (wids (fP b) l (k + 1))) := by rw [T1.out, nums_snoc]; exact ho
      go_roundw
      case rel => exact ⟨k + 1, by omega, by go_num, HS2.out.under B2.out (by omega) (by omega), ON2.out.under B2.out, ho'⟩
      case measure => simp [intOf]; omega
    · obtain rfl : n = k := by omega
      go_wp2
      refine bodyPost_ret (by simp only [results, Tryd.results18]; go_simp; try rfl) rfl ?_
      exact ⟨_, rfl, owns_mono OW.out zv, HS1.out, (Below.only BW.out _).trans ON.out⟩
end Go.Proofs.YtaakdmjmanbggaaDoor
