/-
  The next elements of a source.
-/
import Derived.Test.YtaakdmjmanbggaaDoorElem
namespace Go.Proofs.YtaakdmjmanbggaaDoor
open Go.RowKit

/-- The numbers that n times 64 bytes stand for. -/
noncomputable def wids (p : Nat) (l : List Nat) (n : Nat) : List Nat := (List.range n).map fun i => wid p ((l.drop (64 * i)).take 64)
/-- Their forms. -/
noncomputable def els (p : Nat) (l : List Nat) (n : Nat) : List Nat := (List.range n).map fun i => frm p (wid p ((l.drop (64 * i)).take 64))
theorem wids_len (p : Nat) (l : List Nat) (n : Nat) : (wids p l n).length = n := by simp [wids]
theorem els_len (p : Nat) (l : List Nat) (n : Nat) : (els p l n).length = n := by simp [els]
theorem wids_get (p : Nat) (l : List Nat) {n k : Nat} (h : k < n) : (wids p l n)[k]? = some (wid p ((l.drop (64 * k)).take 64)) := by simp [wids, List.getElem?_map, List.getElem?_range h]
theorem els_get (p : Nat) (l : List Nat) {n k : Nat} (h : k < n) : (els p l n)[k]? = some (frm p (wid p ((l.drop (64 * k)).take 64))) := by simp [els, List.getElem?_map, List.getElem?_range h]
theorem els_lt {p : Nat} (l : List Nat) (n : Nat) (hp : 0 < p) : ∀ x ∈ els p l n, x < p := fun x hx => by
  unfold els at hx
  obtain ⟨i, _, rfl⟩ := List.mem_map.1 hx
  exact frm_lt _ hp
/-- How many elements a call for n out of m bytes yields. -/
def ekn (m : Nat) (n : Int) : Nat := if chk m n 64 = 0 then n.toNat else 0
theorem echk_ok {m : Nat} {n : Int} (h : chk m n 64 = 0) : ∃ k : Nat, n = (k : Int) ∧ 64 * k ≤ m ∧ ekn m n = k := by
  have ht : ekn m n = n.toNat := by unfold ekn; rw [if_pos h]
  unfold chk at h
  by_cases h1 : n < 0
  · rw [if_pos h1] at h; omega
  · rw [if_neg h1] at h
    by_cases h2 : ((m / 64 : Nat) : Int) < n
    · rw [if_pos h2] at h; omega
    · exact ⟨n.toNat, by omega, by omega, ht⟩
theorem els_next {p : Nat} {l : List Nat} {k z : Nat} (h : frm p (wid p ((l.drop (64 * k)).take 64)) = z) : els p l (k + 1) = els p l k ++ [z] := by
  unfold els; rw [List.range_succ, List.map_append, ← h]; rfl
theorem info_el : (Tryd.prog.info? 42).map (fun i => (i.zero, i.size, i.bytes)) = some (some (.agg #[.int .u64 0, .int .u64 0, .int .u64 0, .int .u64 0]), 4, 32) := by kernel_rfl
set_option maxRecDepth 100000 in
set_option maxHeartbeats 8000000 in
theorem elements_any (b : Bool) (s g : Nat) (l : List Nat) (n : Int) (hl : l.length < 1000000) (w : World) (hS : Src w 65 s g l) :
    Calls Tryd.prog 17 #[.pointer (some ⟨s, 0, none⟩), FV b, .int .i64 n] w fun e w' => ∃ r, e = .returned (.tuple #[r, .int .i64 (chk l.length n 64)]) ∧ w'.ownsRow w.heap.size 42 4 r (ekn l.length n) (nums (els (fP b) l (ekn l.length n))) ∧ Src w' 65 s g (l.drop (64 * ekn l.length n)) ∧ Only (fun k => k = s) w w' := by
  have BW := hid (Below.refl w.heap.size w)
  have hC := fun (a : Option Addr) (cap : Nat) (W : World) => check_any s l.length cap a n 64 (.inr rfl) hl W
  by_cases h : chk l.length n 64 = 0
  · skip
    obtain ⟨n, rfl, hn, ht⟩ := echk_ok h
    rw [h] at hC
    rw [ht, h]
    clear ht
    have HC := hid hC
    have HS := hid hS
    have zs0 : s < w.heap.size := by obtain ⟨a, c, hX, _⟩ := hS; exact hX.lt
    clear hS hC h
    go_enter Tryd.func17, Tryd.ntmps17
    go_wp2_with fail
    obtain ⟨v1, hv9⟩ : ∃ v, (w.alloc (.cells #[.int .i64 (fID b), .int .u64 (limb (fP b) 0 : Int), .int .u64 (limb (fP b) 1 : Int), .int .u64 (limb (fP b) 2 : Int), .int .u64 (limb (fP b) 3 : Int), .int .u64 (fI b : Int), .int .u64 (limb (fO b) 0 : Int), .int .u64 (limb (fO b) 1 : Int), .int .u64 (limb (fO b) 2 : Int), .int .u64 (limb (fO b) 3 : Int), .int .u64 (limb (fS b) 0 : Int), .int .u64 (limb (fS b) 1 : Int), .int .u64 (limb (fS b) 2 : Int), .int .u64 (limb (fS b) 3 : Int)] 44)) = v := ⟨_, rfl⟩
    have hG9 : Below w.heap.size w v1 := by rw [← hv9]; go_grown
    have X_F : Blk v1 (w.heap.size) 44 [.int .i64 (fID b), .int .u64 (limb (fP b) 0 : Int), .int .u64 (limb (fP b) 1 : Int), .int .u64 (limb (fP b) 2 : Int), .int .u64 (limb (fP b) 3 : Int), .int .u64 (fI b : Int), .int .u64 (limb (fO b) 0 : Int), .int .u64 (limb (fO b) 1 : Int), .int .u64 (limb (fO b) 2 : Int), .int .u64 (limb (fO b) 3 : Int), .int .u64 (limb (fS b) 0 : Int), .int .u64 (limb (fS b) 1 : Int), .int .u64 (limb (fS b) 2 : Int), .int .u64 (limb (fS b) 3 : Int)] := by rw [← hv9]; exact Blk.new rfl
    obtain ⟨bF, hb9⟩ : ∃ k, w.heap.size = k := ⟨_, rfl⟩
    rw [hb9] at X_F
    have g_bF : w.heap.size ≤ bF := by rw [← hb9]; exact BW.out.size
    replace BW := hid (BW.out.trans (hG9.mono BW.out.size))
    clear hG9
    rw [hv9]
    try rw [hb9]
    clear hv9 hb9
    replace HS := hid (HS.out.below BW.out)
    obtain ⟨a0, c0, hX0, _⟩ := HS.out
    refine ((HC.out a0 c0 _ hX0)).mono ?_
    rintro e v2 ⟨rfl, b2⟩
    clear hX0
    replace HS := hid (HS.out.below b2)
    replace X_F := X_F.keep b2
    replace BW := hid (BW.out.trans (b2.mono BW.out.size))
    clear b2
    clear HC
    obtain ⟨i0, hi, hz0, hz1, hz2⟩ := info_parts info_el
    have HG := hid (fun h : 0 < l.length => HS.out.blt h)
    have zv := BW.out.size
    go_wp2_with fail
    go_loopw [10, 22] (fun y i wr => ∃ k : Nat, k ≤ n ∧ i = .int .i64 (k : Int) ∧ Src wr 65 s g (l.drop (64 * k)) ∧ Only (fun j => j = s) v2 wr ∧ wr.ownsRow v2.heap.size 42 4 y k (nums (els (fP b) l k))) (fun _ i _ => n - (intOf i).toNat)
    case atStart => exact ⟨0, Nat.zero_le _, rfl, by rw [Nat.mul_zero, List.drop_zero]; exact HS.out, Only.refl _ _, by simpa [nums, els] using World.ownsRow_nil _ _ _ _⟩
    case round =>
      obtain ⟨k, hk, rfl, hs, hO, hw⟩ := hrel
      have ON := hid hO
      have OW := hid hw
      have HS1 := hid hs
      have zr := hO.size
      clear hs hO hw
      by_cases hlt : k < n
      · have zg := HG.out (by omega)
        have hq : 64 ≤ (l.drop (64 * k)).length := by simp; omega
        have hq2 : (l.drop (64 * k)).length < 1000000 := by simp; omega
        have EC := hid (element_ok b s g (l.drop (64 * k)) hq2 hq wr HS1.out)
        have hz := els_get (fP b) l (n := k + 1) (Nat.lt_succ_self k)
        obtain ⟨z, hz9⟩ : ∃ z, frm (fP b) (wid (fP b) ((l.drop (64 * k)).take 64)) = z := ⟨_, rfl⟩
        rw [hz9] at hz EC
        have T1 := hid (els_next hz9 : els (fP b) l (k + 1) = els (fP b) l k ++ [z])
        clear hz hz9 hq hq2
        have XF1 := X_F.only ON.out (show ¬ bF = s by omega)
        have z_F := XF1.lt
        have c_F0 := XF1.cell (i := 0) rfl
        have c_F1 := XF1.cell (i := 1) rfl
        have c_F2 := XF1.cell (i := 2) rfl
        have c_F3 := XF1.cell (i := 3) rfl
        have c_F4 := XF1.cell (i := 4) rfl
        have c_F5 := XF1.cell (i := 5) rfl
        have c_F6 := XF1.cell (i := 6) rfl
        have c_F7 := XF1.cell (i := 7) rfl
        have c_F8 := XF1.cell (i := 8) rfl
        have c_F9 := XF1.cell (i := 9) rfl
        have c_F10 := XF1.cell (i := 10) rfl
        have c_F11 := XF1.cell (i := 11) rfl
        have c_F12 := XF1.cell (i := 12) rfl
        have c_F13 := XF1.cell (i := 13) rfl
        go_wp2_with fail
        refine (EC.out).mono ?_
        rintro e w1 ⟨rfl, hs1, hO1⟩
        rw [List.drop_drop] at hs1
        have HS2 := hid hs1
        have ON2 := hid (ON.out.trans hO1)
        have OW2 := hid (owns_old OW.out hO1 (by omega))
        have z1 := hO1.size
        clear z_F c_F0 c_F1 c_F2 c_F3 c_F4 c_F5 c_F6 c_F7 c_F8 c_F9 c_F10 c_F11 c_F12 c_F13 XF1 hs1 hO1 EC
        go_wp2_with (at_builtin; refine wpList_append_own _ rfl _ _ 47 rfl v2.heap.size 42 i0 _ 4 32 Tryd.underlying47 hi hz0 hz1 hz2 rfl (by decide) _ k _ rfl ((OW2.out.alloc _).alloc _) ⟨w1.heap.size + 1, 0, none⟩ 1 1 (limbs z) rfl rfl (Blk.news (t := 42) (Blk.new (by simp))) (by simp [Value.oneCell']) (by unfold maxLen; omega) (by omega) (by simp; omega) ?_; intro v6 w2 ho hg2 _)
        have B2 := hid (Below.grown (((Below.refl v2.heap.size w1).alloc (show v2.heap.size ≤ w1.heap.size by omega) _).alloc (by simp; omega) _) hg2 (by simp; omega) (fun j hj => (OW2.out.lt j hj).1))
        have ho' : w2.ownsRow v2.heap.size 42 4 v6 (k + 1) (nums (els (fP b) l (k + 1))) := by rw [T1.out, nums_snoc]; exact ho
        go_roundw
        case rel => exact ⟨k + 1, by omega, by go_num, HS2.out.under B2.out (by omega) (by omega), ON2.out.under B2.out, ho'⟩
        case measure => simp [intOf]; omega
      · obtain rfl : n = k := by omega
        go_wp2
        refine bodyPost_ret (by simp only [results, Tryd.results17]; go_simp; try rfl) rfl ?_
        exact ⟨_, rfl, owns_mono OW.out zv, HS1.out, (Below.only BW.out _).trans ON.out⟩
  · skip
    have ht : ekn l.length n = 0 := by unfold ekn; rw [if_neg h]
    rw [ht]
    have h0 : (chk l.length n 64 == 0) = false := by simpa using h
    generalize chk l.length n 64 = q at *
    have HC := hid hC
    have HS := hid hS
    have zs0 : s < w.heap.size := by obtain ⟨a, c, hX, _⟩ := hS; exact hX.lt
    clear hS hC h
    go_enter Tryd.func17, Tryd.ntmps17
    go_wp2_with fail
    obtain ⟨v1, hv9⟩ : ∃ v, (w.alloc (.cells #[.int .i64 (fID b), .int .u64 (limb (fP b) 0 : Int), .int .u64 (limb (fP b) 1 : Int), .int .u64 (limb (fP b) 2 : Int), .int .u64 (limb (fP b) 3 : Int), .int .u64 (fI b : Int), .int .u64 (limb (fO b) 0 : Int), .int .u64 (limb (fO b) 1 : Int), .int .u64 (limb (fO b) 2 : Int), .int .u64 (limb (fO b) 3 : Int), .int .u64 (limb (fS b) 0 : Int), .int .u64 (limb (fS b) 1 : Int), .int .u64 (limb (fS b) 2 : Int), .int .u64 (limb (fS b) 3 : Int)] 44)) = v := ⟨_, rfl⟩
    have hG9 : Below w.heap.size w v1 := by rw [← hv9]; go_grown
    have X_F : Blk v1 (w.heap.size) 44 [.int .i64 (fID b), .int .u64 (limb (fP b) 0 : Int), .int .u64 (limb (fP b) 1 : Int), .int .u64 (limb (fP b) 2 : Int), .int .u64 (limb (fP b) 3 : Int), .int .u64 (fI b : Int), .int .u64 (limb (fO b) 0 : Int), .int .u64 (limb (fO b) 1 : Int), .int .u64 (limb (fO b) 2 : Int), .int .u64 (limb (fO b) 3 : Int), .int .u64 (limb (fS b) 0 : Int), .int .u64 (limb (fS b) 1 : Int), .int .u64 (limb (fS b) 2 : Int), .int .u64 (limb (fS b) 3 : Int)] := by rw [← hv9]; exact Blk.new rfl
    obtain ⟨bF, hb9⟩ : ∃ k, w.heap.size = k := ⟨_, rfl⟩
    rw [hb9] at X_F
    have g_bF : w.heap.size ≤ bF := by rw [← hb9]; exact BW.out.size
    replace BW := hid (BW.out.trans (hG9.mono BW.out.size))
    clear hG9
    rw [hv9]
    try rw [hb9]
    clear hv9 hb9
    replace HS := hid (HS.out.below BW.out)
    obtain ⟨a0, c0, hX0, _⟩ := HS.out
    refine ((HC.out a0 c0 _ hX0)).mono ?_
    rintro e v2 ⟨rfl, b2⟩
    clear hX0
    replace HS := hid (HS.out.below b2)
    replace X_F := X_F.keep b2
    replace BW := hid (BW.out.trans (b2.mono BW.out.size))
    clear b2
    clear HC
    go_wp2
    refine bodyPost_ret (by simp only [results, Tryd.results17]; go_simp; try rfl) rfl ?_
    exact ⟨_, rfl, ⟨rfl, .inl ⟨rfl, rfl⟩⟩, by rw [Nat.mul_zero, List.drop_zero]; exact HS.out, Below.only BW.out _⟩
end Go.Proofs.YtaakdmjmanbggaaDoor
