/-
  The next element of a source, and the next elements.
-/
import Derived.Test.YtaakdmjmanbggaaDoorWide
import Derived.Test.YtaakdmjmanbggaaDoorKit
import Derived.Laws.AppendOwn
namespace Go.Proofs.YtaakdmjmanbggaaDoor
open Go.RowKit

section
variable {w w' : World} {t : TypeId} {s g : Nat} {l : List Nat}
theorem Src.only {F : Nat → Prop} (h : Src w t s g l) (ho : Only F w w') (hs : ¬ F s) (hF : ∀ k o x, F k → w.cell? ⟨k, o, none⟩ ≠ some (.int .u8 x)) : Src w' t s g l := by
  obtain ⟨a, cap, hX, hS, hg⟩ := h
  exact ⟨a, cap, hX.only ho hs, hS.only ho hF, hg⟩
theorem Blk.nobyte {b : Nat} {xs : List Value} (h : Blk w b t xs) (hx : ∀ u ∈ xs, ∀ x : Int, u ≠ .int .u8 x) (o : Nat) (x : Int) : w.cell? ⟨b, o, none⟩ ≠ some (.int .u8 x) := by
  intro e
  unfold Blk at h
  simp only [World.cell?, h] at e
  have e2 : xs[o]? = some (.int .u8 x) := by simpa using e
  exact hx _ (List.mem_of_getElem? e2) x rfl
theorem words_nobyte (a b c d : Int) : ∀ u ∈ [Value.int .u64 a, .int .u64 b, .int .u64 c, .int .u64 d], ∀ x : Int, u ≠ .int .u8 x := by
  intro u hu x e
  simp at hu
  rcases hu with h | h | h | h <;> (rw [h] at e; cases e)
/-- A store of an element elsewhere. -/
theorem Src.set4 {c : Nat} {t' : TypeId} {a0 a1 a2 a3 : Int} (h : Src w t s g l) (hX : Blk w c t' [.int .u64 a0, .int .u64 a1, .int .u64 a2, .int .u64 a3]) (hne : ¬ s = c) (v0 v1 v2 v3 : Value) :
    Src ((((w.setCell ⟨c, 0, none⟩ v0).setCell ⟨c, 1, none⟩ v1).setCell ⟨c, 2, none⟩ v2).setCell ⟨c, 3, none⟩ v3) t s g l :=
  h.only (only_set4 w c v0 v1 v2 v3) hne (fun k o x hk => by subst hk; exact hX.nobyte (words_nobyte a0 a1 a2 a3) o x)
theorem Only.set4 {A : World} {c : Nat} (h : Only (fun k => k = s) A w) (hc : A.heap.size ≤ c) (v0 v1 v2 v3 : Value) :
    Only (fun k => k = s) A ((((w.setCell ⟨c, 0, none⟩ v0).setCell ⟨c, 1, none⟩ v1).setCell ⟨c, 2, none⟩ v2).setCell ⟨c, 3, none⟩ v3) :=
  h.then' (only_set4 w c v0 v1 v2 v3) (fun i hi => by subst hi; exact .inr hc)
end
theorem chk_one {m : Nat} (h : 64 ≤ m) : chk m 64 1 = 0 := by unfold chk; rw [if_neg (by omega), if_neg (by omega)]
theorem chk_few {m : Nat} (h : m < 64) : chk m 64 1 = 7 := by unfold chk; rw [if_neg (by omega), if_pos (by omega)]
set_option maxRecDepth 100000 in
set_option maxHeartbeats 2000000 in
theorem element_ok (b : Bool) (s g : Nat) (l : List Nat) (hl : l.length < 1000000) (hk : 64 ≤ l.length) (w : World) (hS : Src w 65 s g l) :
    Calls Tryd.prog 20 #[.pointer (some ⟨s, 0, none⟩), FV b] w fun e w' => e = .returned (.tuple #[vec (frm (fP b) (wid (fP b) (l.take 64))), .int .i64 0]) ∧ Src w' 65 s g (l.drop 64) ∧ Only (fun k => k = s) w w' := by
  have BW := hid (Below.refl w.heap.size w)
  have HS := hid hS
  have HSB := hid hS.byt
  have zs0 : s < w.heap.size := by obtain ⟨a, c, hX, _⟩ := hS; exact hX.lt
  clear hS
  have WX := hid (fun (g cap : Nat) (W : World) => wide_any b g cap (l.take 64) (by simp; omega) W)
  obtain ⟨z, hz⟩ : ∃ q, frm (fP b) (wid (fP b) (l.take 64)) = q := ⟨_, rfl⟩
  rw [hz] at WX ⊢
  clear hz
  go_enter Tryd.func20, Tryd.ntmps20
  go_wp2_with fail
  obtain ⟨v1, hv9⟩ : ∃ v, ((w.alloc (.cells #[.int .i64 (fID b), .int .u64 (limb (fP b) 0 : Int), .int .u64 (limb (fP b) 1 : Int), .int .u64 (limb (fP b) 2 : Int), .int .u64 (limb (fP b) 3 : Int), .int .u64 (fI b : Int), .int .u64 (limb (fO b) 0 : Int), .int .u64 (limb (fO b) 1 : Int), .int .u64 (limb (fO b) 2 : Int), .int .u64 (limb (fO b) 3 : Int), .int .u64 (limb (fS b) 0 : Int), .int .u64 (limb (fS b) 1 : Int), .int .u64 (limb (fS b) 2 : Int), .int .u64 (limb (fS b) 3 : Int)] 44)).alloc (.cells #[.int .u64 0, .int .u64 0, .int .u64 0, .int .u64 0] 42)) = v := ⟨_, rfl⟩
  have hG9 : Below w.heap.size w v1 := by rw [← hv9]; go_grown
  have X_F : Blk v1 (w.heap.size) 44 [.int .i64 (fID b), .int .u64 (limb (fP b) 0 : Int), .int .u64 (limb (fP b) 1 : Int), .int .u64 (limb (fP b) 2 : Int), .int .u64 (limb (fP b) 3 : Int), .int .u64 (fI b : Int), .int .u64 (limb (fO b) 0 : Int), .int .u64 (limb (fO b) 1 : Int), .int .u64 (limb (fO b) 2 : Int), .int .u64 (limb (fO b) 3 : Int), .int .u64 (limb (fS b) 0 : Int), .int .u64 (limb (fS b) 1 : Int), .int .u64 (limb (fS b) 2 : Int), .int .u64 (limb (fS b) 3 : Int)] := by rw [← hv9]; exact Blk.alloc (Blk.new rfl) _
  have X_R : Blk v1 (w.heap.size + 1) 42 [.int .u64 0, .int .u64 0, .int .u64 0, .int .u64 0] := by rw [← hv9]; exact Blk.new (by simp)
  obtain ⟨bF, hb9⟩ : ∃ k, w.heap.size = k := ⟨_, rfl⟩
  rw [hb9] at X_F
  rw [hb9] at X_R
  have g_bF : w.heap.size ≤ bF := by rw [← hb9]; exact BW.out.size
  replace BW := hid (BW.out.trans (hG9.mono BW.out.size))
  clear hG9
  rw [hv9]
  try rw [hb9]
  clear hv9 hb9
  replace HS := hid (HS.out.below BW.out)
  refine (take_any s g l 64 hl _ HS.out).mono ?_
  rintro e w2 ⟨r, rfl, ho, hs2, hO⟩
  have hT : tkn l.length 64 = 64 := by unfold tkn; rw [chk_one hk]; rfl
  rw [hT] at ho hs2
  rw [chk_one hk]
  have HS2 := hid hs2
  have ON := hid ((Below.only BW.out (fun k => k = s)).trans hO)
  replace X_F := X_F.only hO (by omega)
  replace X_R := X_R.only hO (by omega)
  clear hs2 hO HS hT
  have HO := hid ho
  obtain ⟨a, cap, rfl, _, _, ha⟩ := owns_form ho
  obtain ⟨g2, rfl⟩ := ha (by decide)
  have HB := hid (bys_own HO.out (by simp; omega) ((HSB.out).take 64))
  clear ho
  have z_F := X_F.lt
  have c_F0 := X_F.cell (i := 0) rfl
  have c_F1 := X_F.cell (i := 1) rfl
  have c_F2 := X_F.cell (i := 2) rfl
  have c_F3 := X_F.cell (i := 3) rfl
  have c_F4 := X_F.cell (i := 4) rfl
  have c_F5 := X_F.cell (i := 5) rfl
  have c_F6 := X_F.cell (i := 6) rfl
  have c_F7 := X_F.cell (i := 7) rfl
  have c_F8 := X_F.cell (i := 8) rfl
  have c_F9 := X_F.cell (i := 9) rfl
  have c_F10 := X_F.cell (i := 10) rfl
  have c_F11 := X_F.cell (i := 11) rfl
  have c_F12 := X_F.cell (i := 12) rfl
  have c_F13 := X_F.cell (i := 13) rfl
  go_wp2_with fail
  refine (WX.out g2 cap _ HB.out).mono ?_
  rintro e w3 ⟨rfl, b3⟩
  clear z_F c_F0 c_F1 c_F2 c_F3 c_F4 c_F5 c_F6 c_F7 c_F8 c_F9 c_F10 c_F11 c_F12 c_F13
  replace X_R := X_R.keep b3
  replace HS2 := hid (HS2.out.below b3)
  replace ON := hid (ON.out.call b3)
  clear b3 X_F
  have z_R := X_R.lt
  have c_R0 := X_R.cell (i := 0) rfl
  have f_R0 := X_R.frozen 0
  have c_R1 := X_R.cell (i := 1) rfl
  have f_R1 := X_R.frozen 1
  have c_R2 := X_R.cell (i := 2) rfl
  have f_R2 := X_R.frozen 2
  have c_R3 := X_R.cell (i := 3) rfl
  have f_R3 := X_R.frozen 3
  go_wp2
  refine bodyPost_ret (by simp only [results, Tryd.results20]; go_simp; try rfl) rfl ?_
  exact ⟨rfl, HS2.out.set4 X_R (by omega) _ _ _ _, ON.out.set4 (by omega) _ _ _ _⟩

set_option maxRecDepth 100000 in
set_option maxHeartbeats 2000000 in
theorem element_no (b : Bool) (s g : Nat) (l : List Nat) (hl : l.length < 1000000) (hk : l.length < 64) (w : World) (hS : Src w 65 s g l) :
    Calls Tryd.prog 20 #[.pointer (some ⟨s, 0, none⟩), FV b] w fun e w' => e = .returned (.tuple #[vec 0, .int .i64 7]) ∧ Src w' 65 s g (l) ∧ Only (fun k => k = s) w w' := by
  have BW := hid (Below.refl w.heap.size w)
  have HS := hid hS
  have zs0 : s < w.heap.size := by obtain ⟨a, c, hX, _⟩ := hS; exact hX.lt
  clear hS
  have HZ := hid limbs_zero
  go_enter Tryd.func20, Tryd.ntmps20
  go_wp2_with fail
  obtain ⟨v1, hv9⟩ : ∃ v, ((w.alloc (.cells #[.int .i64 (fID b), .int .u64 (limb (fP b) 0 : Int), .int .u64 (limb (fP b) 1 : Int), .int .u64 (limb (fP b) 2 : Int), .int .u64 (limb (fP b) 3 : Int), .int .u64 (fI b : Int), .int .u64 (limb (fO b) 0 : Int), .int .u64 (limb (fO b) 1 : Int), .int .u64 (limb (fO b) 2 : Int), .int .u64 (limb (fO b) 3 : Int), .int .u64 (limb (fS b) 0 : Int), .int .u64 (limb (fS b) 1 : Int), .int .u64 (limb (fS b) 2 : Int), .int .u64 (limb (fS b) 3 : Int)] 44)).alloc (.cells #[.int .u64 0, .int .u64 0, .int .u64 0, .int .u64 0] 42)) = v := ⟨_, rfl⟩
  have hG9 : Below w.heap.size w v1 := by rw [← hv9]; go_grown
  have X_F : Blk v1 (w.heap.size) 44 [.int .i64 (fID b), .int .u64 (limb (fP b) 0 : Int), .int .u64 (limb (fP b) 1 : Int), .int .u64 (limb (fP b) 2 : Int), .int .u64 (limb (fP b) 3 : Int), .int .u64 (fI b : Int), .int .u64 (limb (fO b) 0 : Int), .int .u64 (limb (fO b) 1 : Int), .int .u64 (limb (fO b) 2 : Int), .int .u64 (limb (fO b) 3 : Int), .int .u64 (limb (fS b) 0 : Int), .int .u64 (limb (fS b) 1 : Int), .int .u64 (limb (fS b) 2 : Int), .int .u64 (limb (fS b) 3 : Int)] := by rw [← hv9]; exact Blk.alloc (Blk.new rfl) _
  have X_R : Blk v1 (w.heap.size + 1) 42 [.int .u64 0, .int .u64 0, .int .u64 0, .int .u64 0] := by rw [← hv9]; exact Blk.new (by simp)
  obtain ⟨bF, hb9⟩ : ∃ k, w.heap.size = k := ⟨_, rfl⟩
  rw [hb9] at X_F
  rw [hb9] at X_R
  have g_bF : w.heap.size ≤ bF := by rw [← hb9]; exact BW.out.size
  replace BW := hid (BW.out.trans (hG9.mono BW.out.size))
  clear hG9
  rw [hv9]
  try rw [hb9]
  clear hv9 hb9
  replace HS := hid (HS.out.below BW.out)
  refine (take_any s g l 64 hl _ HS.out).mono ?_
  rintro e w2 ⟨r, rfl, ho, hs2, hO⟩
  have hT : tkn l.length 64 = 0 := by unfold tkn; rw [chk_few hk]; rfl
  rw [hT] at ho hs2
  rw [chk_few hk]
  have HS2 := hid (show Src w2 65 s g l from by rw [List.drop_zero] at hs2; exact hs2)
  have ON := hid ((Below.only BW.out (fun k => k = s)).trans hO)
  replace X_F := X_F.only hO (by omega)
  replace X_R := X_R.only hO (by omega)
  clear hs2 hO HS hT
  clear ho
  have z_R := X_R.lt
  have c_R0 := X_R.cell (i := 0) rfl
  have f_R0 := X_R.frozen 0
  have c_R1 := X_R.cell (i := 1) rfl
  have f_R1 := X_R.frozen 1
  have c_R2 := X_R.cell (i := 2) rfl
  have f_R2 := X_R.frozen 2
  have c_R3 := X_R.cell (i := 3) rfl
  have f_R3 := X_R.frozen 3
  go_wp2
  refine bodyPost_ret (by simp only [results, Tryd.results20]; go_simp; try rfl) rfl ?_
  exact ⟨by rw [HZ.out], HS2.out.set4 X_R (by omega) _ _ _ _, ON.out.set4 (by omega) _ _ _ _⟩

end Go.Proofs.YtaakdmjmanbggaaDoor
