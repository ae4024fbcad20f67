/-
  Sources: New, Left, check and Take; the reference's Take.
-/
import Derived.Test.YtaakdmjmanbggaaDoorSrc
namespace Go.Proofs.YtaakdmjmanbggaaDoor
open Go.RowKit

set_option maxRecDepth 100000 in
set_option maxHeartbeats 1000000 in
theorem new_any (v : Value) (l : List Nat) (w : World) (hS : ByteSl w v l) (hl : l.length < 1000000) :
    Calls Tryd.prog 10 #[v] w fun e w' => ∃ s r, e = .returned (.pointer (some ⟨s, 0, none⟩)) ∧ Blk w' s 65 [r] ∧ w'.ownsRow w.heap.size 5 1 r l.length (bys l) ∧ w.heap.size ≤ s ∧ Below w.heap.size w w' := by
  have HS := hid hS
  clear hS
  go_enter Tryd.func10, Tryd.ntmps10
  go_wp2_with fail
  refine (cloneb_any v l w HS.out hl).mono ?_
  rintro e w1 ⟨r, rfl, ho, b1⟩
  obtain ⟨a, c, rfl, hc, _, _⟩ := owns_form ho
  have HO := hid ho
  have B1 := hid b1
  clear ho hc b1
  go_wp2
  go_ret
  refine ⟨w1.heap.size, _, rfl, Blk.new (by simp), HO.out.alloc _, B1.out.size, B1.out.alloc B1.out.size _⟩

theorem limbs_zero : vec 0 = .agg #[.int .u64 0, .int .u64 0, .int .u64 0, .int .u64 0] := by unfold vec; rw [limb0, limb1, limb2, limb3]; rfl
/-- The error of taking n units of u bytes out of m. -/
def chk (m : Nat) (n : Int) (u : Nat) : Int := if n < 0 then 2 else if (m / u : Nat) < n then 7 else 0
set_option maxRecDepth 100000 in
set_option maxHeartbeats 1000000 in
theorem check_any (s m cap : Nat) (a : Option Addr) (n : Int) (u : Nat) (hu : u = 1 ∨ u = 64) (hm : m < 1000000) (w : World) (hX : Blk w s 65 [.slice a m cap]) :
    Calls Tryd.prog 25 #[.pointer (some ⟨s, 0, none⟩), .int .i64 n, .int .i64 (u : Int)] w (Ret (.int .i64 (chk m n u)) w) := by
  have zs := hX.lt
  have cs := hX.cell (i := 0) rfl
  have zw : wrap64 (m : Int) = (m : Int) := by unfold wrap64; omega
  have zv : wrap64 ((m : Int) / 64) = (m : Int) / 64 := by unfold wrap64; omega
  clear hX
  go_enter Tryd.func25, Tryd.ntmps25
  rcases hu with rfl | rfl
  · by_cases h1 : n < 0
    · have E : chk m n 1 = 2 := by unfold chk; rw [if_pos h1]
      rw [E]
      go_wp2
      go_ret
      exact ⟨rfl, Below.refl _ _⟩
    · by_cases h2 : (m : Int) < n
      · have E : chk m n 1 = 7 := by unfold chk; rw [if_neg h1, if_pos (by omega)]
        rw [E]
        go_wp2
        go_ret
        exact ⟨rfl, Below.refl _ _⟩
      · have E : chk m n 1 = 0 := by unfold chk; rw [if_neg h1, if_neg (by omega)]
        rw [E]
        go_wp2
        go_ret
        exact ⟨rfl, Below.refl _ _⟩
  · by_cases h1 : n < 0
    · have E : chk m n 64 = 2 := by unfold chk; rw [if_pos h1]
      rw [E]
      go_wp2
      go_ret
      exact ⟨rfl, Below.refl _ _⟩
    · by_cases h2 : (m : Int) / 64 < n
      · have E : chk m n 64 = 7 := by unfold chk; rw [if_neg h1, if_pos (by omega)]
        rw [E]
        go_wp2
        go_ret
        exact ⟨rfl, Below.refl _ _⟩
      · have E : chk m n 64 = 0 := by unfold chk; rw [if_neg h1, if_neg (by omega)]
        rw [E]
        go_wp2
        go_ret
        exact ⟨rfl, Below.refl _ _⟩
/-- How many bytes a take of n out of m yields. -/
def tkn (m : Nat) (n : Int) : Nat := if chk m n 1 = 0 then n.toNat else 0
theorem chk_ok {m : Nat} {n : Int} (h : chk m n 1 = 0) : ∃ k : Nat, n = (k : Int) ∧ k ≤ m ∧ tkn m n = k := by
  have ht : tkn m n = n.toNat := by unfold tkn; rw [if_pos h]
  unfold chk at h
  by_cases h1 : n < 0
  · rw [if_pos h1] at h; omega
  · rw [if_neg h1] at h
    by_cases h2 : ((m / 1 : Nat) : Int) < n
    · rw [if_pos h2] at h; omega
    · exact ⟨n.toNat, by omega, by omega, ht⟩
set_option maxRecDepth 100000 in
set_option maxHeartbeats 1000000 in
theorem take_any (s g : Nat) (l : List Nat) (n : Int) (hl : l.length < 1000000) (w : World) (hS : Src w 65 s g l) :
    Calls Tryd.prog 12 #[.pointer (some ⟨s, 0, none⟩), .int .i64 n] w fun e w' => ∃ r, e = .returned (.tuple #[r, .int .i64 (chk l.length n 1)]) ∧
      w'.ownsRow w.heap.size 5 1 r (tkn l.length n) (bys (l.take (tkn l.length n))) ∧ Src w' 65 s g (l.drop (tkn l.length n)) ∧ Only (fun k => k = s) w w' := by
  obtain ⟨a, cap, hX, hB, hG⟩ := id hS
  have hC := check_any s l.length cap a n 1 (.inl rfl) hl w hX
  by_cases h : chk l.length n 1 = 0
  · obtain ⟨k, rfl, hk, ht⟩ := chk_ok h
    rw [h] at hC
    rw [ht, h]
    have HC := hid hC
    have HS := hid hS
    have G1 := hid hG
    have HX := hid hX
    have HB := hid hB
    have hcl : l.length ≤ cap := by obtain ⟨_, _, e, hc, _⟩ := hB; injection e with e1 e2 e3; omega
    have hk2 : (k : Int) ≤ (cap : Int) := by obtain ⟨_, _, e, hc, _⟩ := hB; injection e with e1 e2 e3; omega
    clear hS hX hB hC hG ht h
    go_enter Tryd.func12, Tryd.ntmps12
    go_wp2_with fail
    refine (HC.out).mono ?_
    rintro e w1 ⟨rfl, b1⟩
    have B1 := hid b1
    replace HX := hid (HX.out.keep b1)
    replace HB := hid (HB.out.below b1)
    replace HS := hid (HS.out.below b1)
    clear b1 HC
    have zs := HX.out.lt
    have cs := HX.out.cell (i := 0) rfl
    have fs := HX.out.frozen 0
    go_wp2_with fail
    have hP := HB.out.head (by omega) (by omega)
    refine (cloneb_any _ (l.take k) _ hP (by simp; omega)).mono ?_
    rintro e w2 ⟨r, rfl, ho, b2⟩
    rw [List.length_take, Nat.min_eq_left hk] at ho
    have HO := hid ho
    have B2 := hid b2
    replace HX := hid (HX.out.keep b2)
    replace HB := hid (HB.out.below b2)
    replace HS := hid (HS.out.below b2)
    have z0 := zs
    clear b2 ho hP cs fs zs
    have zs := HX.out.lt
    have cs := HX.out.cell (i := 0) rfl
    have fs := HX.out.frozen 0
    have FIN : ∀ (a' : Option Addr) (n' c' : Nat), (∀ ad, a' = some ad → ad.block = g) → ByteSl w2 (.slice a' n' c') (l.drop k) → ∃ r', Ending.returned (.tuple #[r, .int .i64 0]) = .returned (.tuple #[r', .int .i64 0]) ∧ (w2.setCell ⟨s, 0, none⟩ (.slice a' n' c')).ownsRow w.heap.size 5 1 r' k (bys (l.take k)) ∧ Src (w2.setCell ⟨s, 0, none⟩ (.slice a' n' c')) 65 s g (l.drop k) ∧ Only (fun k => k = s) w (w2.setCell ⟨s, 0, none⟩ (.slice a' n' c')) := fun a' n' c' hg hu =>
      ⟨r, rfl, owns_mono (owns_old HO.out ((Only.refl (fun k => k = s) w2).setCell (p := ⟨s, 0, none⟩) (.inl rfl) (.slice a' n' c')) z0) B1.out.size, HS.out.put hu hg, ((Below.only B1.out (fun k => k = s)).trans (Below.only B2.out _)).setCell (p := ⟨s, 0, none⟩) (.inl rfl) (.slice a' n' c')⟩
    have FN := hid FIN
    have U1 := hid (HB.out.tail hk hcl)
    have U2 := hid (fun h : l.length ≤ k => ByteSl.tail0 w2 a h)
    clear FIN
    go_wp2_with fail
    all_goals refine bodyPost_ret (by simp only [results, Tryd.results12]; go_simp; try rfl) rfl ?_
    · exact FN.out _ _ _ G1.out (U2.out (by omega))
    · exact FN.out _ _ _ (map_block G1.out) U1.out
  · have ht : tkn l.length n = 0 := by unfold tkn; rw [if_neg h]
    rw [ht]
    have h0 : (chk l.length n 1 == 0) = false := by simpa using h
    generalize chk l.length n 1 = q at *
    have HC := hid hC
    have HS := hid hS
    clear hS hX hB hC hG h
    go_enter Tryd.func12, Tryd.ntmps12
    go_wp2_with fail
    refine (HC.out).mono ?_
    rintro e w1 ⟨rfl, b1⟩
    have B1 := hid b1
    replace HS := hid (HS.out.below b1)
    clear b1 HC
    go_wp2
    refine bodyPost_ret (by simp only [results, Tryd.results12]; go_simp; try rfl) rfl ?_
    exact ⟨_, rfl, ⟨rfl, .inl ⟨rfl, rfl⟩⟩, by rw [List.drop_zero]; exact HS.out, Below.only B1.out _⟩

set_option maxRecDepth 100000 in
set_option maxHeartbeats 1000000 in
theorem rtake_any (s g : Nat) (l : List Nat) (n : Int) (w : World) (hS : Src w 30 s g l) :
    Calls Tryd.prog 13 #[.pointer (some ⟨s, 0, none⟩), .int .i64 n] w fun e w' => ∃ r, e = .returned (.tuple #[r, .int .i64 (chk l.length n 1)]) ∧
      ByteSl w' r (l.take (tkn l.length n)) ∧ Src w' 30 s g (l.drop (tkn l.length n)) ∧ Only (fun k => k = s) w w' := by
  obtain ⟨a, cap, hX, hB, hG⟩ := id hS
  have hcl : l.length ≤ cap := by obtain ⟨_, _, e, hc, _⟩ := hB; injection e with e1 e2 e3; omega
  have HS := hid hS
  have G1 := hid hG
  have HB := hid hB
  have zs := hX.lt
  have cs := hX.cell (i := 0) rfl
  have fs := hX.frozen 0
  by_cases h : chk l.length n 1 = 0
  · obtain ⟨k, rfl, hk, ht⟩ := chk_ok h
    rw [ht, h]
    have hk2 : (k : Int) ≤ (cap : Int) := by omega
    have h1 : ¬ (k : Int) < 0 := by omega
    have h2 : ¬ ((l.length : Int) < (k : Int)) := by omega
    have FIN : ∀ (a' : Option Addr) (n' c' : Nat), (∀ ad, a' = some ad → ad.block = g) → ByteSl w (.slice a' n' c') (l.drop k) → ∃ r', Ending.returned (.tuple #[.slice a k cap, .int .i64 0]) = .returned (.tuple #[r', .int .i64 0]) ∧ ByteSl (w.setCell ⟨s, 0, none⟩ (.slice a' n' c')) r' (l.take k) ∧ Src (w.setCell ⟨s, 0, none⟩ (.slice a' n' c')) 30 s g (l.drop k) ∧ Only (fun k => k = s) w (w.setCell ⟨s, 0, none⟩ (.slice a' n' c')) := fun a' n' c' hg hu =>
      have ho := (Only.refl (fun k => k = s) w).setCell (p := ⟨s, 0, none⟩) (.inl rfl) (.slice a' n' c')
      ⟨_, rfl, (HB.out.head hk (by omega)).src HS.out ho, HS.out.put hu hg, ho⟩
    have FN := hid FIN
    have U1 := hid (HB.out.tail hk hcl)
    have U2 := hid (fun h : l.length ≤ k => ByteSl.tail0 w a h)
    clear FIN hS hX hB hG ht h HS HB
    go_enter Tryd.func13, Tryd.ntmps13
    go_wp2_with fail
    all_goals refine bodyPost_ret (by simp only [results, Tryd.results13]; go_simp; try rfl) rfl ?_
    · have e : cap = k := by omega
      rw [e] at FN
      exact FN.out _ _ _ G1.out (U2.out (by omega))
    · exact FN.out _ _ _ (map_block G1.out) U1.out
  · have ht : tkn l.length n = 0 := by unfold tkn; rw [if_neg h]
    rw [ht]
    have FIN : ∃ r', Ending.returned (.tuple #[.slice none 0 0, .int .i64 (chk l.length n 1)]) = .returned (.tuple #[r', .int .i64 (chk l.length n 1)]) ∧ ByteSl w r' (l.take 0) ∧ Src w 30 s g (l.drop 0) ∧ Only (fun k => k = s) w w := ⟨_, rfl, ByteSl.nil w _ _, HS.out, Only.refl _ w⟩
    by_cases h1 : n < 0
    · have E : chk l.length n 1 = 2 := by unfold chk; rw [if_pos h1]
      rw [E] at FIN ⊢
      have FN := hid FIN
      clear FIN hS hX hB hG ht h HS HB E
      go_enter Tryd.func13, Tryd.ntmps13
      go_wp2
      refine bodyPost_ret (by simp only [results, Tryd.results13]; go_simp; try rfl) rfl ?_
      exact FN.out
    · have h2 : (l.length : Int) < n := by
        unfold chk at h
        rw [if_neg h1] at h
        by_cases h2 : ((l.length / 1 : Nat) : Int) < n
        · omega
        · rw [if_neg h2] at h; exact absurd rfl h
      have E : chk l.length n 1 = 7 := by unfold chk; rw [if_neg h1, if_pos (by omega)]
      rw [E] at FIN ⊢
      have FN := hid FIN
      clear FIN hS hX hB hG ht h HS HB E
      go_enter Tryd.func13, Tryd.ntmps13
      go_wp2
      refine bodyPost_ret (by simp only [results, Tryd.results13]; go_simp; try rfl) rfl ?_
      exact FN.out
set_option maxRecDepth 100000 in
theorem left_any (s g : Nat) (l : List Nat) (w : World) (hS : Src w 65 s g l) :
    Calls Tryd.prog 11 #[.pointer (some ⟨s, 0, none⟩)] w (fun e w' => e = .returned (.int .i64 (l.length : Int)) ∧ w = w') := by
  obtain ⟨a, cap, hX, _⟩ := id hS
  have zs := hX.lt
  have cs := hX.cell (i := 0) rfl
  clear hS hX
  go_enter Tryd.func11, Tryd.ntmps11
  go_wp2
  go_ret
  exact ⟨rfl, rfl⟩
set_option maxRecDepth 100000 in
theorem left_nil (w : World) : Calls Tryd.prog 11 #[.pointer none] w (Ret (.int .i64 0) w) := by
  go_enter Tryd.func11, Tryd.ntmps11
  go_wp2
  go_ret
  exact ⟨rfl, Below.refl _ _⟩
set_option maxRecDepth 100000 in
theorem check_nil (n u : Int) (w : World) : Calls Tryd.prog 25 #[.pointer none, .int .i64 n, .int .i64 u] w (Ret (.int .i64 1) w) := by
  go_enter Tryd.func25, Tryd.ntmps25
  go_wp2
  go_ret
  exact ⟨rfl, Below.refl _ _⟩
set_option maxRecDepth 100000 in
theorem take_nil (n : Int) (w : World) : Calls Tryd.prog 12 #[.pointer none, .int .i64 n] w (Ret (.tuple #[.slice none 0 0, .int .i64 1]) w) := by
  go_enter Tryd.func12, Tryd.ntmps12
  go_wp2_with fail
  refine (check_nil n 1 _).mono ?_
  rintro e w1 ⟨rfl, b1⟩
  have B1 := hid b1
  clear b1
  go_wp2
  refine bodyPost_ret (by simp only [results, Tryd.results12]; go_simp; try rfl) rfl ?_
  exact ⟨rfl, B1.out⟩
set_option maxRecDepth 100000 in
theorem element_nil (w : World) (i : Int) (p n o s : Nat) : Calls Tryd.prog 20 #[.pointer none, fld i p n o s] w (Ret (.tuple #[vec 0, .int .i64 1]) w) := by
  have HZ := hid limbs_zero
  go_enter Tryd.func20, Tryd.ntmps20
  go_wp2_with fail
  refine (take_nil 64 _).mono ?_
  rintro e w1 ⟨rfl, b1⟩
  have X_R : Blk w1 (w.heap.size + 1) 42 [.int .u64 0, .int .u64 0, .int .u64 0, .int .u64 0] := Blk.keep (Blk.new (by simp)) b1
  have B1 : Below w.heap.size w w1 := Below.call (by go_grown) b1
  have zB1 := B1.size
  clear b1
  have z_R := X_R.lt
  have c0 := X_R.cell (i := 0) rfl
  have c1 := X_R.cell (i := 1) rfl
  have c2 := X_R.cell (i := 2) rfl
  have c3 := X_R.cell (i := 3) rfl
  have f0 := X_R.frozen 0
  have f1 := X_R.frozen 1
  have f2 := X_R.frozen 2
  have f3 := X_R.frozen 3
  go_wp2
  refine bodyPost_ret (by simp only [results, Tryd.results20]; go_simp; try rfl) rfl ?_
  exact ⟨by rw [HZ.out], by go_grown⟩
set_option maxRecDepth 100000 in
theorem elements_nil (n : Int) (w : World) (i : Int) (p m o s : Nat) : Calls Tryd.prog 17 #[.pointer none, fld i p m o s, .int .i64 n] w (Ret (.tuple #[.slice none 0 0, .int .i64 1]) w) := by
  go_enter Tryd.func17, Tryd.ntmps17
  go_wp2_with fail
  refine (check_nil n 64 _).mono ?_
  rintro e w1 ⟨rfl, b1⟩
  have B1 : Below w.heap.size w w1 := Below.call (by go_grown) b1
  have HB := hid B1
  clear b1 B1
  go_wp2
  refine bodyPost_ret (by simp only [results, Tryd.results17]; go_simp; try rfl) rfl ?_
  exact ⟨rfl, HB.out⟩
end Go.Proofs.YtaakdmjmanbggaaDoor
