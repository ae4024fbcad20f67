/-
  Fields, forms and comparisons as chapter 22's laws name them.
-/
import Derived.Test.YtogenbggjodcnaaDoorGetB
namespace Go.Proofs.YtogenbggjodcnaaDoor
open Go.RowKit

theorem form22_any (p v : Nat) (hp : p < B256) (h1 : 1 < p) (hv : v < B256) (w : World) : Calls Tryd.prog 41 #[vec p, vec v] w (Ret (vec (frm p v)) w) := by
  go_enter Tryd.func41, Tryd.ntmps41
  go_wp2_with fail
  refine (rform_any p v hp h1 hv _).mono ?_
  rintro e w1 ⟨rfl, hb1⟩
  have h_p : Blk w1 (w.heap.size) 28 [.int .u64 (limb p 0 : Int), .int .u64 (limb p 1 : Int), .int .u64 (limb p 2 : Int), .int .u64 (limb p 3 : Int)] := Blk.keep (Blk.alloc (Blk.alloc (Blk.new (by simp)) _) _) hb1
  have h_v : Blk w1 (w.heap.size + 1) 28 [.int .u64 (limb v 0 : Int), .int .u64 (limb v 1 : Int), .int .u64 (limb v 2 : Int), .int .u64 (limb v 3 : Int)] := Blk.keep (Blk.alloc (Blk.new (by simp)) _) hb1
  have h_r : Blk w1 (w.heap.size + 1 + 1) 29 [.int .u64 0, .int .u64 0, .int .u64 0, .int .u64 0] := Blk.keep (Blk.new (by simp)) hb1
  have B1 : Below w.heap.size w w1 := Below.call (by go_grown) hb1
  have zB1 := B1.size
  have z_p := h_p.lt
  have z_v := h_v.lt
  have z_r := h_r.lt
  have c_r0 := h_r.cell (i := 0) rfl
  have c_r1 := h_r.cell (i := 1) rfl
  have c_r2 := h_r.cell (i := 2) rfl
  have c_r3 := h_r.cell (i := 3) rfl
  have f_r0 := h_r.frozen 0
  have f_r1 := h_r.frozen 1
  have f_r2 := h_r.frozen 2
  have f_r3 := h_r.frozen 3
  go_wp2
  refine bodyPost_ret (by simp only [results, Tryd.results41]; go_simp; try rfl) rfl ?_
  exact ⟨rfl, by go_grown⟩
set_option maxRecDepth 100000 in
set_option maxHeartbeats 2000000 in
theorem get22_any (s : Bool) (w : World) (hT : Tab w) : Calls Tryd.prog 36 #[.bool s] w (Ret (.tuple #[FV s, vec (fP s)]) w) := by
  have T0 := hid ((hT.alloc (.cells #[.int .i64 0, .int .u64 0, .int .u64 0, .int .u64 0, .int .u64 0, .int .u64 0, .int .u64 0, .int .u64 0, .int .u64 0, .int .u64 0, .int .u64 0, .int .u64 0, .int .u64 0, .int .u64 0] 31)).alloc (.cells #[.int .u64 0, .int .u64 0, .int .u64 0, .int .u64 0] 28))
  clear hT
  go_enter Tryd.func36, Tryd.ntmps36
  go_wp2_with (first | (go_at_call 57; refine (id_any s _).mono ?_; rintro e w' ⟨rfl, rfl⟩) | (go_at_call 56; refine (get_sec s _ T0.out).mono ?_; rintro e w1 ⟨rfl, hb1⟩; have h_f : Blk w1 w.heap.size 31 [.int .i64 0, .int .u64 0, .int .u64 0, .int .u64 0, .int .u64 0, .int .u64 0, .int .u64 0, .int .u64 0, .int .u64 0, .int .u64 0, .int .u64 0, .int .u64 0, .int .u64 0, .int .u64 0] := Blk.keep (Blk.alloc (Blk.new rfl) _) hb1; have h_v : Blk w1 (w.heap.size + 1) 28 [.int .u64 0, .int .u64 0, .int .u64 0, .int .u64 0] := Blk.keep (Blk.new (by simp)) hb1; have B1 : Below w.heap.size w w1 := Below.call (by go_grown) hb1; have zB1 := B1.size))
  have h_g0 : Blk (w1.alloc (.cells #[.int .i64 (fID s), .int .u64 (limb (fP s) 0 : Int), .int .u64 (limb (fP s) 1 : Int), .int .u64 (limb (fP s) 2 : Int), .int .u64 (limb (fP s) 3 : Int), .int .u64 (fI s : Int), .int .u64 (limb (fO s) 0 : Int), .int .u64 (limb (fO s) 1 : Int), .int .u64 (limb (fO s) 2 : Int), .int .u64 (limb (fO s) 3 : Int), .int .u64 (limb (fS s) 0 : Int), .int .u64 (limb (fS s) 1 : Int), .int .u64 (limb (fS s) 2 : Int), .int .u64 (limb (fS s) 3 : Int)] 31)) w1.heap.size 31 [.int .i64 (fID s), .int .u64 (limb (fP s) 0 : Int), .int .u64 (limb (fP s) 1 : Int), .int .u64 (limb (fP s) 2 : Int), .int .u64 (limb (fP s) 3 : Int), .int .u64 (fI s : Int), .int .u64 (limb (fO s) 0 : Int), .int .u64 (limb (fO s) 1 : Int), .int .u64 (limb (fO s) 2 : Int), .int .u64 (limb (fO s) 3 : Int), .int .u64 (limb (fS s) 0 : Int), .int .u64 (limb (fS s) 1 : Int), .int .u64 (limb (fS s) 2 : Int), .int .u64 (limb (fS s) 3 : Int)] := Blk.new rfl
  have h_f0 := Blk.alloc h_f (.cells #[.int .i64 (fID s), .int .u64 (limb (fP s) 0 : Int), .int .u64 (limb (fP s) 1 : Int), .int .u64 (limb (fP s) 2 : Int), .int .u64 (limb (fP s) 3 : Int), .int .u64 (fI s : Int), .int .u64 (limb (fO s) 0 : Int), .int .u64 (limb (fO s) 1 : Int), .int .u64 (limb (fO s) 2 : Int), .int .u64 (limb (fO s) 3 : Int), .int .u64 (limb (fS s) 0 : Int), .int .u64 (limb (fS s) 1 : Int), .int .u64 (limb (fS s) 2 : Int), .int .u64 (limb (fS s) 3 : Int)] 31)
  have h_v0 := Blk.alloc h_v (.cells #[.int .i64 (fID s), .int .u64 (limb (fP s) 0 : Int), .int .u64 (limb (fP s) 1 : Int), .int .u64 (limb (fP s) 2 : Int), .int .u64 (limb (fP s) 3 : Int), .int .u64 (fI s : Int), .int .u64 (limb (fO s) 0 : Int), .int .u64 (limb (fO s) 1 : Int), .int .u64 (limb (fO s) 2 : Int), .int .u64 (limb (fO s) 3 : Int), .int .u64 (limb (fS s) 0 : Int), .int .u64 (limb (fS s) 1 : Int), .int .u64 (limb (fS s) 2 : Int), .int .u64 (limb (fS s) 3 : Int)] 31)
  have B2 : Below w.heap.size w (w1.alloc (.cells #[.int .i64 (fID s), .int .u64 (limb (fP s) 0 : Int), .int .u64 (limb (fP s) 1 : Int), .int .u64 (limb (fP s) 2 : Int), .int .u64 (limb (fP s) 3 : Int), .int .u64 (fI s : Int), .int .u64 (limb (fO s) 0 : Int), .int .u64 (limb (fO s) 1 : Int), .int .u64 (limb (fO s) 2 : Int), .int .u64 (limb (fO s) 3 : Int), .int .u64 (limb (fS s) 0 : Int), .int .u64 (limb (fS s) 1 : Int), .int .u64 (limb (fS s) 2 : Int), .int .u64 (limb (fS s) 3 : Int)] 31)) := B1.alloc zB1 _
  generalize hw2 : w1.alloc (.cells #[.int .i64 (fID s), .int .u64 (limb (fP s) 0 : Int), .int .u64 (limb (fP s) 1 : Int), .int .u64 (limb (fP s) 2 : Int), .int .u64 (limb (fP s) 3 : Int), .int .u64 (fI s : Int), .int .u64 (limb (fO s) 0 : Int), .int .u64 (limb (fO s) 1 : Int), .int .u64 (limb (fO s) 2 : Int), .int .u64 (limb (fO s) 3 : Int), .int .u64 (limb (fS s) 0 : Int), .int .u64 (limb (fS s) 1 : Int), .int .u64 (limb (fS s) 2 : Int), .int .u64 (limb (fS s) 3 : Int)] 31) = w2 at *
  clear h_f h_v
  have g0 := h_g0.cell (i := 0) rfl
  have g1 := h_g0.cell (i := 1) rfl
  have g2 := h_g0.cell (i := 2) rfl
  have g3 := h_g0.cell (i := 3) rfl
  have g4 := h_g0.cell (i := 4) rfl
  have g5 := h_g0.cell (i := 5) rfl
  have g6 := h_g0.cell (i := 6) rfl
  have g7 := h_g0.cell (i := 7) rfl
  have g8 := h_g0.cell (i := 8) rfl
  have g9 := h_g0.cell (i := 9) rfl
  have g10 := h_g0.cell (i := 10) rfl
  have g11 := h_g0.cell (i := 11) rfl
  have g12 := h_g0.cell (i := 12) rfl
  have g13 := h_g0.cell (i := 13) rfl
  have zg := h_g0.lt
  have zf := h_f0.lt
  have zv := h_v0.lt
  go_region_with (first | (go_at_call 57; refine (id_any s _).mono ?_; rintro e w' ⟨rfl, rfl⟩) | (go_at_call 49; refine (modulus_sec s _).mono ?_; rintro e w3 ⟨rfl, hb3⟩; have hc := bcell hb3; have k_f := Blk.keep h_f0.drew hb3; have k_v := Blk.keep h_v0.drew hb3; have k_g := Blk.keep h_g0.drew hb3; have B3 : Below w.heap.size w w3 := Below.call (Below.drew B2) hb3; have q0 := k_g.cell (i := 0) rfl; have e0 := k_f.cell (i := 0) rfl; have m0 := k_f.frozen 0; have q1 := k_g.cell (i := 1) rfl; have e1 := k_f.cell (i := 1) rfl; have m1 := k_f.frozen 1; have q2 := k_g.cell (i := 2) rfl; have e2 := k_f.cell (i := 2) rfl; have m2 := k_f.frozen 2; have q3 := k_g.cell (i := 3) rfl; have e3 := k_f.cell (i := 3) rfl; have m3 := k_f.frozen 3; have q4 := k_g.cell (i := 4) rfl; have e4 := k_f.cell (i := 4) rfl; have m4 := k_f.frozen 4; have q5 := k_g.cell (i := 5) rfl; have e5 := k_f.cell (i := 5) rfl; have m5 := k_f.frozen 5; have q6 := k_g.cell (i := 6) rfl; have e6 := k_f.cell (i := 6) rfl; have m6 := k_f.frozen 6; have q7 := k_g.cell (i := 7) rfl; have e7 := k_f.cell (i := 7) rfl; have m7 := k_f.frozen 7; have q8 := k_g.cell (i := 8) rfl; have e8 := k_f.cell (i := 8) rfl; have m8 := k_f.frozen 8; have q9 := k_g.cell (i := 9) rfl; have e9 := k_f.cell (i := 9) rfl; have m9 := k_f.frozen 9; have q10 := k_g.cell (i := 10) rfl; have e10 := k_f.cell (i := 10) rfl; have m10 := k_f.frozen 10; have q11 := k_g.cell (i := 11) rfl; have e11 := k_f.cell (i := 11) rfl; have m11 := k_f.frozen 11; have q12 := k_g.cell (i := 12) rfl; have e12 := k_f.cell (i := 12) rfl; have m12 := k_f.frozen 12; have q13 := k_g.cell (i := 13) rfl; have e13 := k_f.cell (i := 13) rfl; have m13 := k_f.frozen 13; have r0 := k_v.cell (i := 0) rfl; have n0 := k_v.frozen 0; have r1 := k_v.cell (i := 1) rfl; have n1 := k_v.frozen 1; have r2 := k_v.cell (i := 2) rfl; have n2 := k_v.frozen 2; have r3 := k_v.cell (i := 3) rfl; have n3 := k_v.frozen 3; have yf := k_f.lt; have yv := k_v.lt; have yg := k_g.lt))
  all_goals go_wp2
  all_goals refine bodyPost_ret (by simp only [results, Tryd.results36]; go_simp; try rfl) rfl ?_
  all_goals exact ⟨rfl, by go_grown⟩
set_option maxRecDepth 100000 in
set_option maxHeartbeats 1000000 in
theorem same22_any (p : Nat) (v1 v2 : Value) (vs : List Nat) (w : World) (hp : p < B256) (h1 : 1 < p) (hS1 : NumSl w v1 (vs.map (frm p))) (hS2 : NumSl w v2 vs) (hl : vs.length < 1000000) : Calls Tryd.prog 38 #[vec p, v1, v2] w (Ret (.bool true) w) := by
  obtain ⟨a, cap, rfl, _, hrow⟩ := hS1
  obtain ⟨b, cap2, rfl, _, hrow2⟩ := hS2
  obtain ⟨n, hn⟩ : ∃ n, vs.length = n := ⟨_, rfl⟩
  rw [List.length_map, hn]
  rw [hn] at hl
  have HM := hid hn
  have HR := hid hrow
  have HR2 := hid hrow2
  have HP := hid hp
  have H1 := hid h1
  clear hn hrow hrow2 hp h1
  go_enter Tryd.func38, Tryd.ntmps38
  go_wp2
  go_loopw [15] (fun x wr => ∃ k : Nat, k ≤ n ∧ x = .int .i64 (k : Int) ∧ Below w.heap.size w wr ∧ Blk wr w.heap.size 28 [.int .u64 (limb p 0 : Int), .int .u64 (limb p 1 : Int), .int .u64 (limb p 2 : Int), .int .u64 (limb p 3 : Int)]) (fun x _ => n - (intOf x).toNat)
  case atStart => exact ⟨0, Nat.zero_le _, rfl, by go_grown, Blk.new rfl⟩
  case round =>
    obtain ⟨k, hk, rfl, hB, hp⟩ := hrel
    have zB := hB.size
    have zp := hp.lt
    have HB := hid hB
    by_cases hlt : k < n
    · obtain ⟨x, hx⟩ : ∃ x, vs[k]? = some x := ⟨vs[k]'(by rw [HM.out]; exact hlt), List.getElem?_eq_getElem _⟩
      have hy : (vs.map (frm p))[k]? = some (frm p x) := by rw [List.getElem?_map, hx]; rfl
      obtain ⟨g, off, hga, he⟩ : ∃ g off, a = some ⟨g, off, none⟩ ∧ NumsAt w g off (vs.map (frm p)) := by
        rcases HR.out with h | h
        · rw [h] at hy; cases hy
        · exact h
      obtain ⟨g2, off2, hgb, he2⟩ : ∃ g off, b = some ⟨g, off, none⟩ ∧ NumsAt w g off vs := by
        rcases HR2.out with h | h
        · rw [h] at hx; cases hx
        · exact h
      subst hga hgb
      obtain ⟨_, e0, e1, e2, e3⟩ := he k _ hy
      obtain ⟨hxl, y0, y1, y2, y3⟩ := he2 k x hx
      have hg : g < w.heap.size := World.block_lt_of_cell? w _ e0
      have hg2 : g2 < w.heap.size := World.block_lt_of_cell? w _ y0
      have hgr := Nat.lt_of_lt_of_le hg zB
      have hgr2 := Nat.lt_of_lt_of_le hg2 zB
      have d0 := (hB.cell (p := ⟨g, off + k * 4, none⟩) hg).trans e0
      have d1 := (hB.cell (p := ⟨g, off + k * 4 + 1, none⟩) hg).trans e1
      have d2 := (hB.cell (p := ⟨g, off + k * 4 + 2, none⟩) hg).trans e2
      have d3 := (hB.cell (p := ⟨g, off + k * 4 + 3, none⟩) hg).trans e3
      have u0 := (hB.cell (p := ⟨g2, off2 + k * 4, none⟩) hg2).trans y0
      have u1 := (hB.cell (p := ⟨g2, off2 + k * 4 + 1, none⟩) hg2).trans y1
      have u2 := (hB.cell (p := ⟨g2, off2 + k * 4 + 2, none⟩) hg2).trans y2
      have u3 := (hB.cell (p := ⟨g2, off2 + k * 4 + 3, none⟩) hg2).trans y3
      have p0 := hp.cell (i := 0) rfl
      have p1 := hp.cell (i := 1) rfl
      have p2 := hp.cell (i := 2) rfl
      have p3 := hp.cell (i := 3) rfl
      have HPB := hid hp
      have FMC := hid (form22_any p x HP.out H1.out hxl)
      have heq := fun W : World => eq_same_el (limb (frm p x) 0 : Int) (limb (frm p x) 1 : Int) (limb (frm p x) 2 : Int) (limb (frm p x) 3 : Int) W
      clear e0 e1 e2 e3 y0 y1 y2 y3 he he2 hx hy hB hp
      go_wp2
      go_region_with (go_at_call 41; refine (FMC.out _).mono ?_; rintro e w1 ⟨rfl, b1⟩; have B1 := hid ((Below.drew HB.out).trans (b1.mono zB)); have P1 := hid (Blk.keep HPB.out.drew b1); have m0 := (b1.cell (p := ⟨g, off + k * 4, none⟩) hgr).trans d0; have m1 := (b1.cell (p := ⟨g, off + k * 4 + 1, none⟩) hgr).trans d1; have m2 := (b1.cell (p := ⟨g, off + k * 4 + 2, none⟩) hgr).trans d2; have m3 := (b1.cell (p := ⟨g, off + k * 4 + 3, none⟩) hgr).trans d3; have zb1 : g < w1.heap.size := Nat.lt_of_lt_of_le hgr b1.size; clear b1)
      all_goals (
        go_wp2
        refine ⟨?_, ?_⟩
        · first
            | ((repeat apply Exists.intro); refine ⟨?_, rfl⟩; exact ⟨k + 1, by omega, by go_num, B1.out, P1.out⟩)
            | exact ⟨k + 1, by omega, by go_num, B1.out, P1.out⟩
        · simp [intOf]; omega)
    · obtain rfl : k = n := by omega
      go_wp2
      go_ret
      exact ⟨rfl, HB.out⟩
end Go.Proofs.YtogenbggjodcnaaDoor
