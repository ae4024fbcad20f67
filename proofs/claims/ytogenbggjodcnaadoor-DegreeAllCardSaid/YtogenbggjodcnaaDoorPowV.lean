/-
  Inverses of elements.
-/
import Derived.Test.YtogenbggjodcnaaDoorPowP
import Derived.Test.YtogenbggjodcnaaDoorInvN
namespace Go.Proofs.YtogenbggjodcnaaDoor
open Go.RowKit

theorem dif_two {m : Nat} (hm : m < B256) (h2 : 2 < m) : dif m 2 = m - 2 := by
  rw [dif_eq]; unfold B256 at *
  rw [show m + 115792089237316195423570985008687907853269984665640564039457584007913129639936 - 2 = m - 2 + 115792089237316195423570985008687907853269984665640564039457584007913129639936 by omega, Nat.add_mod_right, Nat.mod_eq_of_lt (by omega)]
set_option maxHeartbeats 1000000 in
theorem inverse_any (id : Int) (m inv s x : Nat) (hF : FieldOK m inv) (hx : x < m) (w : World) :
    Calls Tryd.prog 134 #[.pointer none, fld id m inv (frm m 1) s, vec (frm m x)] w (Ret (vec (frm m (invm m x))) w) := by
  have BW := hid (Below.refl w.heap.size w)
  have HP := hid (fun (e : Nat) (he : e < B256) (W : World) => pow_any id m inv s x e hF hx he W)
  have HS := hid (fun W : World => lsub_any m 2 hF.1 (by decide) W)
  rw [← vec_two, dif_two hF.1 hF.2.1] at HS
  have HM := hid (show m - 2 < B256 by have := hF.1; omega)
  have HI : Hid (powm m x (m - 2) = invm m x) := hid rfl
  obtain ⟨d, hd⟩ : ∃ d, m - 2 = d := ⟨_, rfl⟩
  rw [hd] at HS HM HI
  clear hd hF hx
  go_enter Tryd.func134, Tryd.ntmps134
  go_wp2_with fail
  obtain ⟨v1, hv9⟩ : ∃ v, (((w.alloc (.cells #[.int .i64 id, .int .u64 (limb m 0 : Int), .int .u64 (limb m 1 : Int), .int .u64 (limb m 2 : Int), .int .u64 (limb m 3 : Int), .int .u64 (inv : Int), .int .u64 (limb (frm m 1) 0 : Int), .int .u64 (limb (frm m 1) 1 : Int), .int .u64 (limb (frm m 1) 2 : Int), .int .u64 (limb (frm m 1) 3 : Int), .int .u64 (limb s 0 : Int), .int .u64 (limb s 1 : Int), .int .u64 (limb s 2 : Int), .int .u64 (limb s 3 : Int)] 31)).alloc (.cells #[.int .u64 (limb (frm m x) 0 : Int), .int .u64 (limb (frm m x) 1 : Int), .int .u64 (limb (frm m x) 2 : Int), .int .u64 (limb (frm m x) 3 : Int)] 29)).alloc (.cells #[.int .u64 0, .int .u64 0, .int .u64 0, .int .u64 0] 29)) = v := ⟨_, rfl⟩
  have hG9 : Below w.heap.size w v1 := by rw [← hv9]; go_grown
  have X_f : Blk v1 (w.heap.size) 31 [.int .i64 id, .int .u64 (limb m 0 : Int), .int .u64 (limb m 1 : Int), .int .u64 (limb m 2 : Int), .int .u64 (limb m 3 : Int), .int .u64 (inv : Int), .int .u64 (limb (frm m 1) 0 : Int), .int .u64 (limb (frm m 1) 1 : Int), .int .u64 (limb (frm m 1) 2 : Int), .int .u64 (limb (frm m 1) 3 : Int), .int .u64 (limb s 0 : Int), .int .u64 (limb s 1 : Int), .int .u64 (limb s 2 : Int), .int .u64 (limb s 3 : Int)] := by rw [← hv9]; exact Blk.alloc (Blk.alloc (Blk.new rfl) _) _
  have X_x : Blk v1 (w.heap.size + 1) 29 [.int .u64 (limb (frm m x) 0 : Int), .int .u64 (limb (frm m x) 1 : Int), .int .u64 (limb (frm m x) 2 : Int), .int .u64 (limb (frm m x) 3 : Int)] := by rw [← hv9]; exact Blk.alloc (Blk.new (by simp)) _
  have X_r : Blk v1 (w.heap.size + 1 + 1) 29 [.int .u64 0, .int .u64 0, .int .u64 0, .int .u64 0] := by rw [← hv9]; exact Blk.new (by simp)
  obtain ⟨bf, hb9⟩ : ∃ k, w.heap.size = k := ⟨_, rfl⟩
  rw [hb9] at X_f
  rw [hb9] at X_x
  rw [hb9] at X_r
  have g_bf : w.heap.size ≤ bf := by rw [← hb9]; exact BW.out.size
  replace BW := hid (BW.out.trans (hG9.mono BW.out.size))
  clear hG9
  rw [hv9]
  try rw [hb9]
  clear hv9 hb9
  refine (HS.out _).mono ?_
  rintro e v2 ⟨rfl, b9⟩
  replace X_f := X_f.keep b9
  replace X_x := X_x.keep b9
  replace X_r := X_r.keep b9
  replace BW := hid (BW.out.trans (b9.mono BW.out.size))
  clear b9
  have z_f := X_f.lt
  have c_f0 := X_f.cell (i := 0) rfl
  have c_f1 := X_f.cell (i := 1) rfl
  have c_f2 := X_f.cell (i := 2) rfl
  have c_f3 := X_f.cell (i := 3) rfl
  have c_f4 := X_f.cell (i := 4) rfl
  have c_f5 := X_f.cell (i := 5) rfl
  have c_f6 := X_f.cell (i := 6) rfl
  have c_f7 := X_f.cell (i := 7) rfl
  have c_f8 := X_f.cell (i := 8) rfl
  have c_f9 := X_f.cell (i := 9) rfl
  have c_f10 := X_f.cell (i := 10) rfl
  have c_f11 := X_f.cell (i := 11) rfl
  have c_f12 := X_f.cell (i := 12) rfl
  have c_f13 := X_f.cell (i := 13) rfl
  have z_x := X_x.lt
  have c_x0 := X_x.cell (i := 0) rfl
  have c_x1 := X_x.cell (i := 1) rfl
  have c_x2 := X_x.cell (i := 2) rfl
  have c_x3 := X_x.cell (i := 3) rfl
  go_wp2_with fail
  obtain ⟨v3, hv9⟩ : ∃ v, (v2.alloc (.cells #[.int .u64 (limb d 0 : Int), .int .u64 (limb d 1 : Int), .int .u64 (limb d 2 : Int), .int .u64 (limb d 3 : Int)] 28)) = v := ⟨_, rfl⟩
  have hG9 : Below v2.heap.size v2 v3 := by rw [← hv9]; go_grown
  have X_d : Blk v3 (v2.heap.size) 28 [.int .u64 (limb d 0 : Int), .int .u64 (limb d 1 : Int), .int .u64 (limb d 2 : Int), .int .u64 (limb d 3 : Int)] := by rw [← hv9]; exact Blk.new rfl
  obtain ⟨bd, hb9⟩ : ∃ k, v2.heap.size = k := ⟨_, rfl⟩
  rw [hb9] at X_d
  have g_bd : w.heap.size ≤ bd := by rw [← hb9]; exact BW.out.size
  have q_f_bd : bf < bd := by rw [← hb9]; exact X_f.lt
  have q_x_bd : bf + 1 < bd := by rw [← hb9]; exact X_x.lt
  have q_r_bd : bf + 1 + 1 < bd := by rw [← hb9]; exact X_r.lt
  clear z_f c_f0 c_f1 c_f2 c_f3 c_f4 c_f5 c_f6 c_f7 c_f8 c_f9 c_f10 c_f11 c_f12 c_f13 z_x c_x0 c_x1 c_x2 c_x3
  replace X_f := X_f.keep hG9
  replace X_x := X_x.keep hG9
  replace X_r := X_r.keep hG9
  replace BW := hid (BW.out.trans (hG9.mono BW.out.size))
  clear hG9
  rw [hv9]
  try rw [hb9]
  clear hv9 hb9
  refine (HP.out d HM.out _).mono ?_
  rintro e v4 ⟨rfl, b9⟩
  replace X_f := X_f.keep b9
  replace X_x := X_x.keep b9
  replace X_r := X_r.keep b9
  replace X_d := X_d.keep b9
  replace BW := hid (BW.out.trans (b9.mono BW.out.size))
  clear b9
  have z_r := X_r.lt
  have c_r0 := X_r.cell (i := 0) rfl
  have f_r0 := X_r.frozen 0
  have c_r1 := X_r.cell (i := 1) rfl
  have f_r1 := X_r.frozen 1
  have c_r2 := X_r.cell (i := 2) rfl
  have f_r2 := X_r.frozen 2
  have c_r3 := X_r.cell (i := 3) rfl
  have f_r3 := X_r.frozen 3
  go_wp2
  refine bodyPost_ret (by simp only [results, Tryd.results134]; go_simp; try rfl) rfl ?_
  exact ⟨by rw [HI.out], by have := BW.out; have := BW.out.size; go_grown; all_goals (simp; try omega)⟩
end Go.Proofs.YtogenbggjodcnaaDoor
