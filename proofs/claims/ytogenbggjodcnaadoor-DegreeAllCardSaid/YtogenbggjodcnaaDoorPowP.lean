/-
  Powers of elements.
-/
import Derived.Test.YtogenbggjodcnaaDoorPowS
import Derived.Deep.DeepMust
namespace Go.Proofs.YtogenbggjodcnaaDoor
open Go.RowKit

theorem range_keep {w w' : World} {b o : Nat} {cs : List Value} (h : w.rangeAt b o cs) (hb : Below w.heap.size w w') : w'.rangeAt b o cs := fun j v hj =>
  (hb.cell (p := ⟨b, o + j, none⟩) (World.block_lt_of_cell? _ _ (h j v hj))).trans (h j v hj)
theorem range_only {F : Nat → Prop} {w w' : World} {b o : Nat} {cs : List Value} (h : w.rangeAt b o cs) (ho : Only F w w') (hF : ¬ F b) : w'.rangeAt b o cs := fun j v hj => ho.cell hF (h j v hj)
theorem quiet_load_mid {P : Program} {C : World → Prop} {op : Oper} {a : Act} {w : World} (ty : TypeId) (x : Operand) (ho : op.op = .load ty x) (b o : Nat) (hx : a.eval x = .pointer (some ⟨b, o, none⟩)) (cs : List Value) (d : TypeDesc)
    (hc : w.rangeAt b o cs) (hu : P.underlying ty = some d) (hd : d.isRow = true) (hi : (P.info? ty).map (·.size) = some cs.length) : op.quietAt P a C w (.agg cs.toArray) := by
  unfold Oper.quietAt execOp
  simp only [ho, hx, Instr.loadAt, Instr.sureAddr, Sem.run_bind, Sem.run_pure, Result.andThen_ok, run_loadVar_mid w b o ty cs d hc hu hd hi]
  exact ⟨rfl, rfl⟩
theorem fresh_there (v : World) {L : List Value} (hL : L.length = 64) : (v.alloc (.cells #[.int .u64 0, .int .u64 0, .int .u64 0, .int .u64 0, .int .u64 0, .int .u64 0, .int .u64 0, .int .u64 0, .int .u64 0, .int .u64 0, .int .u64 0, .int .u64 0, .int .u64 0, .int .u64 0, .int .u64 0, .int .u64 0, .int .u64 0, .int .u64 0, .int .u64 0, .int .u64 0, .int .u64 0, .int .u64 0, .int .u64 0, .int .u64 0, .int .u64 0, .int .u64 0, .int .u64 0, .int .u64 0, .int .u64 0, .int .u64 0, .int .u64 0, .int .u64 0, .int .u64 0, .int .u64 0, .int .u64 0, .int .u64 0, .int .u64 0, .int .u64 0, .int .u64 0, .int .u64 0, .int .u64 0, .int .u64 0, .int .u64 0, .int .u64 0, .int .u64 0, .int .u64 0, .int .u64 0, .int .u64 0, .int .u64 0, .int .u64 0, .int .u64 0, .int .u64 0, .int .u64 0, .int .u64 0, .int .u64 0, .int .u64 0, .int .u64 0, .int .u64 0, .int .u64 0, .int .u64 0, .int .u64 0, .int .u64 0, .int .u64 0, .int .u64 0] 192)).there v.heap.size 0 L.toArray.size := fun j hj => ⟨by
  have hj' : j < 64 := by rw [List.size_toArray, hL] at hj; exact hj
  rw [Nat.zero_add, Blk.cell (xs := [.int .u64 0, .int .u64 0, .int .u64 0, .int .u64 0, .int .u64 0, .int .u64 0, .int .u64 0, .int .u64 0, .int .u64 0, .int .u64 0, .int .u64 0, .int .u64 0, .int .u64 0, .int .u64 0, .int .u64 0, .int .u64 0, .int .u64 0, .int .u64 0, .int .u64 0, .int .u64 0, .int .u64 0, .int .u64 0, .int .u64 0, .int .u64 0, .int .u64 0, .int .u64 0, .int .u64 0, .int .u64 0, .int .u64 0, .int .u64 0, .int .u64 0, .int .u64 0, .int .u64 0, .int .u64 0, .int .u64 0, .int .u64 0, .int .u64 0, .int .u64 0, .int .u64 0, .int .u64 0, .int .u64 0, .int .u64 0, .int .u64 0, .int .u64 0, .int .u64 0, .int .u64 0, .int .u64 0, .int .u64 0, .int .u64 0, .int .u64 0, .int .u64 0, .int .u64 0, .int .u64 0, .int .u64 0, .int .u64 0, .int .u64 0, .int .u64 0, .int .u64 0, .int .u64 0, .int .u64 0, .int .u64 0, .int .u64 0, .int .u64 0, .int .u64 0]) (Blk.new rfl) (List.getElem?_eq_getElem (by simpa using hj'))]; rfl, by rw [Nat.zero_add]; exact Blk.frozen (xs := [.int .u64 0, .int .u64 0, .int .u64 0, .int .u64 0, .int .u64 0, .int .u64 0, .int .u64 0, .int .u64 0, .int .u64 0, .int .u64 0, .int .u64 0, .int .u64 0, .int .u64 0, .int .u64 0, .int .u64 0, .int .u64 0, .int .u64 0, .int .u64 0, .int .u64 0, .int .u64 0, .int .u64 0, .int .u64 0, .int .u64 0, .int .u64 0, .int .u64 0, .int .u64 0, .int .u64 0, .int .u64 0, .int .u64 0, .int .u64 0, .int .u64 0, .int .u64 0, .int .u64 0, .int .u64 0, .int .u64 0, .int .u64 0, .int .u64 0, .int .u64 0, .int .u64 0, .int .u64 0, .int .u64 0, .int .u64 0, .int .u64 0, .int .u64 0, .int .u64 0, .int .u64 0, .int .u64 0, .int .u64 0, .int .u64 0, .int .u64 0, .int .u64 0, .int .u64 0, .int .u64 0, .int .u64 0, .int .u64 0, .int .u64 0, .int .u64 0, .int .u64 0, .int .u64 0, .int .u64 0, .int .u64 0, .int .u64 0, .int .u64 0, .int .u64 0]) (Blk.new rfl) _⟩
theorem fresh_table {v v' : World} {L : List Value} (hL : L.length = 64) (h : (v.alloc (.cells #[.int .u64 0, .int .u64 0, .int .u64 0, .int .u64 0, .int .u64 0, .int .u64 0, .int .u64 0, .int .u64 0, .int .u64 0, .int .u64 0, .int .u64 0, .int .u64 0, .int .u64 0, .int .u64 0, .int .u64 0, .int .u64 0, .int .u64 0, .int .u64 0, .int .u64 0, .int .u64 0, .int .u64 0, .int .u64 0, .int .u64 0, .int .u64 0, .int .u64 0, .int .u64 0, .int .u64 0, .int .u64 0, .int .u64 0, .int .u64 0, .int .u64 0, .int .u64 0, .int .u64 0, .int .u64 0, .int .u64 0, .int .u64 0, .int .u64 0, .int .u64 0, .int .u64 0, .int .u64 0, .int .u64 0, .int .u64 0, .int .u64 0, .int .u64 0, .int .u64 0, .int .u64 0, .int .u64 0, .int .u64 0, .int .u64 0, .int .u64 0, .int .u64 0, .int .u64 0, .int .u64 0, .int .u64 0, .int .u64 0, .int .u64 0, .int .u64 0, .int .u64 0, .int .u64 0, .int .u64 0, .int .u64 0, .int .u64 0, .int .u64 0, .int .u64 0] 192)).setCells v.heap.size 0 L.toArray.toList = v') : Below v.heap.size v v' ∧ v'.rangeAt v.heap.size 0 L ∧ v.heap.size < v'.heap.size := by
  have h1 : v'.rangeAt v.heap.size 0 L := by
    rw [← h]
    refine World.rangeAt_setCells_same _ _ 0 _ ?_
    have := fresh_there v hL
    rw [← Array.length_toList] at this; exact this
  exact ⟨by rw [← h]; exact below_setCells _ 0 ((Below.refl _ _).alloc (Nat.le_refl _) _) (Nat.le_refl _), h1, World.block_lt_of_cell? _ _ (h1 0 _ (List.getElem?_eq_getElem (by rw [hL]; decide)))⟩
/-- What a power holds on its way. -/
def PowSt (w wr : World) (bf bt bo : Nat) (fc xc ec L yc : List Value) : Prop :=
  Blk wr bf 31 fc ∧ Blk wr (bf + 1) 29 xc ∧ Blk wr (bf + 1 + 1) 28 ec ∧ Blk wr (bf + 1 + 1 + 1) 29 [.int .u64 0, .int .u64 0, .int .u64 0, .int .u64 0] ∧ wr.rangeAt bt 0 L ∧ Blk wr bo 29 yc ∧ Below w.heap.size w wr
theorem PowSt.keep {w wr w' : World} {bf bt bo : Nat} {fc xc ec L yc : List Value} (h : PowSt w wr bf bt bo fc xc ec L yc) (b : Below wr.heap.size wr w') : PowSt w w' bf bt bo fc xc ec L yc :=
  ⟨h.1.keep b, h.2.1.keep b, h.2.2.1.keep b, h.2.2.2.1.keep b, range_keep h.2.2.2.2.1 b, h.2.2.2.2.2.1.keep b, h.2.2.2.2.2.2.trans (b.mono h.2.2.2.2.2.2.size)⟩
theorem PowSt.set {w wr : World} {bf bt bo : Nat} {fc xc ec L : List Value} {p : Nat} (h : PowSt w wr bf bt bo fc xc ec L (limbs p)) (h1 : bf + 1 + 1 + 1 < bo) (h2 : bt < bo) (h3 : w.heap.size ≤ bf) (r : Nat) :
    PowSt w ((((wr.setCell ⟨bo, 0, none⟩ (.int .u64 (limb r 0 : Int))).setCell ⟨bo, 1, none⟩ (.int .u64 (limb r 1 : Int))).setCell ⟨bo, 2, none⟩ (.int .u64 (limb r 2 : Int))).setCell ⟨bo, 3, none⟩ (.int .u64 (limb r 3 : Int))) bf bt bo fc xc ec L (limbs r) :=
  ⟨h.1.other4 (c := bo) (by omega) _ _ _ _, h.2.1.other4 (c := bo) (by omega) _ _ _ _, h.2.2.1.other4 (c := bo) (by omega) _ _ _ _, h.2.2.2.1.other4 (c := bo) (by omega) _ _ _ _,
    range_only h.2.2.2.2.1 (only_set4 wr bo _ _ _ _) (by omega), h.2.2.2.2.2.1.set4 _ _ _ _, below_set4 h.2.2.2.2.2.2 (by omega) _ _ _ _⟩
set_option maxRecDepth 100000 in
set_option maxHeartbeats 2000000 in
theorem pow_any (id : Int) (m inv s x e : Nat) (hF : FieldOK m inv) (hx : x < m) (he : e < B256) (w : World) :
    Calls Tryd.prog 147 #[.pointer none, fld id m inv (frm m 1) s, vec (frm m x), vec e] w (Ret (vec (frm m (powm m x e))) w) := by
  have BW := hid (Below.refl w.heap.size w)
  have hF1 := hF.1
  have hF2 := hF.2.1
  have HF4 := hid hF.2.2.2.1
  have HFF := hid hF
  clear hF
  have HTB := hid (fun W : World => table_any id m inv s x HFF.out hx W)
  have HSC := hid (fun (i : Nat) (hi : i < 16) (W : World) => scan_any (tbs m x) i (tbs_len m x) hi W)
  have HLN := hid (tbs_nums m x)
  have HNC := hid (nums_cells (tbs m x))
  obtain ⟨L, hL⟩ : ∃ L, nums (tbs m x) = L := ⟨_, rfl⟩
  rw [hL] at HTB HSC HLN HNC
  clear hL
  have HSZ : Hid ((Tryd.prog.info? 192).map (·.size) = some L.length) := hid (by rw [HLN.out]; exact info_tbl)
  have HSZ2 : Hid ((Tryd.prog.info? 192).map (·.size) = some L.toArray.size) := hid (by rw [List.size_toArray]; exact HSZ.out)
  have HOC : Hid (L.toArray.all (·.oneCell') = true) := hid (all_oneCell_toArray HNC.out)
  obtain ⟨xx, hxx⟩ : ∃ z, frm m x = z := ⟨_, rfl⟩
  obtain ⟨oo, hoo⟩ : ∃ z, frm m 1 = z := ⟨_, rfl⟩
  have HOO := hid hoo
  rw [hxx, hoo] at HTB ⊢
  clear hxx hoo
  go_enter Tryd.func147, Tryd.ntmps147
  go_wp2_with fail
  obtain ⟨v1, hv9⟩ : ∃ v, ((((w.alloc (.cells #[.int .i64 id, .int .u64 (limb m 0 : Int), .int .u64 (limb m 1 : Int), .int .u64 (limb m 2 : Int), .int .u64 (limb m 3 : Int), .int .u64 (inv : Int), .int .u64 (limb oo 0 : Int), .int .u64 (limb oo 1 : Int), .int .u64 (limb oo 2 : Int), .int .u64 (limb oo 3 : Int), .int .u64 (limb s 0 : Int), .int .u64 (limb s 1 : Int), .int .u64 (limb s 2 : Int), .int .u64 (limb s 3 : Int)] 31)).alloc (.cells #[.int .u64 (limb xx 0 : Int), .int .u64 (limb xx 1 : Int), .int .u64 (limb xx 2 : Int), .int .u64 (limb xx 3 : Int)] 29)).alloc (.cells #[.int .u64 (limb e 0 : Int), .int .u64 (limb e 1 : Int), .int .u64 (limb e 2 : Int), .int .u64 (limb e 3 : Int)] 28)).alloc (.cells #[.int .u64 0, .int .u64 0, .int .u64 0, .int .u64 0] 29)) = v := ⟨_, rfl⟩
  have hG9 : Below w.heap.size w v1 := by rw [← hv9]; go_grown
  have X_f : Blk v1 (w.heap.size) 31 [.int .i64 id, .int .u64 (limb m 0 : Int), .int .u64 (limb m 1 : Int), .int .u64 (limb m 2 : Int), .int .u64 (limb m 3 : Int), .int .u64 (inv : Int), .int .u64 (limb oo 0 : Int), .int .u64 (limb oo 1 : Int), .int .u64 (limb oo 2 : Int), .int .u64 (limb oo 3 : Int), .int .u64 (limb s 0 : Int), .int .u64 (limb s 1 : Int), .int .u64 (limb s 2 : Int), .int .u64 (limb s 3 : Int)] := by rw [← hv9]; exact Blk.alloc (Blk.alloc (Blk.alloc (Blk.new rfl) _) _) _
  have X_x : Blk v1 (w.heap.size + 1) 29 [.int .u64 (limb xx 0 : Int), .int .u64 (limb xx 1 : Int), .int .u64 (limb xx 2 : Int), .int .u64 (limb xx 3 : Int)] := by rw [← hv9]; exact Blk.alloc (Blk.alloc (Blk.new (by simp)) _) _
  have X_e : Blk v1 (w.heap.size + 1 + 1) 28 [.int .u64 (limb e 0 : Int), .int .u64 (limb e 1 : Int), .int .u64 (limb e 2 : Int), .int .u64 (limb e 3 : Int)] := by rw [← hv9]; exact Blk.alloc (Blk.new (by simp)) _
  have X_r : Blk v1 (w.heap.size + 1 + 1 + 1) 29 [.int .u64 0, .int .u64 0, .int .u64 0, .int .u64 0] := by rw [← hv9]; exact Blk.new (by simp)
  obtain ⟨bf, hb9⟩ : ∃ k, w.heap.size = k := ⟨_, rfl⟩
  rw [hb9] at X_f
  rw [hb9] at X_x
  rw [hb9] at X_e
  rw [hb9] at X_r
  have g_bf : w.heap.size ≤ bf := by rw [← hb9]; exact BW.out.size
  replace BW := hid (BW.out.trans (hG9.mono BW.out.size))
  clear hG9
  rw [hv9]
  try rw [hb9]
  clear hv9 hb9
  refine (HTB.out _).mono ?_
  rintro e v2 ⟨rfl, b9⟩
  replace X_f := X_f.keep b9
  replace X_x := X_x.keep b9
  replace X_e := X_e.keep b9
  replace X_r := X_r.keep b9
  replace BW := hid (BW.out.trans (b9.mono BW.out.size))
  clear b9
  have z_f := X_f.lt
  have c_f0 := X_f.cell (i := 0) rfl
  have c_f1 := X_f.cell (i := 1) rfl
  have c_f2 := X_f.cell (i := 2) rfl
  have c_f3 := X_f.cell (i := 3) rfl
  have c_f4 := X_f.cell (i := 4) rfl
  have c_f5 := X_f.cell (i := 5) rfl
  have c_f6 := X_f.cell (i := 6) rfl
  have c_f7 := X_f.cell (i := 7) rfl
  have c_f8 := X_f.cell (i := 8) rfl
  have c_f9 := X_f.cell (i := 9) rfl
  have c_f10 := X_f.cell (i := 10) rfl
  have c_f11 := X_f.cell (i := 11) rfl
  have c_f12 := X_f.cell (i := 12) rfl
  have c_f13 := X_f.cell (i := 13) rfl
  have HTH := hid (fresh_there v2 HLN.out)
  clear z_f c_f0 c_f1 c_f2 c_f3 c_f4 c_f5 c_f6 c_f7 c_f8 c_f9 c_f10 c_f11 c_f12 c_f13
  go_wp2_with (refine wpList_store_mid rfl 192 _ _ rfl v2.heap.size 0 L.toArray rfl rfl HTH.out HSZ2.out HOC.out ?_; go_must (obtain ⟨v3, hv9⟩ : ∃ z, (v2.alloc (.cells #[.int .u64 0, .int .u64 0, .int .u64 0, .int .u64 0, .int .u64 0, .int .u64 0, .int .u64 0, .int .u64 0, .int .u64 0, .int .u64 0, .int .u64 0, .int .u64 0, .int .u64 0, .int .u64 0, .int .u64 0, .int .u64 0, .int .u64 0, .int .u64 0, .int .u64 0, .int .u64 0, .int .u64 0, .int .u64 0, .int .u64 0, .int .u64 0, .int .u64 0, .int .u64 0, .int .u64 0, .int .u64 0, .int .u64 0, .int .u64 0, .int .u64 0, .int .u64 0, .int .u64 0, .int .u64 0, .int .u64 0, .int .u64 0, .int .u64 0, .int .u64 0, .int .u64 0, .int .u64 0, .int .u64 0, .int .u64 0, .int .u64 0, .int .u64 0, .int .u64 0, .int .u64 0, .int .u64 0, .int .u64 0, .int .u64 0, .int .u64 0, .int .u64 0, .int .u64 0, .int .u64 0, .int .u64 0, .int .u64 0, .int .u64 0, .int .u64 0, .int .u64 0, .int .u64 0, .int .u64 0, .int .u64 0, .int .u64 0, .int .u64 0, .int .u64 0] 192)).setCells v2.heap.size 0 L.toArray.toList = z := ⟨_, rfl⟩; obtain ⟨G9, rt, zbt⟩ := fresh_table HLN.out hv9; have RT := hid rt; clear rt; obtain ⟨bt, hbt⟩ : ∃ k, v2.heap.size = k := ⟨_, rfl⟩; have qbt : bf + 1 + 1 + 1 < bt := (by rw [← hbt]; exact X_r.lt); rw [hbt] at RT zbt; replace X_f := X_f.keep G9; replace X_x := X_x.keep G9; replace X_e := X_e.keep G9; replace X_r := X_r.keep G9; replace BW := hid (BW.out.trans (G9.mono BW.out.size)); clear G9; have z_f := X_f.lt; have c_f0 := X_f.cell (i := 0) rfl; have c_f1 := X_f.cell (i := 1) rfl; have c_f2 := X_f.cell (i := 2) rfl; have c_f3 := X_f.cell (i := 3) rfl; have c_f4 := X_f.cell (i := 4) rfl; have c_f5 := X_f.cell (i := 5) rfl; have c_f6 := X_f.cell (i := 6) rfl; have c_f7 := X_f.cell (i := 7) rfl; have c_f8 := X_f.cell (i := 8) rfl; have c_f9 := X_f.cell (i := 9) rfl; have c_f10 := X_f.cell (i := 10) rfl; have c_f11 := X_f.cell (i := 11) rfl; have c_f12 := X_f.cell (i := 12) rfl; have c_f13 := X_f.cell (i := 13) rfl; rw [hv9, hbt]; clear hv9 hbt HTH))
  obtain ⟨v4, hv9⟩ : ∃ v, (v3.alloc (.cells #[.int .u64 (limb oo 0 : Int), .int .u64 (limb oo 1 : Int), .int .u64 (limb oo 2 : Int), .int .u64 (limb oo 3 : Int)] 29)) = v := ⟨_, rfl⟩
  have hG9 : Below v3.heap.size v3 v4 := by rw [← hv9]; go_grown
  have X_o : Blk v4 (v3.heap.size) 29 [.int .u64 (limb oo 0 : Int), .int .u64 (limb oo 1 : Int), .int .u64 (limb oo 2 : Int), .int .u64 (limb oo 3 : Int)] := by rw [← hv9]; exact Blk.new rfl
  obtain ⟨bo, hb9⟩ : ∃ k, v3.heap.size = k := ⟨_, rfl⟩
  rw [hb9] at X_o
  have g_bo : w.heap.size ≤ bo := by rw [← hb9]; exact BW.out.size
  have q_f_bo : bf < bo := by rw [← hb9]; exact X_f.lt
  have q_x_bo : bf + 1 < bo := by rw [← hb9]; exact X_x.lt
  have q_e_bo : bf + 1 + 1 < bo := by rw [← hb9]; exact X_e.lt
  have q_r_bo : bf + 1 + 1 + 1 < bo := by rw [← hb9]; exact X_r.lt
  have RTO := hid (range_keep RT.out hG9)
  have qbt9 : bt < bo := by rw [← hb9]; exact zbt
  clear RT zbt
  clear z_f c_f0 c_f1 c_f2 c_f3 c_f4 c_f5 c_f6 c_f7 c_f8 c_f9 c_f10 c_f11 c_f12 c_f13
  replace X_f := X_f.keep hG9
  replace X_x := X_x.keep hG9
  replace X_e := X_e.keep hG9
  replace X_r := X_r.keep hG9
  replace BW := hid (BW.out.trans (hG9.mono BW.out.size))
  clear hG9
  rw [hv9]
  try rw [hb9]
  clear hv9 hb9
  have P0 : PowSt w v4 bf bt bo [.int .i64 id, .int .u64 (limb m 0 : Int), .int .u64 (limb m 1 : Int), .int .u64 (limb m 2 : Int), .int .u64 (limb m 3 : Int), .int .u64 (inv : Int), .int .u64 (limb oo 0 : Int), .int .u64 (limb oo 1 : Int), .int .u64 (limb oo 2 : Int), .int .u64 (limb oo 3 : Int), .int .u64 (limb s 0 : Int), .int .u64 (limb s 1 : Int), .int .u64 (limb s 2 : Int), .int .u64 (limb s 3 : Int)] (limbs xx) (limbs e) L (limbs oo) := ⟨X_f, X_x, X_e, X_r, RTO.out, X_o, BW.out⟩
  have hbf : w.heap.size ≤ bf := g_bf
  clear X_f X_x X_e X_r X_o BW HTB HSZ2 HOC HNC
  go_loopw [11] (fun i wr => ∃ (k y : Nat), k ≤ 64 ∧ i = .int .i64 ((k : Int) - 1) ∧ y = frm m (powm m x (wtop e k)) ∧ PowSt w wr bf bt bo [.int .i64 id, .int .u64 (limb m 0 : Int), .int .u64 (limb m 1 : Int), .int .u64 (limb m 2 : Int), .int .u64 (limb m 3 : Int), .int .u64 (inv : Int), .int .u64 (limb oo 0 : Int), .int .u64 (limb oo 1 : Int), .int .u64 (limb oo 2 : Int), .int .u64 (limb oo 3 : Int), .int .u64 (limb s 0 : Int), .int .u64 (limb s 1 : Int), .int .u64 (limb s 2 : Int), .int .u64 (limb s 3 : Int)] (limbs xx) (limbs e) L (limbs y)) (fun i _ => (intOf i + 1).toNat)
  case atStart => exact ⟨64, oo, Nat.le_refl _, by go_num, by rw [wtop_64 he, powm_zero x (by omega)]; exact HOO.out.symm, P0⟩
  case round =>
    obtain ⟨k, y, hk, rfl, hy, P1⟩ := hrel
    clear P0
    have HY := hid hy
    have HP := hid P1
    obtain ⟨Yf, Yx, Ye, Yr, Yt, Yo, YB⟩ := P1
    clear hy Yt YB
    cases k with
    | zero =>
      have hyE : Hid (y = frm m (powm m x e)) := hid (by rw [HY.out, wtop_zero])
      have zo := Yo.lt
      have zr := Yr.lt
      clear Yf Yx Ye
      have o0 := Yo.cell (i := 0) rfl
      have o1 := Yo.cell (i := 1) rfl
      have o2 := Yo.cell (i := 2) rfl
      have o3 := Yo.cell (i := 3) rfl
      have r0 := Yr.cell (i := 0) rfl
      have rf0 := Yr.frozen 0
      have r1 := Yr.cell (i := 1) rfl
      have rf1 := Yr.frozen 1
      have r2 := Yr.cell (i := 2) rfl
      have rf2 := Yr.frozen 2
      have r3 := Yr.cell (i := 3) rfl
      have rf3 := Yr.frozen 3
      go_wp2
      refine bodyPost_ret (by simp only [results, Tryd.results147]; go_simp; try rfl) rfl ?_
      exact ⟨by rw [hyE.out], below_set4 HP.out.2.2.2.2.2.2 (by omega) (.int .u64 (limb y 0 : Int)) (.int .u64 (limb y 1 : Int)) (.int .u64 (limb y 2 : Int)) (.int .u64 (limb y 3 : Int))⟩
    | succ k =>
      rw [show ((k + 1 : Nat) : Int) - 1 = (k : Int) by omega]
      have hki : (k : Int) < 64 := by omega
      have hki0 : (0 : Int) ≤ (k : Int) := by omega
      clear Yf Yx Ye Yr Yo
      have HYL : Hid (y < m) := hid (by rw [HY.out]; exact frm_lt _ (by omega))
      go_wp2_with (go_at_call 64; refine (note_nil _ _ _ _).mono ?_; rintro e w' ⟨rfl, rfl⟩)
      have HY0 : Hid (y = frm m (powm m x (2 ^ 0 * wtop e (k + 1)))) := hid (by rw [HY.out, Nat.pow_zero, Nat.one_mul])
      go_loopw [24] (fun j wq => ∃ (t z : Nat), t ≤ 4 ∧ j = .int .i64 (t : Int) ∧ z = frm m (powm m x (2 ^ t * wtop e (k + 1))) ∧ PowSt w wq bf bt bo [.int .i64 id, .int .u64 (limb m 0 : Int), .int .u64 (limb m 1 : Int), .int .u64 (limb m 2 : Int), .int .u64 (limb m 3 : Int), .int .u64 (inv : Int), .int .u64 (limb oo 0 : Int), .int .u64 (limb oo 1 : Int), .int .u64 (limb oo 2 : Int), .int .u64 (limb oo 3 : Int), .int .u64 (limb s 0 : Int), .int .u64 (limb s 1 : Int), .int .u64 (limb s 2 : Int), .int .u64 (limb s 3 : Int)] (limbs xx) (limbs e) L (limbs z)) (fun j _ => 4 - (intOf j).toNat)
      case atStart => exact ⟨0, y, Nat.zero_le _, rfl, HY0.out, HP.out⟩
      case round =>
        obtain ⟨t, z, ht, rfl, hz, P2⟩ := hrel
        clear HY0 HYL HY HP
        have HZ := hid hz
        have HP := hid P2
        have HZL : Hid (z < m) := hid (by rw [HZ.out]; exact frm_lt _ (by omega))
        obtain ⟨Yf, Yx, Ye, Yr, Yt, Yo, YB⟩ := P2
        have HYT := hid Yt
        clear hz YB Yt Yr
        by_cases hlt : t < 4
        · have M := hid (fun W : World => msqr_any id m inv oo s z HFF.out HZL.out W)
          obtain ⟨r, hr⟩ : ∃ r, mont m z z = r := ⟨_, rfl⟩
          have HR : Hid (r = frm m (powm m x (2 ^ (t + 1) * wtop e (k + 1)))) := hid (by rw [← hr, HZ.out, frm_mulm HF4.out, pow_double, Nat.pow_succ, ← Nat.mul_assoc, Nat.mul_comm 2 (2 ^ t)])
          rw [hr] at M
          clear hr Yx Ye
          have zf := Yf.lt
          have zo := Yo.lt
          have f0 := Yf.cell (i := 0) rfl
          have f1 := Yf.cell (i := 1) rfl
          have f2 := Yf.cell (i := 2) rfl
          have f3 := Yf.cell (i := 3) rfl
          have f4 := Yf.cell (i := 4) rfl
          have f5 := Yf.cell (i := 5) rfl
          have f6 := Yf.cell (i := 6) rfl
          have f7 := Yf.cell (i := 7) rfl
          have f8 := Yf.cell (i := 8) rfl
          have f9 := Yf.cell (i := 9) rfl
          have f10 := Yf.cell (i := 10) rfl
          have f11 := Yf.cell (i := 11) rfl
          have f12 := Yf.cell (i := 12) rfl
          have f13 := Yf.cell (i := 13) rfl
          have o0 := Yo.cell (i := 0) rfl
          have o1 := Yo.cell (i := 1) rfl
          have o2 := Yo.cell (i := 2) rfl
          have o3 := Yo.cell (i := 3) rfl
          go_wp2_with (go_at_call 150; refine (M.out _).mono ?_; rintro e w1 ⟨rfl, b1⟩; have HP1 := hid (HP.out.keep b1); have Y1 := Yo.keep b1; clear b1; have z1 := Y1.lt; have u0 := Y1.cell (i := 0) rfl; have v0 := Y1.frozen 0; have u1 := Y1.cell (i := 1) rfl; have v1 := Y1.frozen 1; have u2 := Y1.cell (i := 2) rfl; have v2 := Y1.frozen 2; have u3 := Y1.cell (i := 3) rfl; have v3 := Y1.frozen 3)
          go_roundw
          case rel => exact ⟨t + 1, r, by omega, by go_num, HR.out, HP1.out.set (by omega) (by omega) hbf r⟩
          case measure => simp [intOf]; omega
        · obtain rfl : t = 4 := by omega
          have hnl := nib_lt e k
          have HB := hid (fun W : World => bits_any e k (by omega) W)
          have HSK := hid (fun W : World => HSC.out (nib e k) hnl W)
          rw [getD_some (tbs_get m x hnl)] at HSK
          have hql := frm_lt (m := m) (powm m x (nib e k)) (by omega)
          have M := hid (mmul_any id m inv oo s z (frm m (powm m x (nib e k))) HFF.out (by have := HZL.out; omega) (by omega) (Nat.mul_lt_mul_of_lt_of_lt (by have := HZL.out; omega) hql))
          obtain ⟨r, hr⟩ : ∃ r, mont m z (frm m (powm m x (nib e k))) = r := ⟨_, rfl⟩
          have HR : Hid (r = frm m (powm m x (wtop e k))) := hid (by rw [← hr, HZ.out, frm_mulm HF4.out, show 2 ^ 4 * wtop e (k + 1) = 16 * wtop e (k + 1) from rfl, pow_window])
          rw [hr] at M
          obtain ⟨q, hq⟩ : ∃ q, frm m (powm m x (nib e k)) = q := ⟨_, rfl⟩
          rw [hq] at M HSK hql
          obtain ⟨nb, hnb⟩ : ∃ q, nib e k = q := ⟨_, rfl⟩
          rw [hnb] at HB HSK hnl
          clear hr hq hnb Yx
          have zf := Yf.lt
          have zo := Yo.lt
          have ze := Ye.lt
          have f0 := Yf.cell (i := 0) rfl
          have f1 := Yf.cell (i := 1) rfl
          have f2 := Yf.cell (i := 2) rfl
          have f3 := Yf.cell (i := 3) rfl
          have f4 := Yf.cell (i := 4) rfl
          have f5 := Yf.cell (i := 5) rfl
          have f6 := Yf.cell (i := 6) rfl
          have f7 := Yf.cell (i := 7) rfl
          have f8 := Yf.cell (i := 8) rfl
          have f9 := Yf.cell (i := 9) rfl
          have f10 := Yf.cell (i := 10) rfl
          have f11 := Yf.cell (i := 11) rfl
          have f12 := Yf.cell (i := 12) rfl
          have f13 := Yf.cell (i := 13) rfl
          have o0 := Yo.cell (i := 0) rfl
          have e0 := Ye.cell (i := 0) rfl
          have o1 := Yo.cell (i := 1) rfl
          have e1 := Ye.cell (i := 1) rfl
          have o2 := Yo.cell (i := 2) rfl
          have e2 := Ye.cell (i := 2) rfl
          have o3 := Yo.cell (i := 3) rfl
          have e3 := Ye.cell (i := 3) rfl
          go_wp2_with fail
          refine wp_region_soft (C := fun W' => Below wr.heap.size wr W') 10 (by kernel_rfl) (by kernel_rfl) ((Below.refl _ _).drew) ?_
          simp only [List.take_succ_cons, List.take_zero, List.drop_succ_cons, List.drop_zero]
          refine wpQuiet_step (fun K hK => ?_)
          rw [if_pos (by rfl)]
          refine ⟨fld id m inv oo s, fun W' hW => ?_, hK _ ?_⟩
          · have e_0 := (hW.cell (p := ⟨bf, 0, none⟩) zf).trans f0
            have e_1 := (hW.cell (p := ⟨bf, 1, none⟩) zf).trans f1
            have e_2 := (hW.cell (p := ⟨bf, 2, none⟩) zf).trans f2
            have e_3 := (hW.cell (p := ⟨bf, 3, none⟩) zf).trans f3
            have e_4 := (hW.cell (p := ⟨bf, 4, none⟩) zf).trans f4
            have e_5 := (hW.cell (p := ⟨bf, 5, none⟩) zf).trans f5
            have e_6 := (hW.cell (p := ⟨bf, 6, none⟩) zf).trans f6
            have e_7 := (hW.cell (p := ⟨bf, 7, none⟩) zf).trans f7
            have e_8 := (hW.cell (p := ⟨bf, 8, none⟩) zf).trans f8
            have e_9 := (hW.cell (p := ⟨bf, 9, none⟩) zf).trans f9
            have e_10 := (hW.cell (p := ⟨bf, 10, none⟩) zf).trans f10
            have e_11 := (hW.cell (p := ⟨bf, 11, none⟩) zf).trans f11
            have e_12 := (hW.cell (p := ⟨bf, 12, none⟩) zf).trans f12
            have e_13 := (hW.cell (p := ⟨bf, 13, none⟩) zf).trans f13
            go_simp
          clear hK K
          simp only [Act.put, List.setIfInBounds_toArray, List.set_cons_zero, List.set_cons_succ]
          refine wpQuiet_step (fun K hK => ?_)
          rw [if_pos (by rfl)]
          refine ⟨vec z, fun W' hW => ?_, hK _ ?_⟩
          · have e_0 := (hW.cell (p := ⟨bo, 0, none⟩) zo).trans o0
            have e_1 := (hW.cell (p := ⟨bo, 1, none⟩) zo).trans o1
            have e_2 := (hW.cell (p := ⟨bo, 2, none⟩) zo).trans o2
            have e_3 := (hW.cell (p := ⟨bo, 3, none⟩) zo).trans o3
            go_simp
          clear hK K
          simp only [Act.put, List.setIfInBounds_toArray, List.set_cons_zero, List.set_cons_succ]
          refine wpQuiet_step (fun K hK => ?_)
          rw [if_pos (by rfl)]
          refine ⟨.agg L.toArray, fun W' hW => ?_, hK _ ?_⟩
          · exact quiet_load_mid 192 _ rfl bt 0 rfl L _ (fun j v hj => (hW.cell (p := ⟨bt, 0 + j, none⟩) (World.block_lt_of_cell? _ _ (HYT.out j v hj))).trans (HYT.out j v hj)) Tryd.underlying192 rfl HSZ.out
          clear hK K
          simp only [Act.put, List.setIfInBounds_toArray, List.set_cons_zero, List.set_cons_succ]
          refine wpQuiet_step (fun K hK => ?_)
          rw [if_pos (by rfl)]
          refine ⟨.pointer none, fun W' hW => ?_, hK _ ?_⟩
          · go_simp
          clear hK K
          simp only [Act.put, List.setIfInBounds_toArray, List.set_cons_zero, List.set_cons_succ]
          refine wpQuiet_step (fun K hK => ?_)
          rw [if_pos (by rfl)]
          refine ⟨vec e, fun W' hW => ?_, hK _ ?_⟩
          · have e_0 := (hW.cell (p := ⟨bf + 1 + 1, 0, none⟩) ze).trans e0
            have e_1 := (hW.cell (p := ⟨bf + 1 + 1, 1, none⟩) ze).trans e1
            have e_2 := (hW.cell (p := ⟨bf + 1 + 1, 2, none⟩) ze).trans e2
            have e_3 := (hW.cell (p := ⟨bf + 1 + 1, 3, none⟩) ze).trans e3
            go_simp
          clear hK K
          simp only [Act.put, List.setIfInBounds_toArray, List.set_cons_zero, List.set_cons_succ]
          refine wpQuiet_step (fun K hK => ?_)
          rw [if_pos (by rfl)]
          refine ⟨.int .i64 (k : Int), fun W' hW => ?_, hK _ ?_⟩
          · go_simp
          clear hK K
          simp only [Act.put, List.setIfInBounds_toArray, List.set_cons_zero, List.set_cons_succ]
          refine wpQuiet_step (fun K hK => ?_)
          rw [if_pos (by rfl)]
          refine ⟨.int .i64 ((k : Int) * 4), fun W' hW => ?_, hK _ ?_⟩
          · go_simp
            rw [IntKind.wrap_i64]; omega
          clear hK K
          simp only [Act.put, List.setIfInBounds_toArray, List.set_cons_zero, List.set_cons_succ]
          refine wpQuiet_step (fun K hK => ?_)
          rw [if_pos (by rfl)]
          refine ⟨.int .u64 (nb : Int), fun W' hW => ?_, hK _ ?_⟩
          · go_simp
            refine (HB.out _).mono ?_
            rintro e w' ⟨rfl, b⟩
            exact ⟨rfl, hW.trans (b.mono hW.size)⟩
          clear hK K
          simp only [Act.put, List.setIfInBounds_toArray, List.set_cons_zero, List.set_cons_succ]
          refine wpQuiet_step (fun K hK => ?_)
          rw [if_pos (by rfl)]
          refine ⟨vec q, fun W' hW => ?_, hK _ ?_⟩
          · go_simp
            refine (HSK.out _).mono ?_
            rintro e w' ⟨rfl, b⟩
            exact ⟨rfl, hW.trans (b.mono hW.size)⟩
          clear hK K
          simp only [Act.put, List.setIfInBounds_toArray, List.set_cons_zero, List.set_cons_succ]
          refine wpQuiet_step (fun K hK => ?_)
          rw [if_pos (by rfl)]
          refine ⟨vec r, fun W' hW => ?_, hK _ ?_⟩
          · go_simp
            refine (M.out _).mono ?_
            rintro e w' ⟨rfl, b⟩
            exact ⟨rfl, hW.trans (b.mono hW.size)⟩
          clear hK K
          simp only [Act.put, List.setIfInBounds_toArray, List.set_cons_zero, List.set_cons_succ]
          refine wpQuiet_nil ?_
          intro W3 hW3
          have HP3 := hid (HP.out.keep hW3)
          have Y3 := Yo.keep hW3
          have z3 := Y3.lt
          have u0 := Y3.cell (i := 0) rfl
          have v0 := Y3.frozen 0
          have u1 := Y3.cell (i := 1) rfl
          have v1 := Y3.frozen 1
          have u2 := Y3.cell (i := 2) rfl
          have v2 := Y3.frozen 2
          have u3 := Y3.cell (i := 3) rfl
          have v3 := Y3.frozen 3
          clear Yf Yo Ye f0 f1 f2 f3 f4 f5 f6 f7 f8 f9 f10 f11 f12 f13 o0 e0 o1 e1 o2 e2 o3 e3
          go_wp2
          go_roundw
          case rel => exact ⟨k, r, by omega, by go_num, HR.out, HP3.out.set (by omega) (by omega) hbf r⟩
          case measure => simp [intOf] <;> omega
end Go.Proofs.YtogenbggjodcnaaDoor
