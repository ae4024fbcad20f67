/-
  Sums, products and multiples of polynomials: their results as slices of numbers.
-/
import Derived.Test.YtogenbggjodcnaaDoorPMul
import Derived.Test.YtogenbggjodcnaaDoorPAdd
import Derived.Test.YtogenbggjodcnaaDoorRMul
import Derived.Test.YtogenbggjodcnaaDoorRAdd
import Derived.Test.YtogenbggjodcnaaDoorScale
namespace Go.Proofs.YtogenbggjodcnaaDoor
open Go.RowKit

/-- A slice of numbers; what was there stays. -/
def RetSl (zs : List Nat) (w : World) : Ending → World → Prop := fun e w' => ∃ v, e = .returned v ∧ NumSl w' v zs ∧ Below w.heap.size w w'
theorem NumSl.nil (w : World) : NumSl w (.slice none 0 0) [] := ⟨none, 0, rfl, Nat.le_refl _, .inl rfl⟩
theorem RetSl.own {t : TypeId} {n : Nat} {zs : List Nat} {w : World} {e : Ending} {w' : World} (h : RetOwn t 4 n (nums zs) w e w') (hn : zs.length = n) (hz : ∀ z ∈ zs, z < B256) : RetSl zs w e w' := by
  obtain ⟨v, rfl, h1, h2⟩ := h
  exact ⟨v, rfl, nums_own (by rw [hn]; exact h1) hz, h2⟩
theorem pmulF_lt {m : Nat} (xs ys : List Nat) (hm : 0 < m) : ∀ y ∈ pmulF m xs ys, y < m := by
  intro y hy
  unfold pmulF at hy
  split at hy
  · cases hy
  · obtain ⟨t, _, rfl⟩ := List.mem_map.1 hy; exact pacc_lt _ _ hm _ _
theorem pmulF_len {m : Nat} {xs ys : List Nat} (hx : xs ≠ []) (hy : ys ≠ []) : (pmulF m xs ys).length = xs.length + ys.length - 1 := by
  unfold pmulF; rw [if_neg (fun h => h.elim hx hy)]; simp
theorem pmulV_len {m : Nat} {xs ys : List Nat} (hx : xs ≠ []) (hy : ys ≠ []) : (pmulV m xs ys).length = xs.length + ys.length - 1 := by
  rw [pmulV_eq hx hy]; simp
set_option maxRecDepth 100000 in
theorem pmul_nil1 (id : Int) (m inv o s n2 cap1 cap2 : Nat) (a1 a2 : Option Addr) (w : World) :
    Calls Tryd.prog 76 #[.pointer none, fld id m inv o s, .slice a1 0 cap1, .slice a2 n2 cap2] w (RetSl [] w) := by
  go_enter Tryd.func76, Tryd.ntmps76
  go_wp2
  go_ret
  exact ⟨_, rfl, NumSl.nil _, by go_grown⟩
set_option maxRecDepth 100000 in
theorem pmul_nil2 (id : Int) (m inv o s n1 cap1 cap2 : Nat) (a1 a2 : Option Addr) (w : World) (h1 : ((n1 : Int) == 0) = false) :
    Calls Tryd.prog 76 #[.pointer none, fld id m inv o s, .slice a1 n1 cap1, .slice a2 0 cap2] w (RetSl [] w) := by
  go_enter Tryd.func76, Tryd.ntmps76
  go_wp2
  go_ret
  exact ⟨_, rfl, NumSl.nil _, by go_grown⟩
set_option maxRecDepth 100000 in
theorem rpmul_nil1 (p n2 cap1 cap2 : Nat) (a1 a2 : Option Addr) (w : World) :
    Calls Tryd.prog 78 #[vec p, .slice a1 0 cap1, .slice a2 n2 cap2] w (RetSl [] w) := by
  go_enter Tryd.func78, Tryd.ntmps78
  go_wp2
  go_ret
  exact ⟨_, rfl, NumSl.nil _, by go_grown⟩
set_option maxRecDepth 100000 in
theorem rpmul_nil2 (p n1 cap1 cap2 : Nat) (a1 a2 : Option Addr) (w : World) (h1 : ((n1 : Int) == 0) = false) :
    Calls Tryd.prog 78 #[vec p, .slice a1 n1 cap1, .slice a2 0 cap2] w (RetSl [] w) := by
  go_enter Tryd.func78, Tryd.ntmps78
  go_wp2
  go_ret
  exact ⟨_, rfl, NumSl.nil _, by go_grown⟩
theorem pmul_sl (id : Int) (m inv o s : Nat) (v1 v2 : Value) (xs ys : List Nat) (w : World) (hF : Hid (FieldOK m inv)) (hS1 : NumSl w v1 xs) (hS2 : NumSl w v2 ys) (hxs : Hid (∀ y ∈ xs, y < m)) (hys : Hid (∀ y ∈ ys, y < m)) (hl1 : xs.length < 100000) (hl2 : ys.length < 100000) :
    Calls Tryd.prog 76 #[.pointer none, fld id m inv o s, v1, v2] w (RetSl (pmulF m xs ys) w) := by
  have hm2 := hF.out.2.1
  have h1 := hS1
  have h2 := hS2
  obtain ⟨a1, c1, rfl, _, _⟩ := h1
  obtain ⟨a2, c2, rfl, _, _⟩ := h2
  rcases Nat.eq_zero_or_pos xs.length with e1 | e1
  · have hx : xs = [] := List.length_eq_zero_iff.1 e1
    rw [e1, show pmulF m xs ys = [] from by unfold pmulF; rw [if_pos (.inl hx)]]
    exact pmul_nil1 id m inv o s _ _ _ _ _ w
  · have hx : xs ≠ [] := fun e => by rw [e] at e1; exact Nat.lt_irrefl _ e1
    rcases Nat.eq_zero_or_pos ys.length with e2 | e2
    · have hy : ys = [] := List.length_eq_zero_iff.1 e2
      rw [e2, show pmulF m xs ys = [] from by unfold pmulF; rw [if_pos (.inr hy)]]
      exact pmul_nil2 id m inv o s _ _ _ _ _ w (by simp; omega)
    · have hy : ys ≠ [] := fun e => by rw [e] at e2; exact Nat.lt_irrefl _ e2
      obtain ⟨n1, hn1⟩ : ∃ n, xs.length = n + 1 := ⟨xs.length - 1, by omega⟩
      obtain ⟨n2, hn2⟩ : ∃ n, ys.length = n + 1 := ⟨ys.length - 1, by omega⟩
      rw [hn1] at hS1 ⊢
      rw [hn2] at hS2 ⊢
      exact (pmul_pos id m inv o s n1 n2 c1 c2 a1 a2 xs ys w hF hS1 hS2 hxs hys hn1 hn2 (by omega) (by omega)).mono fun e w' h => RetSl.own h rfl (fun z hz => Nat.lt_trans (pmulF_lt xs ys (by omega) z hz) hF.out.1)
theorem rpmul_sl (p : Nat) (v1 v2 : Value) (xs ys : List Nat) (w : World) (hp : p < B256) (hp1 : 1 < p) (hS1 : NumSl w v1 xs) (hS2 : NumSl w v2 ys) (hxs : Hid (∀ y ∈ xs, y < p)) (hys : Hid (∀ y ∈ ys, y < p)) (hl1 : xs.length < 100000) (hl2 : ys.length < 100000) :
    Calls Tryd.prog 78 #[vec p, v1, v2] w (RetSl (pmulV p xs ys) w) := by
  have h1 := hS1
  have h2 := hS2
  obtain ⟨a1, c1, rfl, _, _⟩ := h1
  obtain ⟨a2, c2, rfl, _, _⟩ := h2
  rcases Nat.eq_zero_or_pos xs.length with e1 | e1
  · have hx : xs = [] := List.length_eq_zero_iff.1 e1
    rw [e1, show pmulV p xs ys = [] from by unfold pmulV; rw [if_pos (.inl hx)]]
    exact rpmul_nil1 p _ _ _ _ _ w
  · have hx : xs ≠ [] := fun e => by rw [e] at e1; exact Nat.lt_irrefl _ e1
    rcases Nat.eq_zero_or_pos ys.length with e2 | e2
    · have hy : ys = [] := List.length_eq_zero_iff.1 e2
      rw [e2, show pmulV p xs ys = [] from by unfold pmulV; rw [if_pos (.inr hy)]]
      exact rpmul_nil2 p _ _ _ _ _ w (by simp; omega)
    · have hy : ys ≠ [] := fun e => by rw [e] at e2; exact Nat.lt_irrefl _ e2
      have hlen := pmulV_len (m := p) hx hy
      obtain ⟨n1, hn1⟩ : ∃ n, xs.length = n + 1 := ⟨xs.length - 1, by omega⟩
      obtain ⟨n2, hn2⟩ : ∃ n, ys.length = n + 1 := ⟨ys.length - 1, by omega⟩
      rw [hn1] at hS1 ⊢
      rw [hn2] at hS2 ⊢
      exact (rpmul_pos p n1 n2 c1 c2 a1 a2 xs ys w hp hp1 hS1 hS2 hxs hys hn1 hn2 (by omega) (by omega)).mono fun e w' h => RetSl.own h (by omega) (fun z hz => Nat.lt_trans (pmulV_lt xs ys (by omega) z hz) hp)
theorem padd_sl (id : Int) (m inv o s : Nat) (v1 v2 : Value) (xs ys : List Nat) (w : World) (hF : Hid (FieldOK m inv)) (hS1 : NumSl w v1 xs) (hS2 : NumSl w v2 ys) (hxs : ∀ y ∈ xs, y < m) (hys : ∀ y ∈ ys, y < m) (hl1 : xs.length < 1000000) (hl2 : ys.length < 1000000) :
    Calls Tryd.prog 79 #[.pointer none, fld id m inv o s, v1, v2] w (RetSl (paddV m xs ys) w) :=
  (padd_any id m inv o s v1 v2 xs ys w hF hS1 hS2 hxs hys hl1 hl2).mono fun e w' h => RetSl.own h (paddV_len _ _ _) (fun z hz => Nat.lt_trans (paddV_lt xs ys (by have := hF.out.2.1; omega) z hz) hF.out.1)
theorem rpadd_sl (p : Nat) (v1 v2 : Value) (xs ys : List Nat) (w : World) (hp : p < B256) (h1 : 1 < p) (hS1 : NumSl w v1 xs) (hS2 : NumSl w v2 ys) (hxs : Hid (∀ y ∈ xs, y < p)) (hys : Hid (∀ y ∈ ys, y < p)) (hl1 : xs.length < 100000) (hl2 : ys.length < 100000) :
    Calls Tryd.prog 82 #[vec p, v1, v2] w (RetSl (paddV p xs ys) w) :=
  (rpadd_any p v1 v2 xs ys w hp h1 hS1 hS2 hxs hys hl1 hl2).mono fun e w' h => RetSl.own h (paddV_len _ _ _) (fun z hz => Nat.lt_trans (paddV_lt xs ys (by omega) z hz) hp)
theorem scale_sl (id : Int) (m inv o s x : Nat) (v : Value) (xs : List Nat) (w : World) (hF : Hid (FieldOK m inv)) (hx : Hid (x < m)) (hS : NumSl w v xs) (hxs : ∀ y ∈ xs, y < m) (hl : xs.length < 1000000) :
    Calls Tryd.prog 80 #[.pointer none, fld id m inv o s, v, vec x] w (RetSl (pscl m x xs) w) :=
  (scale_any id m inv o s x v xs w hF hx hS hxs hl).mono fun e w' h => RetSl.own h (by simp [pscl]) (fun z hz => by
    obtain ⟨y, _, rfl⟩ := List.mem_map.1 hz
    exact Nat.lt_trans (mont_lt _ _ (by have := hF.out.2.1; omega)) hF.out.1)
/-- The multiple of forms. -/
theorem pscl_forms {m : Nat} (h : ∃ y, B256 * y % m = 1) (x : Nat) (vs : List Nat) : pscl m (frm m x) (vs.map (frm m)) = (vs.map fun y => mulm m y x).map (frm m) := by
  unfold pscl
  rw [List.map_map, List.map_map]
  exact List.map_congr_left fun y _ => frm_mulm h y x
end Go.Proofs.YtogenbggjodcnaaDoor
