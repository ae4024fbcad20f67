/-
  The inverses of many elements, none among them.
-/
import Derived.Test.YtogenbggjodcnaaDoorBatch
namespace Go.Proofs.YtogenbggjodcnaaDoor
open Go.RowKit

theorem fer_b (b : Bool) : Fer (fP b) := by cases b; exact fer_P1; exact fer_P2

theorem batch_any (id : Int) (m inv s : Nat) (v : Value) (xs : List Nat) (w : World) (hF : Hid (FieldOK m inv)) (hFer : Hid (Fer m)) (hS : NumSl w v (xs.map (frm m))) (hxs : Hid (∀ y ∈ xs, y < m)) (hl : xs.length < 1000000) :
    Calls Tryd.prog 108 #[.pointer none, fld id m inv (frm m 1) s, v] w (RetOwn 29 4 xs.length (nums ((xs.map (invm m)).map (frm m))) w) := by
  obtain ⟨n, hn⟩ : ∃ n, xs.length = n := ⟨_, rfl⟩
  have hS' := hS
  obtain ⟨a, cap, rfl, h1, h2⟩ := hS'
  rw [List.length_map, hn] at hS ⊢
  by_cases h0 : n = 0
  · subst h0
    have hx : xs = [] := List.length_eq_zero_iff.1 hn
    subst hx
    clear hS h1 h2 hn hl hxs
    go_enter Tryd.func108, Tryd.ntmps108
    go_wp2
    go_ret
    exact ⟨_, rfl, by simpa [nums] using World.ownsRow_nil _ _ _ _, by go_grown⟩
  · exact batch_pos id m inv s n cap a xs w hF hFer hS hxs hn (by omega) (by omega)
end Go.Proofs.YtogenbggjodcnaaDoor
