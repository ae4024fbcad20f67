/-
  LagrangeChecks: for every list of numbers, Check returns the same result as the reference.
-/
import Derived.Test.YthdjjogdjabflaaDoorAlive09
import Derived.Test.YthdjjogdjabflaaDoorRZero9
import Derived.Test.YthdjjogdjabflaaDoorRItp9
import Derived.Test.YthdjjogdjabflaaDoorDot9
import Derived.Deep.RegionHeld3
namespace Go.Proofs.YthdjjogdjabflaaDoor
open Go.RowKit

attribute [local go_sem] Oper.semAt_some
set_option maxRecDepth 100000 in
set_option maxHeartbeats 4000000 in
theorem checks9_law (v : Value) (xs : List Int) (w : World) (hT : Tab w) (hS : IntSl w v xs) :
    Calls Tryd.prog 3 #[v] w (Ret (.bool true) w) := by
  have BW := hid (Below.refl w.heap.size w)
  have T := hid hT
  clear hT
  have HS := hid hS
  obtain ⟨sa, sc, rfl, _⟩ := hS
  obtain ⟨n, hn⟩ : ∃ n, xs.length = n := ⟨_, rfl⟩
  rw [hn] at HS ⊢
  have HN := hid hn
  by_cases h400 : 400 < n
  · skip
    go_enter Tryd.func3, Tryd.ntmps3
    go_wp2_with fail
    refine (alive9_any _ T.out).mono ?_
    rintro e v1 ⟨rfl, b9⟩
    replace T := hid (T.out.keep b9)
    replace BW := hid (BW.out.trans (b9.mono BW.out.size))
    clear b9
    go_wp2
    go_ret
    exact ⟨rfl, BW.out⟩
  have hlx : xs.length < 1000000 := by omega
  have CC := hid (fun (W : World) (h : IntSl W (.slice sa n sc) xs) => lcheck_any (.slice sa n sc) xs W h hlx)
  have RCC := hid (fun (W : World) (h : IntSl W (.slice sa n sc) xs) => rlcheck_any (.slice sa n sc) xs W h hlx)
  obtain ⟨c, hc⟩ : ∃ c, chkx xs = c := ⟨_, rfl⟩
  rw [hc] at CC RCC
  clear hc hlx hn
  have hd : (c == c) = true := by simp
  go_enter Tryd.func3, Tryd.ntmps3
  go_wp2_with fail
  refine (alive9_any _ T.out).mono ?_
  rintro e v2 ⟨rfl, b9⟩
  replace T := hid (T.out.keep b9)
  replace BW := hid (BW.out.trans (b9.mono BW.out.size))
  clear b9
  go_wp2_with fail
  refine (CC.out _ (HS.out.below BW.out)).mono ?_
  rintro e v3 ⟨rfl, b9⟩
  replace T := hid (T.out.keep b9)
  replace BW := hid (BW.out.trans (b9.mono BW.out.size))
  clear b9
  go_wp2_with fail
  refine (RCC.out _ (HS.out.below BW.out)).mono ?_
  rintro e v4 ⟨rfl, b9⟩
  replace T := hid (T.out.keep b9)
  replace BW := hid (BW.out.trans (b9.mono BW.out.size))
  clear b9
  go_wp2
  go_ret
  exact ⟨rfl, BW.out⟩
end Go.Proofs.YthdjjogdjabflaaDoor
