/-
  The reference's Form.
-/
import Derived.Test.YtfaicnileghjiaaDoorRef4e
import Derived.Test.YtfaicnileghjiaaDoorNumH
import Derived.Deep.RegionHeld3
namespace Go.Proofs.YtfaicnileghjiaaDoor
open Go.RowKit

set_option maxRecDepth 100000 in
set_option maxHeartbeats 1000000 in
theorem rform_any (p v : Nat) (hp : p < B256) (h1 : 1 < p) (hv : v < B256) (w : World) : Calls Tryd.prog 38 #[vec p, vec v] w (Ret (vec (frm p v)) w) := by
  have EQ := hid (form_eq (p := p) v)
  have HP := hid hp
  have H1 := hid h1
  have HV := hid hv
  clear hp h1 hv
  go_enter Tryd.func38, Tryd.ntmps38
  go_wp2
  go_region_held3 (fun w' => w'.cell? ⟨w.heap.size, 0, none⟩ = some (.int .u64 (limb p 0 : Int)) ∧ w'.cell? ⟨w.heap.size, 1, none⟩ = some (.int .u64 (limb p 1 : Int)) ∧ w'.cell? ⟨w.heap.size, 2, none⟩ = some (.int .u64 (limb p 2 : Int)) ∧ w'.cell? ⟨w.heap.size, 3, none⟩ = some (.int .u64 (limb p 3 : Int)) ∧ w'.cell? ⟨w.heap.size + 1, 0, none⟩ = some (.int .u64 (limb v 0 : Int)) ∧ w'.cell? ⟨w.heap.size + 1, 1, none⟩ = some (.int .u64 (limb v 1 : Int)) ∧ w'.cell? ⟨w.heap.size + 1, 2, none⟩ = some (.int .u64 (limb v 2 : Int)) ∧ w'.cell? ⟨w.heap.size + 1, 3, none⟩ = some (.int .u64 (limb v 3 : Int))) ((first | (go_simp; done) | go_keep)) (first | (go_at_call 21; refine (rmul_any p (powm p 2 256) v HP.out (powm_lt _ _ (by have := H1.out; omega)) HV.out _).mono ?_; rintro e w2 ⟨rfl, hb2⟩; have B2 : Below w.heap.size w w2 := Below.call (by go_grown) hb2; have zB2 := B2.size; have y2_0 : w.heap.size < w2.heap.size := (by have this := hb2.size; (try simp at this); omega); have y2_1 : w.heap.size + 1 < w2.heap.size := (by have this := hb2.size; (try simp at this); omega); have hc2 := bcell hb2; have h_r : Blk w2 (w.heap.size + 1 + 1) 24 [.int .u64 0, .int .u64 0, .int .u64 0, .int .u64 0] := Blk.keep (Blk.keep (Blk.drew (Blk.new (by simp))) hb1) hb2; have ch_r0 := h_r.cell (i := 0) rfl; have fh_r0 := h_r.frozen 0; have ch_r1 := h_r.cell (i := 1) rfl; have fh_r1 := h_r.frozen 1; have ch_r2 := h_r.cell (i := 2) rfl; have fh_r2 := h_r.frozen 2; have ch_r3 := h_r.cell (i := 3) rfl; have fh_r3 := h_r.frozen 3; have zr := h_r.lt) | (go_at_call 55; refine (rradix_any p HP.out H1.out _).mono ?_; rintro e w1 ⟨rfl, hb1⟩; have B1 : Below w.heap.size w w1 := Below.call (by go_grown) hb1; have zB1 := B1.size; have y1_0 : w.heap.size < w1.heap.size := (by have this := hb1.size; (try simp at this); omega); have y1_1 : w.heap.size + 1 < w1.heap.size := (by have this := hb1.size; (try simp at this); omega); have hc1 := bcell hb1))
  all_goals go_wp2
  all_goals refine bodyPost_ret (by simp only [results, Tryd.results38]; go_simp; try rfl) rfl ?_
  all_goals exact ⟨by rw [EQ.out], by go_grown⟩
end Go.Proofs.YtfaicnileghjiaaDoor
