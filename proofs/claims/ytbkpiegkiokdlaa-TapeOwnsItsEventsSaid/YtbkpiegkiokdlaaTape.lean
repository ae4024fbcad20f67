/-
  A tape in memory: its events, its blocks.
-/
import Derived.Test.YtbkpiegkiokdlaaGrow
namespace Go.Proofs.Ytbkpiegkiokdlaa
open Go.RowKit

/-- An event. -/
structure Ev where
  k : Int
  a : Int
  b : Int
deriving DecidableEq
abbrev Ev.val (e : Ev) : Value := .agg #[.int .i64 e.k, .int .i64 e.a, .int .i64 e.b]
def Ev.cells (e : Ev) : List Value := [.int .i64 e.k, .int .i64 e.a, .int .i64 e.b]
abbrev ptr (b : Nat) : Value := .pointer (some ⟨b, 0, none⟩)

/-- The blocks of a tape. -/
def fp (p : Nat) (v : Value) (bs : List Nat) : List Nat := p :: (v.ownBlock.toList ++ bs)
/-- One block of 64 events holds the events from 64 j on. -/
def BlkEv (w : World) (b j : Nat) (l : List Ev) : Prop :=
  ∃ cs : List Value, cs.length = 192 ∧ Blk w b 54 cs ∧ ∀ i e, i < 64 → l[64 * j + i]? = some e → cs[i * 3]? = some (.int .i64 e.k) ∧ cs[i * 3 + 1]? = some (.int .i64 e.a) ∧ cs[i * 3 + 2]? = some (.int .i64 e.b)
structure TapeAt (w : World) (p : Nat) (v : Value) (bs : List Nat) (l : List Ev) : Prop where
  head : Blk w p 47 [v, .int .i64 (l.length : Int)]
  row : w.ownsRow 0 53 1 v bs.length (bs.map ptr)
  pv : v.ownBlock ≠ some p
  pb : p ∉ bs
  vb : ∀ b ∈ bs, v.ownBlock ≠ some b
  nd : bs.Nodup
  lo : l.length ≤ 64 * bs.length
  hi : 64 * bs.length < l.length + 64
  evs : ∀ j b, bs[j]? = some b → BlkEv w b j l

theorem BlkEv.grow {w w' : World} {B b j : Nat} {l : List Ev} (h : BlkEv w b j l) (g : Grow B w w') : BlkEv w' b j l := by
  obtain ⟨cs, h1, h2, h3⟩ := h; exact ⟨cs, h1, h2.grow g, h3⟩
theorem BlkEv.only {w w' : World} {F : Nat → Prop} {b j : Nat} {l : List Ev} (h : BlkEv w b j l) (g : Only F w w') (hF : ¬ F b) : BlkEv w' b j l := by
  obtain ⟨cs, h1, h2, h3⟩ := h; exact ⟨cs, h1, h2.only g hF, h3⟩
theorem TapeAt.grow {w w' : World} {B p : Nat} {v : Value} {bs : List Nat} {l : List Ev} (h : TapeAt w p v bs l) (g : Grow B w w') : TapeAt w' p v bs l :=
  { h with head := h.head.grow g, row := owns_grow h.row g, evs := fun j b hb => (h.evs j b hb).grow g }
theorem mem_fp {p k : Nat} {v : Value} {bs : List Nat} : k ∈ fp p v bs ↔ k = p ∨ v.ownBlock = some k ∨ k ∈ bs := by
  unfold fp; simp [Option.mem_toList]
theorem TapeAt.only {w w' : World} {F : Nat → Prop} {p : Nat} {v : Value} {bs : List Nat} {l : List Ev} (h : TapeAt w p v bs l) (g : Only F w w') (hF : ∀ k ∈ fp p v bs, ¬ F k) : TapeAt w' p v bs l :=
  { h with
    head := h.head.only g (hF p (mem_fp.2 (.inl rfl)))
    row := owns_only h.row g (fun k hk => hF k (mem_fp.2 (.inr (.inl hk))))
    evs := fun j b hb => (h.evs j b hb).only g (hF b (mem_fp.2 (.inr (.inr (List.mem_of_getElem? hb))))) }
theorem TapeAt.call {w w' : World} {p : Nat} {v : Value} {bs : List Nat} {l : List Ev} (h : TapeAt w p v bs l) (hb : Below w.heap.size w w') : TapeAt w' p v bs l := h.grow (Below.grow hb 0)
theorem owns_lt {w : World} {base : Nat} {e : TypeId} {size n : Nat} {v : Value} {xs : List Value} (h : w.ownsRow base e size v n xs) {k : Nat} (hk : v.ownBlock = some k) : k < w.heap.size := (h.lt k hk).2
theorem TapeAt.lt {w : World} {p : Nat} {v : Value} {bs : List Nat} {l : List Ev} (h : TapeAt w p v bs l) : ∀ k ∈ fp p v bs, k < w.heap.size := by
  intro k hk
  rcases mem_fp.1 hk with rfl | hk | hk
  · exact h.head.lt
  · exact owns_lt h.row hk
  · obtain ⟨j, hj⟩ := List.getElem?_of_mem hk
    obtain ⟨cs, _, hb, _⟩ := h.evs j k hj
    exact hb.lt
end Go.Proofs.Ytbkpiegkiokdlaa
