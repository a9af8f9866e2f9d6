/- Words on memory, more: a row stored whole into a block. -/
import Derived.Test.YtbgfokdchpcifaaFlat
import Derived.Deep.MidRow
import Derived.Deep.LoopGhost
import Derived.Deep.WholeRow
import Derived.Laws.Rows
import Derived.Laws.CopyOwn
namespace Go.Proofs.Ytbgfokdchpcifaa
open Go.RowKit

theorem Blk.row {w : World} {g E : Nat} {old : List Value} (h : Blk w g old E) (cs : List Value) : Blk (w.setRow g cs.toArray) g cs E := setRow_heap w g _ cs.toArray E _ h
theorem Blk.rowOther {w : World} {g E : Nat} {cs : List Value} (h : Blk w g cs E) (k : Nat) (hk : g ≠ k) (c : Array Value) : Blk (w.setRow k c) g cs E := by
  unfold Blk at *
  rw [setRow_other w k g c hk]; exact h
/-- Storing a row into a whole block. -/
theorem st_blk {w : World} {g E : Nat} {old cs : List Value} (h : Blk w g old E) (hl : cs.length = old.length) (h1 : ∀ v ∈ cs, v.oneCell' = true) :
    (storeCells ⟨g, 0, none⟩ cs).run Try.prog w = .ok () (w.setRow g cs.toArray) := by
  have := run_storeCells_from (P := Try.prog) g E cs 0 old.toArray w h (by simp [hl]) h1
  simpa using this
theorem Blk.range {w : World} {g E : Nat} {cs : List Value} (h : Blk w g cs E) : w.rangeAt g 0 cs := fun j v hv => by rw [Nat.zero_add, h.cell]; exact hv
end Go.Proofs.Ytbgfokdchpcifaa
