/- Words on memory, more: a row stored whole into a block; rows of 16 limbs as values. -/
import Derived.Test.YtmoggjbnlimepaaRfb
import Derived.Deep.MidRow
import Derived.Deep.LoopGhost
import Derived.Deep.WholeRow
import Derived.Laws.Rows
import Derived.Laws.CopyOwn
namespace Go.Proofs.Ytmoggjbnlimepaa
open Go.RowKit

theorem Blk.row {w : World} {g E : Nat} {old : List Value} (h : Blk w g old E) (cs : List Value) : Blk (w.setRow g cs.toArray) g cs E := setRow_heap w g _ cs.toArray E _ h
theorem Blk.rowOther {w : World} {g E : Nat} {cs : List Value} (h : Blk w g cs E) (k : Nat) (hk : g ≠ k) (c : Array Value) : Blk (w.setRow k c) g cs E := by
  unfold Blk at *
  rw [setRow_other w k g c hk]; exact h
/-- Storing a row into a whole block. -/
theorem st_blk {w : World} {g E : Nat} {old cs : List Value} (h : Blk w g old E) (hl : cs.length = old.length) (h1 : ∀ v ∈ cs, v.oneCell' = true) :
    (storeCells ⟨g, 0, none⟩ cs).run Try.prog w = .ok () (w.setRow g cs.toArray) := by
  have := run_storeCells_from (P := Try.prog) g E cs 0 old.toArray w h (by simp [hl]) h1
  simpa using this
theorem one_row (n : Nat) (f : Nat → Nat) : ∀ v ∈ row n (fV f), v.oneCell' = true := fun v hv => by
  simp [row] at hv
  obtain ⟨i, _, rfl⟩ := hv
  rfl
/-- The same, the world behind it named. -/
theorem st_row {B n : Nat} {w0 w : World} {g E : Nat} {old : List Value} (h : Blk w g old E) (hl : old.length = n) (hb : Below B w0 w) (hg : B ≤ g) (f : Nat → Nat) :
    ∃ W, (storeCells ⟨g, 0, none⟩ (row n (fV f))).run Try.prog w = .ok () W ∧ Blk W g (row n (fV f)) E ∧ Below B w0 W ∧ W.heap.size = w.heap.size ∧ ∀ k E' cs, k ≠ g → Blk w k cs E' → Blk W k cs E' :=
  ⟨_, st_blk h (by rw [row_len, hl]) (one_row n f), h.row _, below_setRow hb hg _, size_setRow _ _ _, fun _ _ _ hk hB => hB.rowOther _ hk _⟩
theorem infoFe (f : Nat → Nat) : (Try.prog.info? 54).map (·.size) = some (row 16 (fV f)).length := by rw [row_len]; kernel_rfl
theorem infoFeA (f : Nat → Nat) : (Try.prog.info? 54).map (·.size) = some (row 16 (fV f)).toArray.size := by rw [List.size_toArray]; exact infoFe f
theorem Blk.range {w : World} {g E : Nat} {cs : List Value} (h : Blk w g cs E) : w.rangeAt g 0 cs := fun j v hv => by rw [Nat.zero_add, h.cell]; exact hv
/-- Storing a row of 16 into a new variable. -/
theorem st_new (w : World) (f : Nat → Nat) : (storeCells ⟨w.heap.size, 0, none⟩ (row 16 (fV f))).run Try.prog (w.alloc (.cells #[.int .u64 0, .int .u64 0, .int .u64 0, .int .u64 0, .int .u64 0, .int .u64 0, .int .u64 0, .int .u64 0, .int .u64 0, .int .u64 0, .int .u64 0, .int .u64 0, .int .u64 0, .int .u64 0, .int .u64 0, .int .u64 0] 54)) = .ok () (w.alloc (.cells (row 16 (fV f)).toArray 54)) := by
  have h := st_blk (Blk.new w #[.int .u64 0, .int .u64 0, .int .u64 0, .int .u64 0, .int .u64 0, .int .u64 0, .int .u64 0, .int .u64 0, .int .u64 0, .int .u64 0, .int .u64 0, .int .u64 0, .int .u64 0, .int .u64 0, .int .u64 0, .int .u64 0] 54) (cs := row 16 (fV f)) rfl (one_row 16 f)
  rw [World.setRow_alloc_new] at h
  exact h
end Go.Proofs.Ytmoggjbnlimepaa
