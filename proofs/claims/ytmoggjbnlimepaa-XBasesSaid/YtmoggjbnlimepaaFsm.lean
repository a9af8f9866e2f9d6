/- The walks of package field, sixth part: odd, the same. -/
import Derived.Test.YtmoggjbnlimepaaFwh
import Derived.Deep.RegionHeld3
namespace Go.Proofs.Ytmoggjbnlimepaa
open Go.RowKit

theorem keep5 (g : Nat) (f : Nat → Nat) {w w' : World} (h : w.cell? ⟨g, 0, none⟩ = some (.int .u64 (f 0 : Nat)) ∧ w.cell? ⟨g, 1, none⟩ = some (.int .u64 (f 1 : Nat)) ∧ w.cell? ⟨g, 2, none⟩ = some (.int .u64 (f 2 : Nat)) ∧ w.cell? ⟨g, 3, none⟩ = some (.int .u64 (f 3 : Nat)) ∧ w.cell? ⟨g, 4, none⟩ = some (.int .u64 (f 4 : Nat))) (hb : Below w.heap.size w w') : w'.cell? ⟨g, 0, none⟩ = some (.int .u64 (f 0 : Nat)) ∧ w'.cell? ⟨g, 1, none⟩ = some (.int .u64 (f 1 : Nat)) ∧ w'.cell? ⟨g, 2, none⟩ = some (.int .u64 (f 2 : Nat)) ∧ w'.cell? ⟨g, 3, none⟩ = some (.int .u64 (f 3 : Nat)) ∧ w'.cell? ⟨g, 4, none⟩ = some (.int .u64 (f 4 : Nat)) := by
  obtain ⟨h0, h1, h2, h3, h4⟩ := h
  exact ⟨by rw [hb.cell (cell_lt h0)]; exact h0, by rw [hb.cell (cell_lt h1)]; exact h1, by rw [hb.cell (cell_lt h2)]; exact h2, by rw [hb.cell (cell_lt h3)]; exact h3, by rw [hb.cell (cell_lt h4)]; exact h4⟩
theorem dg_zero (x : Nat) : dg x 0 % 2 = x % 2 := by simp only [dg, Nat.mul_zero, Nat.pow_zero, Nat.div_one]; omega
theorem odd_num (x : Nat) : (bits BinOp.and IntKind.u64 (dg x 0 : Nat) 1 == 1) = decide (x % 2 = 1) := by
  have h := dg_lt x 0
  rw [show (1 : Int) = ((1 : Nat) : Int) from rfl, u64_and_nat _ 1 (by omega) (by omega), Nat.and_one_is_mod, dg_zero]
  generalize hb : x % 2 = b
  by_cases h1 : b = 1
  · subst h1; simp
  · rw [decide_eq_false h1, beq_eq_false_iff_ne]; omega
theorem dg_ext {x y : Nat} (hx : x < Pq) (hy : y < Pq) (h : ∀ i, i < 5 → dg x i = dg y i) : x = y := by
  have key : ∀ n, n < Pq → val (dg n) = n := by
    intro n hn
    unfold Pq at hn
    simp only [val, dg, Nat.reduceMul, Nat.reducePow]
    omega
  rw [← key x hx, ← key y hy]
  simp only [val, h 0 (by omega), h 1 (by omega), h 2 (by omega), h 3 (by omega), h 4 (by omega)]
end Go.Proofs.Ytmoggjbnlimepaa
