/- The walks of the document's own field, sixth part: small numbers, opposites, products. -/
import Derived.Test.YtmoggjbnlimepaaRfh
namespace Go.Proofs.Ytmoggjbnlimepaa
open Go.RowKit

def smlF (n j i : Nat) : Nat := if i < j then d16 n i else 0
theorem sml_row (n : Nat) : row 16 (fV (smlF n 4)) = [.int .u64 (d16 n 0 : Nat), .int .u64 (d16 n 1 : Nat), .int .u64 (d16 n 2 : Nat), .int .u64 (d16 n 3 : Nat), .int .u64 0, .int .u64 0, .int .u64 0, .int .u64 0, .int .u64 0, .int .u64 0, .int .u64 0, .int .u64 0, .int .u64 0, .int .u64 0, .int .u64 0, .int .u64 0] := rfl
theorem sml_d16 (n : Nat) (h : n < 18446744073709551616) : row 16 (fV (smlF n 4)) = row 16 (fV (d16 n)) := row_ext fun i hi => by
  unfold fV smlF
  by_cases h4 : i < 4
  · rw [if_pos h4]
  · rw [if_neg h4]
    have : n / 65536 ^ i = 0 := Nat.div_eq_of_lt (Nat.lt_of_lt_of_le h (show 65536 ^ 4 ≤ 65536 ^ i from Nat.pow_le_pow_right (by omega) (by omega)))
    simp [d16, this]
theorem sml_and (n k : Nat) (h : n < 18446744073709551616) : bits BinOp.and IntKind.u64 ((n / 65536 ^ k : Nat) : Int) 65535 = (d16 n k : Nat) :=
  and16 _ (Nat.lt_of_le_of_lt (Nat.div_le_self _ _) h)
set_option maxHeartbeats 1000000 in
theorem rsmall_any (n : Nat) (hn : n < 18446744073709551616) (w : World) :
    Calls Try.prog 31 #[.int .u64 n] w fun e w' => e = .returned (.agg (row 16 (fV (d16 n))).toArray) ∧ Below w.heap.size w w' := by
  have HR := Lib.hid (sml_d16 n hn)
  obtain ⟨ni, hni⟩ : ∃ ni : Int, ni = (n : Int) := ⟨_, rfl⟩
  have a0 : bits BinOp.and IntKind.u64 ni 65535 = (d16 n 0 : Nat) := by have := sml_and n 0 hn; rw [Nat.pow_zero, Nat.div_one] at this; rw [hni]; exact this
  have a1 : bits BinOp.and IntKind.u64 (ni / 65536) 65535 = (d16 n 1 : Nat) := by have := sml_and n 1 hn; rw [hni]; simpa using this
  have a2 : bits BinOp.and IntKind.u64 (ni / 4294967296) 65535 = (d16 n 2 : Nat) := by have := sml_and n 2 hn; rw [hni]; simpa using this
  have a3 : bits BinOp.and IntKind.u64 (ni / 281474976710656) 65535 = (d16 n 3 : Nat) := by have := sml_and n 3 hn; rw [hni]; simpa using this
  have h0 : 0 ≤ ni := by omega
  have h1 : ni < 18446744073709551616 := by omega
  rw [← hni]
  clear hni hn
  have HS := Lib.hid (sml_row n)
  generalize d16 n 0 = x0 at *
  generalize d16 n 1 = x1 at *
  generalize d16 n 2 = x2 at *
  generalize d16 n 3 = x3 at *
  go_enter Try.func31, Try.ntmps31
  go_wp2
  refine wp_loop_rounds 5 ?_
  iterate 4 (rw [rounds_succ]; go_wp2)
  rw [rounds_succ]
  go_wp2
  refine bodyPost_ret (v := .agg (row 16 (fV (smlF n 4))).toArray) ?_ rfl ⟨by rw [HR.out], (by repeat (first | (with_reducible refine Below.alloc' ?_ _) | (with_reducible refine Below.drew ?_) | (with_reducible refine below_drewN ?_ _) | ((with_reducible refine Below.setCell ?_ ?_ _); rotate_left; (focus (first | exact Nat.le_refl _ | (simp; done) | (simp; omega)))) | (with_reducible assumption) | (with_reducible exact Below.refl _ _)))⟩
  rw [HS.out]
  simp [results, Try.results31, go_sem]
theorem fn_small {n : Nat} (h : n < Pq) : (fn n).val = n := Nat.mod_eq_of_lt h
theorem rsmallM (n : Nat) (hn : n < 18446744073709551616) (w : World) :
    Calls Try.prog 31 #[.int .u64 n] w fun e w' => e = .returned (.agg (row 16 (fV (d16 (fn n).val))).toArray) ∧ Below w.heap.size w w' := by
  rw [fn_small (by unfold Pq; omega)]
  exact rsmall_any n hn w
theorem zero_row : row 16 (fV (d16 (0 : F).val)) = [.int .u64 0, .int .u64 0, .int .u64 0, .int .u64 0, .int .u64 0, .int .u64 0, .int .u64 0, .int .u64 0, .int .u64 0, .int .u64 0, .int .u64 0, .int .u64 0, .int .u64 0, .int .u64 0, .int .u64 0, .int .u64 0] := by
  rw [show (0 : F).val = 0 from rfl]; simp only [row16, fV, d16, Nat.zero_div, Nat.zero_mod]; rfl
theorem rsub0 (x : F) (w : World) :
    Calls Try.prog 34 #[.agg #[.int .u64 0, .int .u64 0, .int .u64 0, .int .u64 0, .int .u64 0, .int .u64 0, .int .u64 0, .int .u64 0, .int .u64 0, .int .u64 0, .int .u64 0, .int .u64 0, .int .u64 0, .int .u64 0, .int .u64 0, .int .u64 0], .agg (row 16 (fV (d16 x.val))).toArray] w fun e w' => e = .returned (.agg (row 16 (fV (d16 (-x).val))).toArray) ∧ Below w.heap.size w w' := by
  have h := rsubM 0 x w
  rw [zero_row, show (0 : F) - x = -x from by grind] at h
  exact h
end Go.Proofs.Ytmoggjbnlimepaa
