/- The walks of the document's own field, first part: p, which is less, carrying. -/
import Derived.Test.YtmoggjbnlimepaaFld
import Derived.Test.YtmoggjbnlimepaaRfn
namespace Go.Proofs.Ytmoggjbnlimepaa
open Go.RowKit

def primeF (i : Nat) : Nat := if i = 0 then 65517 else if i = 15 then 32767 else 65535
theorem primeF_d16 : ∀ i : Fin 16, primeF i.val = d16 Pq i.val := by decide +kernel
theorem row16 (f : Nat → Value) : row 16 f = [f 0, f 1, f 2, f 3, f 4, f 5, f 6, f 7, f 8, f 9, f 10, f 11, f 12, f 13, f 14, f 15] := rfl
set_option maxHeartbeats 1000000 in
theorem rprime_any (w : World) : Calls Try.prog 47 #[] w fun e w' => e = .returned (.agg #[.int .u64 (primeF 0 : Nat), .int .u64 (primeF 1 : Nat), .int .u64 (primeF 2 : Nat), .int .u64 (primeF 3 : Nat), .int .u64 (primeF 4 : Nat), .int .u64 (primeF 5 : Nat), .int .u64 (primeF 6 : Nat), .int .u64 (primeF 7 : Nat), .int .u64 (primeF 8 : Nat), .int .u64 (primeF 9 : Nat), .int .u64 (primeF 10 : Nat), .int .u64 (primeF 11 : Nat), .int .u64 (primeF 12 : Nat), .int .u64 (primeF 13 : Nat), .int .u64 (primeF 14 : Nat), .int .u64 (primeF 15 : Nat)]) ∧ Below w.heap.size w w' := by
  go_enter Try.func47, Try.ntmps47
  go_wp2
  refine wp_loop_rounds 17 ?_
  iterate 16 (rw [rounds_succ]; go_wp2; (try go_region); go_wp2)
  rw [rounds_succ]
  go_wp2
  exact bodyPost_ret (v := .agg #[.int .u64 65517, .int .u64 65535, .int .u64 65535, .int .u64 65535, .int .u64 65535, .int .u64 65535, .int .u64 65535, .int .u64 65535, .int .u64 65535, .int .u64 65535, .int .u64 65535, .int .u64 65535, .int .u64 65535, .int .u64 65535, .int .u64 65535, .int .u64 32767]) (by simp [results, Try.results47, go_sem]) rfl ⟨rfl, (by repeat (first | (with_reducible refine Below.alloc' ?_ _) | (with_reducible refine Below.drew ?_) | (with_reducible refine below_drewN ?_ _) | ((with_reducible refine Below.setCell ?_ ?_ _); rotate_left; (focus (first | exact Nat.le_refl _ | (simp; done) | (simp; omega)))) | (with_reducible assumption) | (with_reducible exact Below.refl _ _)))⟩
end Go.Proofs.Ytmoggjbnlimepaa
