/- The contracts of package field over the field's numbers; reading strictly, roots, what is fixed. -/
import Derived.Test.YtmoggjbnlimepaaAlg
import Derived.Test.YtmoggjbnlimepaaFby
namespace Go.Proofs.Ytmoggjbnlimepaa
open Go.RowKit

/-- The limbs f mean x. -/
def FF (f : Nat → Nat) (x : F) : Prop := FE f x.val
theorem FF.mk {f : Nat → Nat} {n : Nat} {x : F} (h : FE f n) (e : n = x.val) : FF f x := by subst e; exact h
/-- The number that bytes mean, freely read. -/
def feF (l : List UInt8) : F := fn (leN (first l 32) % 57896044618658097711785492504343953926634992332820282019728792003956564819968)
theorem faddM {f g : Nat → Nat} {x y : F} (hf : FF f x) (hg : FF g y) (w : World) :
    Calls Try.prog 38 #[.agg #[.int .u64 (f 0 : Nat), .int .u64 (f 1 : Nat), .int .u64 (f 2 : Nat), .int .u64 (f 3 : Nat), .int .u64 (f 4 : Nat)], .agg #[.int .u64 (g 0 : Nat), .int .u64 (g 1 : Nat), .int .u64 (g 2 : Nat), .int .u64 (g 3 : Nat), .int .u64 (g 4 : Nat)]] w fun e w' => ∃ h, e = .returned (.agg #[.int .u64 (h 0 : Nat), .int .u64 (h 1 : Nat), .int .u64 (h 2 : Nat), .int .u64 (h 3 : Nat), .int .u64 (h 4 : Nat)]) ∧ FF h (x + y) ∧ Below w.heap.size w w' := feadd_any hf hg w
theorem fsub_val (x y : F) : (x.val + (Pq - y.val)) % Pq = (x - y).val := by rw [Fin.sub_def, Nat.add_comm]
theorem fsubM {f g : Nat → Nat} {x y : F} (hf : FF f x) (hg : FF g y) (w : World) :
    Calls Try.prog 39 #[.agg #[.int .u64 (f 0 : Nat), .int .u64 (f 1 : Nat), .int .u64 (f 2 : Nat), .int .u64 (f 3 : Nat), .int .u64 (f 4 : Nat)], .agg #[.int .u64 (g 0 : Nat), .int .u64 (g 1 : Nat), .int .u64 (g 2 : Nat), .int .u64 (g 3 : Nat), .int .u64 (g 4 : Nat)]] w fun e w' => ∃ h, e = .returned (.agg #[.int .u64 (h 0 : Nat), .int .u64 (h 1 : Nat), .int .u64 (h 2 : Nat), .int .u64 (h 3 : Nat), .int .u64 (h 4 : Nat)]) ∧ FF h (x - y) ∧ Below w.heap.size w w' := by
  refine (fesub_any hf hg w).mono ?_
  rintro e w' ⟨h, rfl, hh, hb⟩
  exact ⟨h, rfl, FF.mk hh (fsub_val x y), hb⟩
theorem fmulM {f g : Nat → Nat} {x y : F} (hf : FF f x) (hg : FF g y) (w : World) :
    Calls Try.prog 25 #[.agg #[.int .u64 (f 0 : Nat), .int .u64 (f 1 : Nat), .int .u64 (f 2 : Nat), .int .u64 (f 3 : Nat), .int .u64 (f 4 : Nat)], .agg #[.int .u64 (g 0 : Nat), .int .u64 (g 1 : Nat), .int .u64 (g 2 : Nat), .int .u64 (g 3 : Nat), .int .u64 (g 4 : Nat)]] w fun e w' => ∃ h, e = .returned (.agg #[.int .u64 (h 0 : Nat), .int .u64 (h 1 : Nat), .int .u64 (h 2 : Nat), .int .u64 (h 3 : Nat), .int .u64 (h 4 : Nat)]) ∧ FF h (x * y) ∧ Below w.heap.size w w' := femul_any hf hg w
theorem finvM {f : Nat → Nat} {x : F} (hf : FF f x) (w : World) :
    Calls Try.prog 26 #[.agg #[.int .u64 (f 0 : Nat), .int .u64 (f 1 : Nat), .int .u64 (f 2 : Nat), .int .u64 (f 3 : Nat), .int .u64 (f 4 : Nat)]] w fun e w' => ∃ h, e = .returned (.agg #[.int .u64 (h 0 : Nat), .int .u64 (h 1 : Nat), .int .u64 (h 2 : Nat), .int .u64 (h 3 : Nat), .int .u64 (h 4 : Nat)]) ∧ FF h (finv x) ∧ Below w.heap.size w w' := feinv_any hf w
theorem fsmallM {n : Nat} (hn : n < 18446744073709551616) (w : World) :
    Calls Try.prog 22 #[.int .u64 n] w fun e w' => ∃ h, e = .returned (.agg #[.int .u64 (h 0 : Nat), .int .u64 (h 1 : Nat), .int .u64 (h 2 : Nat), .int .u64 (h 3 : Nat), .int .u64 (h 4 : Nat)]) ∧ FF h (fn n) ∧ Below w.heap.size w w' := by
  refine (fesmall_any hn w).mono ?_
  rintro e w' ⟨rfl, hb⟩
  exact ⟨_, rfl, FF.mk (FE.small hn) (by rw [fn_val, Nat.mod_eq_of_lt]; unfold Pq; omega), hb⟩
theorem fofM {a : Option Addr} {n cap : Nat} {l : List UInt8} (w : World) (h : RdB w a n cap l) :
    Calls Try.prog 21 #[.slice a n cap] w fun e w' => ∃ h, e = .returned (.agg #[.int .u64 (h 0 : Nat), .int .u64 (h 1 : Nat), .int .u64 (h 2 : Nat), .int .u64 (h 3 : Nat), .int .u64 (h 4 : Nat)]) ∧ FF h (feF l) ∧ Below w.heap.size w w' := by
  refine (feof_any w h).mono ?_
  rintro e w' ⟨rfl, hb⟩
  exact ⟨_, rfl, FE.of _, hb⟩
theorem fbytesM {f : Nat → Nat} {x : F} (hf : FF f x) (w : World) :
    Calls Try.prog 27 #[.agg #[.int .u64 (f 0 : Nat), .int .u64 (f 1 : Nat), .int .u64 (f 2 : Nat), .int .u64 (f 3 : Nat), .int .u64 (f 4 : Nat)]] w fun e w' => ∃ g cap r, e = .returned (.slice (some ⟨g, 0, none⟩) 32 cap) ∧ w.heap.size ≤ g ∧ Blk w' g ((leB 32 x.val).map bV ++ r) 5 ∧ 32 ≤ cap ∧ cap ≤ maxLen ∧ Below w.heap.size w w' := febytes_any hf w
theorem fpowM {f : Nat → Nat} {x : F} (N T : Nat) (hT1 : T ≤ 256) (hT2 : 256 ≤ T) (hN : N < 2 ^ T) (hf : FF f x) (w : World) :
    Calls Try.prog 42 #[.agg #[.int .u64 (f 0 : Nat), .int .u64 (f 1 : Nat), .int .u64 (f 2 : Nat), .int .u64 (f 3 : Nat), .int .u64 (f 4 : Nat)], .agg #[.int .u64 (lw N 0 : Nat), .int .u64 (lw N 1 : Nat), .int .u64 (lw N 2 : Nat), .int .u64 (lw N 3 : Nat)]] w fun e w' => ∃ h, e = .returned (.agg #[.int .u64 (h 0 : Nat), .int .u64 (h 1 : Nat), .int .u64 (h 2 : Nat), .int .u64 (h 3 : Nat), .int .u64 (h 4 : Nat)]) ∧ FF h (fpow x N) ∧ Below w.heap.size w w' := power_any N T hT1 hT2 hN hf w
/-! ### one form -/
/-- 32 bytes, below p. -/
def feOk (l : List UInt8) : Bool := decide (l.length = 32) && decide (leN l < Pq)
theorem feF_ok {l : List UInt8} (h : feOk l = true) : (feF l).val = leN l := by
  simp only [feOk, Bool.and_eq_true, decide_eq_true_eq] at h
  have h2 := h.2
  unfold feF
  rw [fn_val, leN_first, List.take_of_length_le (by omega)]
  unfold Pq at *
  omega
theorem feOk_back (l : List UInt8) : decide (leB 32 (feF l).val = l) = feOk l := by
  by_cases h : feOk l = true
  · rw [h, feF_ok h]
    simp only [feOk, Bool.and_eq_true, decide_eq_true_eq] at h
    rw [← h.1, leB_leN]; simp
  · rw [Bool.not_eq_true] at h
    rw [h, decide_eq_false]
    intro e
    have h1 : l.length = 32 := by rw [← e, leB_len]
    have h2 : leN l < Pq := by
      rw [← e, leN_leB]
      exact Nat.lt_of_le_of_lt (Nat.mod_le _ _) (feF l).isLt
    simp [feOk, h1, h2] at h
theorem feOk_leB (x : F) : feOk (leB 32 x.val) = true := by
  have h : x.val < 2 ^ (8 * 32) := Nat.lt_trans x.isLt (by decide +kernel)
  simp [feOk, leB_len, leN_leB, Nat.mod_eq_of_lt h]
theorem feF_leB (x : F) : feF (leB 32 x.val) = x := by
  apply F.ext'
  rw [feF_ok (feOk_leB x), leN_leB, Nat.mod_eq_of_lt (Nat.lt_trans x.isLt (by decide +kernel))]
theorem FF.zero : FF (fun _ => 0) 0 := FE.zero
end Go.Proofs.Ytmoggjbnlimepaa
