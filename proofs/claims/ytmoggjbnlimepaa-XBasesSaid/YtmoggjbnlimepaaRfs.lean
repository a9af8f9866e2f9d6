/- The document's own field: reading strictly; the bytes of its numbers. -/
import Derived.Test.YtmoggjbnlimepaaRrp
import Derived.Test.YtmoggjbnlimepaaRegs
import Derived.Test.YtmoggjbnlimepaaFrs
namespace Go.Proofs.Ytmoggjbnlimepaa
open Go Go.RowKit

theorem kOf' {a : Option Addr} {n cap : Nat} {l : List UInt8} {x : F} {w : World} (hx : feF l = x) (h : RdB w a n cap l) :
    Calls Try.prog 30 #[.slice a n cap] w fun e w' => ∃ r, e = .returned r ∧ IsFs rR r [x] ∧ Below w.heap.size w w' := by
  subst hx
  exact (rofM w h).mono fun _ _ ⟨he, hb⟩ => ⟨_, he, isR _, hb⟩
theorem kBytes {v : Value} {x : F} (h : IsFs rR v [x]) (w : World) :
    Calls Try.prog 36 #[v] w fun e w' => ∃ g n cap r, e = .returned (.slice (some ⟨g, 0, none⟩) n cap) ∧ w.heap.size ≤ g ∧ Blk w' g ((leB 32 x.val).map bV ++ r) 5 ∧ (leB 32 x.val).length = n ∧ n ≤ cap ∧ cap ≤ maxLen ∧ Below w.heap.size w w' := by
  rw [of_isR h]
  exact (rbytes_any x.val w).mono fun _ _ ⟨g, cap, r, he, hg, hB, h1, h2, hb⟩ => ⟨g, 32, cap, r, he, hg, hB, leB_len _ _, h1, h2, hb⟩
theorem feOk_len {l : List UInt8} (h : l.length ≠ 32) : feOk l = false := by simp [feOk, h]
theorem feOk_high {l : List UInt8} (h : l.length = 32) (h2 : 127 < (l[31]'(by omega)).toNat) : feOk l = false := by
  have h3 := leN_take l 31 (by omega)
  rw [List.take_of_length_le (by omega)] at h3
  have : Pq ≤ leN l := by
    rw [h3]
    have : Pq ≤ 128 * 256 ^ 31 := by decide +kernel
    refine Nat.le_trans this (Nat.le_trans (Nat.mul_le_mul_right _ ?_) (Nat.le_add_left _ _))
    omega
  simp [feOk]; omega
end Go.Proofs.Ytmoggjbnlimepaa
