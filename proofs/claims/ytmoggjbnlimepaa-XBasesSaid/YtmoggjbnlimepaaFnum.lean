/- Plain numbers: limbs of 51 digits, their carries; numbers mod p = 2^255 - 19. No program in sight. -/
namespace Go.Proofs.Ytmoggjbnlimepaa

def Pq : Nat := 57896044618658097711785492504343953926634992332820282019728792003956564819949
def expInv : Nat := 57896044618658097711785492504343953926634992332820282019728792003956564819947
theorem Pq_pos : 0 < Pq := by unfold Pq; omega
theorem p255 : (57896044618658097711785492504343953926634992332820282019728792003956564819968 : Nat) % Pq = 19 % Pq := by decide +kernel
/-- The carries of a row of limbs, c0 coming in; the limbs then. -/
def cr (f : Nat → Nat) (c0 : Nat) : Nat → Nat
  | 0 => c0
  | i + 1 => (f i + cr f c0 i) / 2251799813685248
def pas (f : Nat → Nat) (c0 : Nat) (i : Nat) : Nat := (f i + cr f c0 i) % 2251799813685248
/-- The number that five limbs mean. -/
def val (f : Nat → Nat) : Nat := f 0 + 2251799813685248 * (f 1 + 2251799813685248 * (f 2 + 2251799813685248 * (f 3 + 2251799813685248 * f 4)))
theorem pas_val (f : Nat → Nat) (c0 : Nat) : val (pas f c0) + 57896044618658097711785492504343953926634992332820282019728792003956564819968 * cr f c0 5 = val f + c0 := by
  unfold val pas
  simp only [cr]
  omega
/-- What carrying twice leaves. -/
def cF (f : Nat → Nat) : Nat → Nat :=
  let g := pas (pas f 0) (cr f 0 5 * 19)
  let c := cr (pas f 0) (cr f 0 5 * 19) 5 * 19
  fun i => if i = 0 then g 0 + c else g i
structure Lim (f : Nat → Nat) : Prop where
  l0 : f 0 < 2251799813685248 + 20
  l1 : f 1 < 2251799813685248
  l2 : f 2 < 2251799813685248
  l3 : f 3 < 2251799813685248
  l4 : f 4 < 2251799813685248
theorem add_mul_mod19 (a c : Nat) : (a + 57896044618658097711785492504343953926634992332820282019728792003956564819968 * c) % Pq = (a + c * 19) % Pq := by
  rw [Nat.add_mod, Nat.mul_mod, p255, ← Nat.mul_mod, ← Nat.add_mod, Nat.mul_comm 19]
theorem cF_val (f : Nat → Nat) : val (cF f) % Pq = val f % Pq := by
  have h1 := pas_val f 0
  have h2 := pas_val (pas f 0) (cr f 0 5 * 19)
  have e : val (cF f) = val (pas (pas f 0) (cr f 0 5 * 19)) + cr (pas f 0) (cr f 0 5 * 19) 5 * 19 := by
    simp only [val, cF, if_true, if_neg (show ¬ (1 = 0) by omega), if_neg (show ¬ (2 = 0) by omega), if_neg (show ¬ (3 = 0) by omega), if_neg (show ¬ (4 = 0) by omega)]
    omega
  rw [e, ← add_mul_mod19, h2, ← add_mul_mod19, h1, Nat.add_zero]
theorem cr_lt (f : Nat → Nat) (c0 : Nat) (h : ∀ i, i < 5 → f i ≤ 9223372036854775808) (hc : c0 ≤ 9223372036854775807) : ∀ i, i ≤ 5 → cr f c0 i ≤ 9223372036854775807
  | 0, _ => hc
  | i + 1, hi => by
    have h1 := cr_lt f c0 h hc i (by omega)
    have h2 := h i (by omega)
    unfold cr
    omega
theorem cr5 (f : Nat → Nat) (h : ∀ i, i < 5 → f i ≤ 9223372036854775808) : cr f 0 5 ≤ 4097 := by
  have h1 := cr_lt f 0 h (by omega) 4 (by omega)
  have h2 := h 4 (by omega)
  have h3 := cr_lt f 0 h (by omega) 3 (by omega)
  have h4 := h 3 (by omega)
  have e : cr f 0 5 = (f 4 + cr f 0 4) / 2251799813685248 := rfl
  have e2 : cr f 0 4 = (f 3 + cr f 0 3) / 2251799813685248 := rfl
  omega
theorem pas_lt (f : Nat → Nat) (c0 i : Nat) : pas f c0 i < 2251799813685248 := Nat.mod_lt _ (by omega)
theorem cr_one (f : Nat → Nat) (c0 : Nat) (h : ∀ i, f i < 2251799813685248) (hc : c0 ≤ 2251799813685248) : ∀ i, 1 ≤ i → cr f c0 i ≤ 1
  | 0, h0 => by omega
  | 1, _ => by have := h 0; unfold cr; simp only [cr]; omega
  | i + 2, _ => by
    have h1 := cr_one f c0 h hc (i + 1) (by omega)
    have h2 := h (i + 1)
    rw [cr]; omega
theorem cF_lim (f : Nat → Nat) (h : ∀ i, i < 5 → f i ≤ 9223372036854775808) : Lim (cF f) := by
  have h5 := cr5 f h
  have h1 := cr_one (pas f 0) (cr f 0 5 * 19) (pas_lt f 0) (by omega) 5 (by omega)
  have hp := pas_lt (pas f 0) (cr f 0 5 * 19)
  refine ⟨?_, ?_, ?_, ?_, ?_⟩
  · show pas (pas f 0) (cr f 0 5 * 19) 0 + cr (pas f 0) (cr f 0 5 * 19) 5 * 19 < _
    have := hp 0; omega
  · exact hp 1
  · exact hp 2
  · exact hp 3
  · exact hp 4
end Go.Proofs.Ytmoggjbnlimepaa
