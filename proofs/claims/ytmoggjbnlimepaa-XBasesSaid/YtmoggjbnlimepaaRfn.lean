/- Plain numbers: limbs of 16 digits, their carries, as the document's own field has them. No program in sight. -/
import Derived.Test.YtmoggjbnlimepaaFnum
namespace Go.Proofs.Ytmoggjbnlimepaa

/-- The number that n limbs mean. -/
def v16 (f : Nat → Nat) : Nat → Nat
  | 0 => 0
  | n + 1 => v16 f n + f n * 65536 ^ n
/-- The carries of a row, none coming in; the limbs then. -/
def cr16 (f : Nat → Nat) : Nat → Nat
  | 0 => 0
  | i + 1 => (f i + cr16 f i) / 65536
def pas16 (f : Nat → Nat) (i : Nat) : Nat := (f i + cr16 f i) % 65536
theorem pas16_v (f : Nat → Nat) : ∀ n, v16 (pas16 f) n + cr16 f n * 65536 ^ n = v16 f n
  | 0 => by simp [v16, cr16]
  | n + 1 => by
    have ih := pas16_v f n
    have e : pas16 f n + 65536 * cr16 f (n + 1) = f n + cr16 f n := by unfold pas16; simp only [cr16]; omega
    have e2 : cr16 f (n + 1) * 65536 ^ (n + 1) = 65536 * cr16 f (n + 1) * 65536 ^ n := by rw [Nat.pow_succ]; grind
    simp only [v16]
    rw [e2]
    have e3 : pas16 f n * 65536 ^ n + 65536 * cr16 f (n + 1) * 65536 ^ n = f n * 65536 ^ n + cr16 f n * 65536 ^ n := by rw [← Nat.add_mul, e, Nat.add_mul]
    omega
theorem pas16_lt (f : Nat → Nat) (i : Nat) : pas16 f i < 65536 := Nat.mod_lt _ (by omega)
theorem v16_lt (f : Nat → Nat) (h : ∀ i, f i < 65536) : ∀ n, v16 f n < 65536 ^ n
  | 0 => by simp [v16]
  | n + 1 => by
    have ih := v16_lt f h n
    have h1 := h n
    have h2 : f n * 65536 ^ n ≤ 65535 * 65536 ^ n := Nat.mul_le_mul_right _ (by omega)
    simp only [v16, Nat.pow_succ]
    omega
theorem v16_le (f : Nat → Nat) (B : Nat) (h : ∀ i, f i ≤ B) : ∀ n, v16 f n * 65535 ≤ B * (65536 ^ n - 1)
  | 0 => by simp [v16]
  | n + 1 => by
    have ih := v16_le f B h n
    have h1 := h n
    have hp : 0 < 65536 ^ n := Nat.pow_pos (by omega)
    have h2 : f n * 65536 ^ n ≤ B * 65536 ^ n := Nat.mul_le_mul_right _ h1
    simp only [v16, Nat.pow_succ]
    rw [Nat.add_mul]
    have h3 := Nat.mul_le_mul_right 65535 h2
    generalize 65536 ^ n = Y at *
    have e : Y * 65536 - 1 = (Y - 1) + Y * 65535 := by omega
    rw [e, Nat.mul_add, ← Nat.mul_assoc]
    exact Nat.add_le_add ih h3
theorem v16_congr {f g : Nat → Nat} : ∀ n, (∀ i, i < n → f i = g i) → v16 f n = v16 g n
  | 0, _ => rfl
  | n + 1, h => by simp only [v16]; rw [v16_congr n (fun i hi => h i (by omega)), h n (by omega)]
/-- One round of the document's carrying. -/
def rnd16 (f : Nat → Nat) (i : Nat) : Nat :=
  if i = 0 then pas16 f 0 + 38 * cr16 f 16 + 19 * (pas16 f 15 / 32768) else if i = 15 then pas16 f 15 % 32768 else pas16 f i
/-- The first and the last limb stand out. -/
theorem v16_ends (f : Nat → Nat) : ∀ n, v16 f (n + 2) = f 0 + v16 (fun i => if i = 0 then 0 else f i) (n + 1) + f (n + 1) * 65536 ^ (n + 1)
  | 0 => by simp [v16]
  | n + 1 => by
    rw [v16, v16_ends f n]
    conv => rhs; rw [v16]
    simp only [if_neg (show ¬ n + 1 = 0 by omega)]
    have e : f (n + 2) * 65536 ^ (n + 2) = f (n + 1 + 1) * 65536 ^ (n + 1 + 1) := rfl
    rw [e]
    omega
theorem p256' : (115792089237316195423570985008687907853269984665640564039457584007913129639936 : Nat) % Pq = 38 := by decide +kernel
theorem rnd16_mod (f : Nat → Nat) : v16 (rnd16 f) 16 % Pq = v16 f 16 % Pq := by
  have h1 := pas16_v f 16
  have a := v16_ends (rnd16 f) 14
  have b := v16_ends (pas16 f) 14
  have c : v16 (fun i => if i = 0 then 0 else rnd16 f i) (14 + 1) = v16 (fun i => if i = 0 then 0 else pas16 f i) (14 + 1) := by
    apply v16_congr
    intro i hi
    by_cases h0 : i = 0
    · simp [h0]
    · simp only [if_neg h0, rnd16, if_neg (show ¬ i = 15 by omega)]
  rw [c] at a
  have e0 : rnd16 f 0 = pas16 f 0 + 38 * cr16 f 16 + 19 * (pas16 f 15 / 32768) := by simp [rnd16]
  have e15 : rnd16 f (14 + 1) = pas16 f 15 % 32768 := by simp [rnd16]
  rw [e0, e15] at a
  generalize v16 (fun i => if i = 0 then 0 else pas16 f i) (14 + 1) = M at *
  generalize cr16 f 16 = C at *
  have hl := pas16_lt f 15
  simp only [show 14 + 2 = 16 from rfl, show 14 + 1 = 15 from rfl] at *
  generalize pas16 f 15 = L at *
  generalize pas16 f 0 = Z at *
  generalize v16 (rnd16 f) 16 = A at *
  generalize v16 (pas16 f) 16 = Bv at *
  generalize v16 f 16 = V at *
  have hL : L = 32768 * (L / 32768) + L % 32768 := by omega
  generalize L / 32768 = q at *
  generalize L % 32768 = r at *
  simp only [Nat.reducePow] at *
  have key : V + (38 * C + 19 * q) = A + (115792089237316195423570985008687907853269984665640564039457584007913129639936 * C + 57896044618658097711785492504343953926634992332820282019728792003956564819968 * q) := by omega
  have k1 : (38 * C + 19 * q) % Pq = (115792089237316195423570985008687907853269984665640564039457584007913129639936 * C + 57896044618658097711785492504343953926634992332820282019728792003956564819968 * q) % Pq := by
    unfold Pq; omega
  have k2 : (V + (38 * C + 19 * q)) % Pq = (A + (38 * C + 19 * q)) % Pq := by
    rw [key, Nat.add_mod A, ← k1, ← Nat.add_mod]
  have hP := Pq_pos
  unfold Pq at *
  omega
theorem cr16_lt (f : Nat → Nat) (B : Nat) (h : ∀ i, f i ≤ B) : ∀ i, cr16 f i ≤ B / 32768
  | 0 => by simp [cr16]
  | i + 1 => by
    have := cr16_lt f B h i
    have := h i
    simp only [cr16]
    omega
/-- Limbs below 2^16, but for the first; the last below 2^15. -/
structure Nr (f : Nat → Nat) (B : Nat) : Prop where
  z : f 0 ≤ B
  r : ∀ i, 0 < i → f i < 65536
  t : f 15 < 32768
theorem rnd16_nr (f : Nat → Nat) (C : Nat) (h : cr16 f 16 ≤ C) : Nr (rnd16 f) (65535 + 38 * C + 19) := by
  have h0 := pas16_lt f 0
  have h15 := pas16_lt f 15
  refine ⟨?_, fun i hi => ?_, ?_⟩
  · simp only [rnd16, if_true]; omega
  · have hl := pas16_lt f i
    simp only [rnd16, if_neg (show ¬ i = 0 by omega)]
    by_cases e : i = 15
    · rw [if_pos e]; omega
    · rw [if_neg e]; exact hl
  · simp [rnd16]; omega
theorem Nr.cr {f : Nat → Nat} {B : Nat} (h : Nr f B) (hB : B < 4294967296 * 32768) : cr16 f 16 ≤ 1 := by
  have h1 : cr16 f 1 ≤ 2147483648 := by have := h.z; simp only [cr16]; omega
  have h2 : cr16 f 2 ≤ 32768 := by have := h.r 1 (by omega); rw [cr16]; omega
  have h3 : cr16 f 3 ≤ 1 := by have := h.r 2 (by omega); rw [cr16]; omega
  have key : ∀ i, cr16 f (i + 3) ≤ 1 := by
    intro i
    induction i with
    | zero => exact h3
    | succ i ih => have := h.r (i + 3) (by omega); rw [cr16]; omega
  exact key 13
theorem v16_split (f : Nat → Nat) (n : Nat) : v16 f (n + 1) = f 0 + v16 (fun i => if i = 0 then 0 else f i) (n + 1) := by
  cases n with
  | zero => simp [v16]
  | succ n => have := v16_ends f n; rw [this]; conv => rhs; rw [v16]
              simp only [if_neg (show ¬ n + 1 = 0 by omega)]; omega
/-- Limbs in their one form, of a number below 2^255. -/
structure Cn (f : Nat → Nat) : Prop where
  r : ∀ i, f i < 65536
  t : f 15 < 32768
theorem Cn.lt {f : Nat → Nat} (h : Cn f) : v16 f 16 < 57896044618658097711785492504343953926634992332820282019728792003956564819968 := by
  have h1 := v16_lt f h.r 15
  have h2 := h.t
  have h3 : f 15 * 65536 ^ 15 ≤ 32767 * 65536 ^ 15 := Nat.mul_le_mul_right _ (by omega)
  have e : v16 f 16 = v16 f 15 + f 15 * 65536 ^ 15 := rfl
  rw [e, show (57896044618658097711785492504343953926634992332820282019728792003956564819968 : Nat) = 32768 * 65536 ^ 15 from by decide +kernel]
  generalize 65536 ^ 15 = X at *
  omega
/-- Carried thrice, the limbs stand in their one form. -/
theorem rnd_third {f : Nat → Nat} (h : Nr f 65592) : Cn (rnd16 f) := by
  have hc : cr16 f 16 ≤ 1 := h.cr (by omega)
  have hv : v16 f 16 < 57896044618658097711785492504343953926634992332820282019728792003956564819968 + 57 := by
    by_cases hz : f 0 < 65536
    · have hcn : Cn f := ⟨fun i => by by_cases h0 : i = 0
                                      · subst h0; exact hz
                                      · exact h.r i (by omega), h.t⟩
      have := hcn.lt
      omega
    · have e := v16_split f 15
      have hcn : Cn (fun i => if i = 0 then 65535 else f i) := ⟨fun i => by by_cases h0 : i = 0
                                                                            · simp [h0]
                                                                            · simp only [if_neg h0]; exact h.r i (by omega), by simp; exact h.t⟩
      have h1 := hcn.lt
      have e1 := v16_split (fun i => if i = 0 then 65535 else f i) 15
      have e2 : v16 (fun i => if i = 0 then 0 else (fun i => if i = 0 then 65535 else f i) i) (15 + 1) = v16 (fun i => if i = 0 then 0 else f i) (15 + 1) := by
        apply v16_congr; intro i _; by_cases h0 : i = 0 <;> simp [h0]
      rw [e2] at e1
      simp only [if_true] at e1
      have hz2 := h.z
      simp only [show 15 + 1 = 16 from rfl] at *
      omega
  have hp := pas16_v f 16
  have hpl := v16_lt (pas16 f) (pas16_lt f) 15
  have e15 : v16 (pas16 f) 16 = v16 (pas16 f) 15 + pas16 f 15 * 65536 ^ 15 := rfl
  have h15 := pas16_lt f 15
  have hsp := v16_ends (pas16 f) 14
  have h0 := pas16_lt f 0
  simp only [show 14 + 1 = 15 from rfl, show 14 + 2 = 16 from rfl] at hsp
  have hc0 : cr16 f 16 = 0 := by
    simp only [Nat.reducePow] at *
    omega
  have key : pas16 f 0 + 38 * cr16 f 16 + 19 * (pas16 f 15 / 32768) < 65536 := by
    rw [hc0]
    by_cases hq : pas16 f 15 < 32768
    · omega
    · have hz : pas16 f 0 < 57 := by
        simp only [Nat.reducePow] at *
        omega
      omega
  refine ⟨fun i => ?_, ?_⟩
  · by_cases e0 : i = 0
    · subst e0; simp only [rnd16, if_true]; exact key
    · simp only [rnd16, if_neg e0]
      by_cases e : i = 15
      · rw [if_pos e]; omega
      · rw [if_neg e]; exact pas16_lt f i
  · simp [rnd16]; omega
/-- What carrying thrice makes. -/
def fin16 (f : Nat → Nat) : Nat → Nat := rnd16 (rnd16 (rnd16 f))
theorem fin16_ok (f : Nat → Nat) (h : ∀ i, f i ≤ 17592186044416) : Cn (fin16 f) ∧ v16 (fin16 f) 16 % Pq = v16 f 16 % Pq := by
  have h1 := rnd16_nr f _ (cr16_lt f _ h 16)
  have h2 := rnd16_nr (rnd16 f) 1 (h1.cr (by omega))
  exact ⟨rnd_third h2, by unfold fin16; rw [rnd16_mod, rnd16_mod, rnd16_mod]⟩
/-- Digit i of 16 binary digits. -/
def d16 (n i : Nat) : Nat := n / 65536 ^ i % 65536
theorem d16_lt (n i : Nat) : d16 n i < 65536 := Nat.mod_lt _ (by omega)
theorem d16_of (f : Nat → Nat) (h : ∀ i, f i < 65536) : ∀ n i, i < n → d16 (v16 f n) i = f i
  | 0, i, hi => by omega
  | n + 1, i, hi => by
    have hl := v16_lt f h n
    have hp : 0 < 65536 ^ i := Nat.pow_pos (by omega)
    by_cases e : i = n
    · subst e
      unfold d16
      rw [v16, Nat.add_mul_div_right _ _ hp, Nat.div_eq_of_lt hl, Nat.zero_add, Nat.mod_eq_of_lt (h i)]
    · have ih := d16_of f h n i (by omega)
      rw [← ih]
      unfold d16
      rw [v16]
      obtain ⟨j, hj⟩ : ∃ j, n = i + 1 + j := ⟨n - (i + 1), by omega⟩
      have e2 : f n * 65536 ^ n = (f n * 65536 ^ j * 65536) * 65536 ^ i := by
        rw [hj, Nat.pow_add, Nat.pow_add, Nat.pow_one]; grind
      rw [e2, Nat.add_mul_div_right _ _ hp, Nat.add_mul_mod_self_right]
theorem d16_val (x : Nat) : ∀ n, v16 (d16 x) n = x % 65536 ^ n
  | 0 => by simp [v16, Nat.mod_one]
  | n + 1 => by
    rw [v16, d16_val x n, Nat.pow_succ, Nat.mod_mul]
    unfold d16
    rw [Nat.mul_comm (65536 ^ n)]
/-- Which of two is less is told by the first digit, from the top, that differs. -/
theorem less16 (x y i : Nat) (h : x / 65536 ^ (i + 1) = y / 65536 ^ (i + 1)) (hne : d16 x i ≠ d16 y i) : decide (x < y) = decide (d16 x i < d16 y i) := by
  have hp : 0 < 65536 ^ i := Nat.pow_pos (by omega)
  unfold d16 at *
  rw [Nat.pow_succ, ← Nat.div_div_eq_div_mul, ← Nat.div_div_eq_div_mul] at h
  have ex := Nat.div_add_mod x (65536 ^ i)
  have ey := Nat.div_add_mod y (65536 ^ i)
  have hx := Nat.mod_lt x hp
  have hy := Nat.mod_lt y hp
  generalize x / 65536 ^ i = a at *
  generalize y / 65536 ^ i = b at *
  generalize x % 65536 ^ i = r at *
  generalize y % 65536 ^ i = s at *
  generalize 65536 ^ i = X at *
  have key : x < y ↔ a < b := by
    constructor
    · intro hlt
      by_cases hab : a < b
      · exact hab
      · exfalso
        have : b + 1 ≤ a ∨ a = b := by omega
        rcases this with h1 | h1
        · have := Nat.mul_le_mul_left X h1
          rw [Nat.mul_add, Nat.mul_one] at this
          omega
        · subst h1; exact hne rfl
    · intro hab
      have := Nat.mul_le_mul_left X (show a + 1 ≤ b from hab)
      rw [Nat.mul_add, Nat.mul_one] at this
      omega
  by_cases hab : a < b
  · rw [decide_eq_true (key.2 hab), decide_eq_true]; omega
  · rw [decide_eq_false (fun hh => hab (key.1 hh)), decide_eq_false]; omega
theorem same16 (x y i : Nat) (h : x / 65536 ^ (i + 1) = y / 65536 ^ (i + 1)) (he : d16 x i = d16 y i) : x / 65536 ^ i = y / 65536 ^ i := by
  unfold d16 at he
  rw [Nat.pow_succ, ← Nat.div_div_eq_div_mul, ← Nat.div_div_eq_div_mul] at h
  omega
end Go.Proofs.Ytmoggjbnlimepaa
