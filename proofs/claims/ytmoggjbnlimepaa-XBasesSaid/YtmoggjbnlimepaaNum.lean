/- Plain numbers: words of a number, carries and borrows, the order L. No program in sight. -/
namespace Go.Proofs.Ytmoggjbnlimepaa

/-- Word i of a number. -/
def lw (n i : Nat) : Nat := n / 2 ^ (64 * i) % 18446744073709551616
theorem lw_lt (n i : Nat) : lw n i < 18446744073709551616 := by unfold lw; exact Nat.mod_lt _ (by omega)
/-- The carry into word i of a sum; the borrow into word i of a difference. -/
def cy (a b i : Nat) : Nat := (a % 2 ^ (64 * i) + b % 2 ^ (64 * i)) / 2 ^ (64 * i)
def bw (a b i : Nat) : Nat := if a % 2 ^ (64 * i) < b % 2 ^ (64 * i) then 1 else 0
theorem pow_succ64 (i : Nat) : 2 ^ (64 * (i + 1)) = 2 ^ (64 * i) * 18446744073709551616 := by
  rw [Nat.mul_add, Nat.pow_add]
theorem cy_zero (a b : Nat) : cy a b 0 = 0 := by simp [cy, Nat.mod_one]
theorem bw_zero (a b : Nat) : bw a b 0 = 0 := by simp [bw, Nat.mod_one]
theorem cy_le (a b i : Nat) : cy a b i ≤ 1 := by
  unfold cy
  have hp : 0 < 2 ^ (64 * i) := Nat.two_pow_pos _
  have h1 := Nat.mod_lt a hp
  have h2 := Nat.mod_lt b hp
  have h3 : (a % 2 ^ (64 * i) + b % 2 ^ (64 * i)) / 2 ^ (64 * i) < 2 := Nat.div_lt_of_lt_mul (by omega)
  omega
theorem bw_le (a b i : Nat) : bw a b i ≤ 1 := by unfold bw; split <;> omega
/-- A number by its part below P, and above it. -/
theorem split_mod (n P M : Nat) : n % (P * M) = (n / P % M) * P + n % P := by
  rw [Nat.mod_mul]; rw [Nat.mul_comm P]; omega
theorem add_word (a b i : Nat) : (lw a i + lw b i + cy a b i) % 18446744073709551616 = lw (a + b) i ∧ (lw a i + lw b i + cy a b i) / 18446744073709551616 = cy a b (i + 1) := by
  have hp : 0 < 2 ^ (64 * i) := Nat.two_pow_pos _
  unfold lw cy
  rw [pow_succ64]
  generalize 2 ^ (64 * i) = P at hp
  have ea := Nat.div_add_mod a P
  have eb := Nat.div_add_mod b P
  have e : (a + b) / P = a / P + b / P + (a % P + b % P) / P := by
    have : a + b = (a % P + b % P) + P * (a / P + b / P) := by rw [Nat.mul_add]; omega
    rw [this, Nat.add_mul_div_left _ _ hp]
    have h1 : (a % P + b % P + P * (a / P + b / P)) % P = (a % P + b % P) % P := by rw [Nat.add_mul_mod_self_left]
    omega
  constructor
  · rw [e]; omega
  · rw [split_mod a, split_mod b, ← Nat.div_div_eq_div_mul]
    have : a / P % 18446744073709551616 * P + a % P + (b / P % 18446744073709551616 * P + b % P) = (a % P + b % P) + P * (a / P % 18446744073709551616 + b / P % 18446744073709551616) := by
      rw [Nat.mul_add, Nat.mul_comm P, Nat.mul_comm P]; omega
    rw [this, Nat.add_mul_div_left _ _ hp]
    congr 1; omega
theorem sub_word (a b i : Nat) (hi : i < 4) (hb : b < 2 ^ 256) :
    (((lw a i : Int) - lw b i - bw a b i) % 18446744073709551616 = lw (a + 2 ^ 256 - b) i) ∧ ((if (lw a i : Int) < lw b i + bw a b i then (1 : Int) else 0) = bw a b (i + 1)) := by
  have hp : 0 < 2 ^ (64 * i) := Nat.two_pow_pos _
  obtain ⟨q, hq⟩ : ∃ q, (2 : Nat) ^ 256 = 2 ^ (64 * i) * (18446744073709551616 * q) := by
    refine ⟨2 ^ (256 - 64 * (i + 1)), ?_⟩
    rw [← Nat.mul_assoc, ← pow_succ64, ← Nat.pow_add]
    congr 1; omega
  unfold lw bw
  rw [pow_succ64, hq]
  rw [hq] at hb
  generalize 2 ^ (64 * i) = P at hp hb
  have ea := Nat.div_add_mod a P
  have eb := Nat.div_add_mod b P
  have ha1 := Nat.mod_lt a hp
  have hb1 := Nat.mod_lt b hp
  have hbq : b / P < 18446744073709551616 * q := Nat.div_lt_of_lt_mul hb
  rw [split_mod a, split_mod b]
  constructor
  · by_cases h : a % P < b % P
    · rw [if_pos h]
      have e : a + P * (18446744073709551616 * q) - b = (a % P + P - b % P) + P * (a / P + 18446744073709551616 * q - b / P - 1) := by
        rw [Nat.mul_sub, Nat.mul_sub, Nat.mul_add, Nat.mul_one]
        have : P * (b / P) + P ≤ P * (18446744073709551616 * q) := by
          rw [← Nat.mul_succ]; exact Nat.mul_le_mul_left _ hbq
        omega
      have hs : a % P + P - b % P < P := by omega
      rw [e, Nat.add_mul_div_left _ _ hp, Nat.div_eq_of_lt hs]
      clear e hs ea eb hb
      generalize a / P = x at *
      generalize b / P = y at *
      omega
    · rw [if_neg h]
      have e : a + P * (18446744073709551616 * q) - b = (a % P - b % P) + P * (a / P + 18446744073709551616 * q - b / P) := by
        rw [Nat.mul_sub, Nat.mul_add]
        have : P * (b / P) ≤ P * (18446744073709551616 * q) := Nat.mul_le_mul_left _ (Nat.le_of_lt hbq)
        omega
      have hs : a % P - b % P < P := by omega
      rw [e, Nat.add_mul_div_left _ _ hp, Nat.div_eq_of_lt hs]
      clear e hs ea eb hb
      generalize a / P = x at *
      generalize b / P = y at *
      omega
  · have key : (a / P % 18446744073709551616 * P + a % P < b / P % 18446744073709551616 * P + b % P) ↔ (a / P % 18446744073709551616 < b / P % 18446744073709551616 + (if a % P < b % P then 1 else 0)) := by
      generalize a / P % 18446744073709551616 = x
      generalize b / P % 18446744073709551616 = y
      have hxy : x < y ∨ x = y ∨ y < x := by omega
      rcases hxy with h | h | h
      · have : x * P + P ≤ y * P := by rw [← Nat.succ_mul]; exact Nat.mul_le_mul_right _ h
        split <;> omega
      · subst h; split <;> omega
      · have : y * P + P ≤ x * P := by rw [← Nat.succ_mul]; exact Nat.mul_le_mul_right _ h
        split <;> omega
    by_cases h : a % P < b % P
    · simp only [h, if_true] at key ⊢
      by_cases h2 : a / P % 18446744073709551616 < b / P % 18446744073709551616 + 1
      · rw [if_pos (key.2 h2)]
        generalize a / P = x at *
        generalize b / P = y at *
        rw [if_pos (by omega)]; rfl
      · rw [if_neg (fun hh => h2 (key.1 hh))]
        generalize a / P = x at *
        generalize b / P = y at *
        rw [if_neg (by omega)]; rfl
    · simp only [h, if_false] at key ⊢
      by_cases h2 : a / P % 18446744073709551616 < b / P % 18446744073709551616 + 0
      · rw [if_pos (key.2 h2)]
        generalize a / P = x at *
        generalize b / P = y at *
        rw [if_pos (by omega)]; rfl
      · rw [if_neg (fun hh => h2 (key.1 hh))]
        generalize a / P = x at *
        generalize b / P = y at *
        rw [if_neg (by omega)]; rfl
/-- Words tell a number below 2^256. -/
theorem lw_sum (n : Nat) (h : n < 2 ^ 256) : n = lw n 0 + 2 ^ 64 * lw n 1 + 2 ^ 128 * lw n 2 + 2 ^ 192 * lw n 3 := by
  simp only [lw, Nat.reduceMul, Nat.reducePow] at *
  omega
theorem lw_ext {m n : Nat} (hm : m < 2 ^ 256) (hn : n < 2 ^ 256) (h : ∀ i, i < 4 → lw m i = lw n i) : m = n := by
  rw [lw_sum m hm, lw_sum n hn, h 0 (by omega), h 1 (by omega), h 2 (by omega), h 3 (by omega)]
theorem lw_mod (n i : Nat) (hi : i < 4) : lw (n % 2 ^ 256) i = lw n i := by
  have h : i = 0 ∨ i = 1 ∨ i = 2 ∨ i = 3 := by omega
  unfold lw
  rcases h with rfl | rfl | rfl | rfl <;> simp only [Nat.reduceMul, Nat.reducePow] <;> omega
theorem lw_of (n x0 x1 x2 x3 t : Nat) (h : n = x0 + 18446744073709551616 * (x1 + 18446744073709551616 * (x2 + 18446744073709551616 * (x3 + 18446744073709551616 * t))))
   (h0 : x0 < 18446744073709551616) (h1 : x1 < 18446744073709551616) (h2 : x2 < 18446744073709551616) (h3 : x3 < 18446744073709551616) :
   lw n 0 = x0 ∧ lw n 1 = x1 ∧ lw n 2 = x2 ∧ lw n 3 = x3 := by
  have e1 : n / 18446744073709551616 = x1 + 18446744073709551616 * (x2 + 18446744073709551616 * (x3 + 18446744073709551616 * t)) := by omega
  have e2 : n / 18446744073709551616 / 18446744073709551616 = x2 + 18446744073709551616 * (x3 + 18446744073709551616 * t) := by rw [e1]; omega
  have e3 : n / 18446744073709551616 / 18446744073709551616 / 18446744073709551616 = (x3 + 18446744073709551616 * t) := by rw [e2]; omega
  refine ⟨?_, ?_, ?_, ?_⟩
  · simp [lw]; omega
  · simp only [lw, Nat.reduceMul, Nat.reducePow]; omega
  · simp only [lw, Nat.reduceMul, Nat.reducePow]
    have : n / 340282366920938463463374607431768211456 = n / 18446744073709551616 / 18446744073709551616 := by rw [Nat.div_div_eq_div_mul]
    rw [this, e2]; omega
  · simp only [lw, Nat.reduceMul, Nat.reducePow]
    have : n / 6277101735386680763835789423207666416102355444464034512896 = n / 18446744073709551616 / 18446744073709551616 / 18446744073709551616 := by rw [Nat.div_div_eq_div_mul, Nat.div_div_eq_div_mul]
    rw [this, e3]; omega

/-! ### the order -/
def Lq : Nat := 7237005577332262213973186563042994240857116359379907606001950938285454250989
theorem Lq_val : Lq = 2 ^ 252 + 27742317777372353535851937790883648493 := by unfold Lq; omega
def once (a : Nat) : Nat := if a < Lq then a else a - Lq
theorem once_mod {a : Nat} (h : a < 2 * Lq) : once a = a % Lq := by
  unfold once; unfold Lq at *; split <;> omega
theorem once_lt {a : Nat} (h : a < 2 * Lq) : once a < Lq := by rw [once_mod h]; exact Nat.mod_lt _ (by unfold Lq; omega)
/-- A digit of a number, out of its words. -/
theorem lw_bit (N j : Nat) : lw N (j / 64) / 2 ^ (j % 64) % 2 = N / 2 ^ j % 2 := by
  unfold lw
  have h1 : j % 64 < 64 := Nat.mod_lt _ (by omega)
  have h2 : (18446744073709551616 : Nat) = 2 ^ (j % 64) * (2 * 2 ^ (63 - j % 64)) := by
    rw [show (18446744073709551616 : Nat) = 2 ^ 64 from rfl, ← Nat.pow_succ', ← Nat.pow_add]; congr 1; omega
  rw [h2, Nat.mod_mul_right_div_self, Nat.mod_mul_right_mod, Nat.div_div_eq_div_mul, ← Nat.pow_add]
  congr 3; omega
theorem reduced_step (N j : Nat) : once (2 * (N / 2 ^ (j + 1) % Lq) + N / 2 ^ j % 2) = N / 2 ^ j % Lq := by
  have hL : 0 < Lq := by unfold Lq; omega
  have h1 := Nat.mod_lt (N / 2 ^ (j + 1)) hL
  rw [once_mod (by omega)]
  have e : N / 2 ^ j = 2 * (N / 2 ^ (j + 1)) + N / 2 ^ j % 2 := by
    rw [Nat.pow_succ, ← Nat.div_div_eq_div_mul]; omega
  conv => rhs; rw [e]
  rw [Nat.add_mod, Nat.mul_mod, Nat.mod_mod, ← Nat.mul_mod, ← Nat.add_mod]
theorem lw_low (r b : Nat) (hb : b < 2) : lw (r + r + b) 0 = lw (r + r) 0 + b ∧ ∀ i, lw (r + r + b) (i + 1) = lw (r + r) (i + 1) := by
  constructor
  · simp only [lw, Nat.mul_zero, Nat.pow_zero, Nat.div_one]; omega
  · intro i
    unfold lw
    congr 1
    rw [show 64 * (i + 1) = 1 + (64 * i + 63) from by omega, Nat.pow_add, ← Nat.div_div_eq_div_mul, ← Nat.div_div_eq_div_mul]
    congr 1; omega
theorem lw_even (r : Nat) : lw (r + r) 0 % 2 = 0 := by simp only [lw, Nat.mul_zero, Nat.pow_zero, Nat.div_one]; omega
/-! ### bytes as a number, the least first -/
def leN : List UInt8 → Nat
  | [] => 0
  | c :: l => c.toNat + 256 * leN l
theorem leN_append (l m : List UInt8) : leN (l ++ m) = leN l + 256 ^ l.length * leN m := by
  induction l with
  | nil => simp [leN]
  | cons c l ih => simp only [List.cons_append, leN, ih, List.length_cons, Nat.pow_succ, Nat.mul_add]; rw [Nat.mul_comm (256 ^ l.length) 256, Nat.mul_assoc]; omega
theorem leN_lt (l : List UInt8) : leN l < 256 ^ l.length := by
  induction l with
  | nil => simp [leN]
  | cons c l ih =>
    have := c.toNat_lt
    simp only [leN, List.length_cons, Nat.pow_succ]
    omega
theorem leN_take (l : List UInt8) (k : Nat) (hk : k < l.length) : leN (l.take (k + 1)) = leN (l.take k) + l[k].toNat * 256 ^ k := by
  rw [List.take_succ_eq_append_getElem hk, leN_append]
  simp [leN, List.length_take, Nat.min_eq_left (Nat.le_of_lt hk)]
  rw [Nat.mul_comm]
theorem leN_zeros (n : Nat) : leN (List.replicate n 0) = 0 := by
  induction n with
  | zero => rfl
  | succ n ih => simp [List.replicate_succ, leN, ih]
theorem leN_take_lt (l : List UInt8) (k : Nat) : leN (l.take k) < 256 ^ k :=
  Nat.lt_of_lt_of_le (leN_lt _) (Nat.pow_le_pow_right (by omega) (by simp; omega))
theorem p256 (k : Nat) : (256 : Nat) ^ k = 2 ^ (8 * k) := by rw [Nat.pow_mul]
/-- A byte put in behind k bytes: which word turns, and to what. -/
theorem or_byte (n k c : Nat) (hn : n < 256 ^ k) (hc : c < 256) : lw n (k / 8) ||| c * 2 ^ (8 * (k % 8)) = lw (n + c * 256 ^ k) (k / 8) := by
  rw [p256] at *
  have hk : 8 * k = 64 * (k / 8) + 8 * (k % 8) := by omega
  have hr : 8 * (k % 8) ≤ 56 := by omega
  unfold lw
  rw [hk, Nat.pow_add] at hn
  rw [hk, Nat.pow_add]
  clear hk
  generalize 64 * (k / 8) = Q at *
  generalize 8 * (k % 8) = R at *
  have hq : 0 < 2 ^ Q := Nat.two_pow_pos _
  have h1 : n / 2 ^ Q < 2 ^ R := Nat.div_lt_of_lt_mul hn
  have h2 : 2 ^ R ≤ 2 ^ 56 := Nat.pow_le_pow_right (by omega) hr
  have h3 : c * 2 ^ R ≤ 255 * 2 ^ R := Nat.mul_le_mul_right _ (by omega)
  have e : n + c * (2 ^ Q * 2 ^ R) = n + 2 ^ Q * (c * 2 ^ R) := by rw [← Nat.mul_assoc, Nat.mul_comm c, Nat.mul_assoc]
  rw [e, Nat.add_mul_div_left _ _ hq, Nat.mod_eq_of_lt (by omega), Nat.mod_eq_of_lt (by omega)]
  have h4 := Nat.shiftLeft_add_eq_or_of_lt h1 c
  rw [Nat.shiftLeft_eq] at h4
  rw [Nat.or_comm, ← h4]; omega
theorem or_other (n k c j : Nat) (hn : n < 256 ^ k) (hc : c < 256) (hj : j ≠ k / 8) : lw (n + c * 256 ^ k) j = lw n j := by
  rw [p256] at *
  unfold lw
  by_cases h : j < k / 8
  · have e : n + c * 2 ^ (8 * k) = n + 2 ^ (64 * j) * (18446744073709551616 * (c * 2 ^ (8 * k - 64 * j - 64))) := by
      rw [show 8 * k = 64 * j + (64 + (8 * k - 64 * j - 64)) from by omega, Nat.pow_add, Nat.pow_add, show (18446744073709551616 : Nat) = 2 ^ 64 from rfl]
      rw [show 64 * j + (64 + (8 * k - 64 * j - 64)) - 64 * j - 64 = 8 * k - 64 * j - 64 from by omega]
      generalize 2 ^ (8 * k - 64 * j - 64) = y
      generalize 2 ^ (64 * j) = x
      rw [show c * (x * (2 ^ 64 * y)) = x * (2 ^ 64 * (c * y)) from by grind]
    rw [e, Nat.add_mul_div_left _ _ (Nat.two_pow_pos _), Nat.add_mul_mod_self_left]
  · have hb : n + c * 2 ^ (8 * k) < 2 ^ (64 * j) := by
      have h1 : c * 2 ^ (8 * k) ≤ 255 * 2 ^ (8 * k) := Nat.mul_le_mul_right _ (by omega)
      have h2 : 2 ^ (8 * k + 8) ≤ 2 ^ (64 * j) := Nat.pow_le_pow_right (by omega) (by omega)
      rw [Nat.pow_add] at h2
      omega
    rw [Nat.div_eq_of_lt hb, Nat.div_eq_of_lt (Nat.lt_of_le_of_lt (Nat.le_add_right _ _) hb)]
/-- A number as so many bytes, the least first. -/
def leB (k n : Nat) : List UInt8 := (List.range k).map fun i => UInt8.ofNat (n / 2 ^ (8 * i))
theorem leB_len (k n : Nat) : (leB k n).length = k := by simp [leB]
theorem leB_get (k n i : Nat) (h : i < (leB k n).length) : (leB k n)[i] = UInt8.ofNat (n / 2 ^ (8 * i)) := by simp [leB]
theorem leB_append (j k n : Nat) : leB (j + k) n = leB j n ++ leB k (n / 2 ^ (8 * j)) := by
  apply List.ext_getElem
  · simp [leB_len]
  · intro i h1 h2
    rw [leB_get]
    by_cases h : i < j
    · rw [List.getElem_append_left (by simpa [leB_len] using h), leB_get]
    · rw [List.getElem_append_right (by simpa [leB_len] using h), leB_get, leB_len, Nat.div_div_eq_div_mul, ← Nat.pow_add]
      simp [leB_len] at h1; congr 3; omega
theorem ofNat_mod (n : Nat) : UInt8.ofNat (n % 256) = UInt8.ofNat n := by
  apply UInt8.toNat_inj.1; simp
theorem leB_mod (k n : Nat) : leB k (n % 2 ^ (8 * k)) = leB k n := by
  apply List.ext_getElem
  · simp [leB_len]
  · intro i h1 h2
    have hi : i < k := by simpa [leB_len] using h1
    rw [leB_get, leB_get, ← ofNat_mod, ← ofNat_mod (n / _)]
    congr 1
    rw [show 8 * k = 8 * i + (8 + (8 * k - 8 * i - 8)) from by omega, Nat.pow_add, Nat.mod_mul_right_div_self, Nat.pow_add, show (2 : Nat) ^ 8 = 256 from rfl, Nat.mod_mul_right_mod]
theorem leN_leB (k n : Nat) : leN (leB k n) = n % 2 ^ (8 * k) := by
  induction k generalizing n with
  | zero => simp [leB, leN, Nat.mod_one]
  | succ k ih =>
    rw [show k + 1 = 1 + k from by omega, leB_append, show leB 1 n = [UInt8.ofNat n] from by simp [leB], List.singleton_append, leN, ih]
    rw [show 8 * (1 + k) = 8 * 1 + 8 * k from by omega, Nat.pow_add, Nat.mod_mul]
    simp
theorem leB_leN (l : List UInt8) : leB l.length (leN l) = l := by
  induction l with
  | nil => rfl
  | cons c l ih =>
    rw [List.length_cons, show l.length + 1 = 1 + l.length from by omega, leB_append, show leB 1 (leN (c :: l)) = [UInt8.ofNat (leN (c :: l))] from by simp [leB]]
    have h1 : leN (c :: l) / 2 ^ (8 * 1) = leN l := by have := c.toNat_lt; simp only [leN]; omega
    have h2 : UInt8.ofNat (leN (c :: l)) = c := by
      apply UInt8.toNat_inj.1; have := c.toNat_lt; simp [leN]
    rw [h1, ih, h2]; rfl
theorem leB_inj {k m n : Nat} (hm : m < 2 ^ (8 * k)) (hn : n < 2 ^ (8 * k)) (h : leB k m = leB k n) : m = n := by
  have := congrArg leN h
  rwa [leN_leB, leN_leB, Nat.mod_eq_of_lt hm, Nat.mod_eq_of_lt hn] at this
/-! ### a product, word by word -/
theorem mac_step (A s Q z : Nat) (hQ : 0 < Q) :
    (A + s + Q * z) / Q % 18446744073709551616 = (z + (A % Q + s) / Q + A / Q % 18446744073709551616) % 18446744073709551616 ∧
    (A % (Q * 18446744073709551616) + s + Q * z) / (Q * 18446744073709551616) = (z + (A % Q + s) / Q + A / Q % 18446744073709551616) / 18446744073709551616 := by
  constructor
  · have e : A + s + Q * z = (A % Q + s) + Q * (A / Q + z) := by
      have := Nat.div_add_mod A Q; rw [Nat.mul_add]; omega
    rw [e, Nat.add_mul_div_left _ _ hQ]; omega
  · rw [← Nat.div_div_eq_div_mul, split_mod A]
    have e : A / Q % 18446744073709551616 * Q + A % Q + s + Q * z = (A % Q + s) + Q * (A / Q % 18446744073709551616 + z) := by
      rw [Nat.mul_add, Nat.mul_comm Q (_ % _)]; omega
    rw [e, Nat.add_mul_div_left _ _ hQ]
    congr 1; omega
/-- What stands there when i words of a were multiplied, and j words of b by the next; the carry then. -/
def prA (a b i : Nat) : Nat := (a % 2 ^ (64 * i)) * b
def prS (a b i j : Nat) : Nat := lw a i * 2 ^ (64 * i) * (b % 2 ^ (64 * j))
def prC (a b i j : Nat) : Nat := (prA a b i % 2 ^ (64 * (i + j)) + prS a b i j) / 2 ^ (64 * (i + j))
theorem prS_succ (a b i j : Nat) : prS a b i (j + 1) = prS a b i j + 2 ^ (64 * (i + j)) * (lw a i * lw b j) := by
  unfold prS
  rw [show b % 2 ^ (64 * (j + 1)) = lw b j * 2 ^ (64 * j) + b % 2 ^ (64 * j) from by rw [pow_succ64, split_mod]; rfl]
  rw [show 64 * (i + j) = 64 * i + 64 * j from by omega, Nat.pow_add]
  generalize 2 ^ (64 * i) = P
  generalize 2 ^ (64 * j) = R
  grind
theorem pr_word (a b i j : Nat) : lw (prA a b i + prS a b i (j + 1)) (i + j) = (lw a i * lw b j + prC a b i j + lw (prA a b i) (i + j)) % 18446744073709551616 ∧
    prC a b i (j + 1) = (lw a i * lw b j + prC a b i j + lw (prA a b i) (i + j)) / 18446744073709551616 := by
  have h := mac_step (prA a b i) (prS a b i j) (2 ^ (64 * (i + j))) (lw a i * lw b j) (Nat.two_pow_pos _)
  rw [prS_succ, ← Nat.add_assoc]
  refine ⟨h.1, ?_⟩
  refine Eq.trans ?_ h.2
  unfold prC
  rw [prS_succ, show 64 * (i + (j + 1)) = 64 * (i + j + 1) from by omega, pow_succ64, Nat.add_assoc]
theorem pr_low (a b i j q : Nat) (hq : q < i + j) : lw (prA a b i + prS a b i (j + 1)) q = lw (prA a b i + prS a b i j) q := by
  rw [prS_succ]
  generalize lw a i * lw b j = z
  unfold lw
  rw [show 64 * (i + j) = 64 * q + (64 + (64 * (i + j) - 64 * q - 64)) from by omega, Nat.pow_add, Nat.pow_add, show (2 : Nat) ^ 64 = 18446744073709551616 from rfl]
  generalize 2 ^ (64 * (i + j) - 64 * q - 64) = y
  generalize hx : 2 ^ (64 * q) = x
  have hp : 0 < x := by rw [← hx]; exact Nat.two_pow_pos _
  rw [show prA a b i + (prS a b i j + x * (18446744073709551616 * y) * z) = (prA a b i + prS a b i j) + x * (18446744073709551616 * (y * z)) from by grind, Nat.add_mul_div_left _ _ hp, Nat.add_mul_mod_self_left]
theorem prC_lt (a b i j : Nat) : prC a b i j < 18446744073709551616 := by
  cases j with
  | zero =>
    unfold prC prS
    rw [Nat.mul_zero, Nat.pow_zero, Nat.mod_one, Nat.mul_zero, Nat.add_zero, Nat.add_zero, Nat.div_eq_of_lt (Nat.mod_lt _ (Nat.two_pow_pos _))]
    omega
  | succ j =>
    rw [(pr_word a b i j).2]
    have h1 := lw_lt a i; have h2 := lw_lt b j; have h3 := lw_lt (prA a b i) (i + j)
    have h4 := prC_lt a b i j
    have h5 : lw a i * lw b j ≤ 18446744073709551615 * 18446744073709551615 := Nat.mul_le_mul (by omega) (by omega)
    omega
theorem prC_zero (a b i : Nat) : prC a b i 0 = 0 := by
  unfold prC prS
  rw [Nat.mul_zero, Nat.pow_zero, Nat.mod_one, Nat.mul_zero, Nat.add_zero, Nat.add_zero, Nat.div_eq_of_lt (Nat.mod_lt _ (Nat.two_pow_pos _))]
theorem prA_succ (a b i : Nat) (hb : b < 2 ^ 256) : prA a b i + prS a b i 4 = prA a b (i + 1) := by
  unfold prA prS
  rw [Nat.mod_eq_of_lt (show b < 2 ^ (64 * 4) from hb), pow_succ64, split_mod, Nat.add_mul]
  unfold lw; omega
theorem prA_lt (a b i : Nat) (hb : b < 2 ^ 256) : prA a b i < 2 ^ (64 * (i + 4)) := by
  unfold prA
  rw [show 64 * (i + 4) = 64 * i + 256 from by omega, Nat.pow_add]
  have h1 : a % 2 ^ (64 * i) < 2 ^ (64 * i) := Nat.mod_lt _ (Nat.two_pow_pos _)
  exact Nat.lt_of_le_of_lt (Nat.mul_le_mul_right _ (Nat.le_of_lt h1)) (Nat.mul_lt_mul_of_pos_left hb (Nat.two_pow_pos _))
theorem pr_top (a b i : Nat) (hb : b < 2 ^ 256) : prC a b i 4 = lw (prA a b (i + 1)) (i + 4) := by
  have h1 := prC_lt a b i 4
  unfold prC at *
  rw [Nat.mod_eq_of_lt (prA_lt a b i hb), prA_succ a b i hb] at *
  unfold lw
  rw [Nat.mod_eq_of_lt h1]
theorem lt_pow_mul {a b m n : Nat} (ha : a < 2 ^ m) (hb : b < 2 ^ n) : a * b < 2 ^ (m + n) := by
  rw [Nat.pow_add]; exact Nat.mul_lt_mul'' ha hb
theorem lw_high {n i q : Nat} (h : n < 2 ^ (64 * i)) (hq : i ≤ q) : lw n q = 0 := by
  unfold lw
  rw [Nat.div_eq_of_lt (Nat.lt_of_lt_of_le h (Nat.pow_le_pow_right (by omega) (by omega)))]
theorem leB_words (n k : Nat) : leB (8 * (k + 1)) n = leB (8 * k) n ++ leB 8 (lw n k) := by
  rw [Nat.mul_add, leB_append]
  congr 1
  rw [← leB_mod 8 (n / _)]
  congr 1
  unfold lw
  rw [← Nat.mul_assoc]
end Go.Proofs.Ytmoggjbnlimepaa
