/- Plain numbers: primes, Fermat's theorem, Pocklington's test. No program in sight. -/
namespace Go.Proofs.Ytmoggjbnlimepaa

structure Pr (p : Nat) : Prop where
  two : 2 ≤ p
  div : ∀ m, m ∣ p → m = 1 ∨ m = p

theorem Pr.cop {p a : Nat} (h : Pr p) (ha : ¬ p ∣ a) : Nat.Coprime p a := by
  rcases h.div (Nat.gcd p a) (Nat.gcd_dvd_left p a) with h1 | h1
  · exact h1
  · exact absurd (h1 ▸ Nat.gcd_dvd_right p a) ha
theorem Pr.mul {p a b : Nat} (h : Pr p) (hd : p ∣ a * b) : p ∣ a ∨ p ∣ b := by
  by_cases ha : p ∣ a
  · exact .inl ha
  · exact .inr ((h.cop ha).dvd_of_dvd_mul_left hd)
/-- Each number from 2 on has a prime in it. -/
theorem has_prime : ∀ n, 2 ≤ n → ∃ p, Pr p ∧ p ∣ n := by
  intro n
  induction n using Nat.strongRecOn with
  | _ n ih =>
    intro hn
    by_cases h : ∃ m, m ∣ n ∧ m ≠ 1 ∧ m ≠ n
    · obtain ⟨m, hd, h1, h2⟩ := h
      have hle := Nat.le_of_dvd (by omega) hd
      have h0 : m ≠ 0 := by rintro rfl; have := Nat.eq_zero_of_zero_dvd hd; omega
      obtain ⟨p, hp, hpm⟩ := ih m (by omega) (by omega)
      exact ⟨p, hp, Nat.dvd_trans hpm hd⟩
    · refine ⟨n, ⟨hn, fun m hm => ?_⟩, Nat.dvd_refl n⟩
      by_cases h1 : m = 1
      · exact .inl h1
      · by_cases h2 : m = n
        · exact .inr h2
        · exact absurd ⟨m, hm, h1, h2⟩ h

/-! ### binomials, and Fermat -/
def choose : Nat → Nat → Nat
  | _, 0 => 1
  | 0, _ + 1 => 0
  | n + 1, k + 1 => choose n k + choose n (k + 1)
theorem choose_high : ∀ n k, n < k → choose n k = 0
  | 0, k + 1, _ => rfl
  | n + 1, k + 1, h => by rw [choose, choose_high n k (by omega), choose_high n (k + 1) (by omega)]
theorem choose_self : ∀ n, choose n n = 1
  | 0 => rfl
  | n + 1 => by rw [choose, choose_self n, choose_high n (n + 1) (by omega)]
theorem choose_zero (n : Nat) : choose n 0 = 1 := by cases n <;> rfl
theorem choose_mul : ∀ n k, (k + 1) * choose (n + 1) (k + 1) = (n + 1) * choose n k
  | 0, 0 => rfl
  | 0, k + 1 => by simp [choose]
  | n + 1, 0 => by
    have h := choose_mul n 0
    rw [choose_zero] at h
    have e : choose (n + 1 + 1) (0 + 1) = choose (n + 1) 0 + choose (n + 1) (0 + 1) := rfl
    rw [e, choose_zero]
    omega
  | n + 1, k + 1 => by
    have h1 := choose_mul n k
    have h2 := choose_mul n (k + 1)
    have e1 : choose (n + 1 + 1) (k + 1 + 1) = choose (n + 1) (k + 1) + choose (n + 1) (k + 1 + 1) := rfl
    have e2 : choose (n + 1) (k + 1) = choose n k + choose n (k + 1) := rfl
    generalize hA : choose (n + 1) (k + 1) = A at *
    generalize choose (n + 1) (k + 1 + 1) = B at *
    generalize choose (n + 1 + 1) (k + 1 + 1) = C at *
    generalize choose n k = a at *
    generalize choose n (k + 1) = b at *
    subst e1 e2
    grind
/-- The sum of the first so many terms of (x + 1)^n. -/
def binSum (n x : Nat) : Nat → Nat
  | 0 => 0
  | k + 1 => binSum n x k + choose n k * x ^ k
theorem binSum_step (n x : Nat) : ∀ k, binSum (n + 1) x (k + 1) = binSum n x (k + 1) + x * binSum n x k
  | 0 => by simp [binSum, choose_zero]
  | k + 1 => by
    have h := binSum_step n x k
    rw [binSum, h]
    simp only [binSum, choose, Nat.pow_succ]
    grind
theorem binom (n x : Nat) : (x + 1) ^ n = binSum n x (n + 1) := by
  induction n with
  | zero => simp [binSum, choose]
  | succ n ih =>
    have e : binSum n x (n + 1 + 1) = binSum n x (n + 1) := by
      show binSum n x (n + 1) + choose n (n + 1) * x ^ (n + 1) = _
      rw [choose_high n (n + 1) (by omega)]; omega
    rw [binSum_step, Nat.pow_succ, ih, e, Nat.mul_add, Nat.mul_one, Nat.mul_comm x]; omega
theorem Pr.choose {p : Nat} (hp : Pr p) (k : Nat) (h0 : 0 < k) (h1 : k < p) : p ∣ choose p k := by
  obtain ⟨n, rfl⟩ : ∃ n, p = n + 1 := ⟨p - 1, by have := hp.two; omega⟩
  obtain ⟨j, rfl⟩ : ∃ j, k = j + 1 := ⟨k - 1, by omega⟩
  have h := choose_mul n j
  have hd : n + 1 ∣ (j + 1) * Go.Proofs.Ytmoggjbnlimepaa.choose (n + 1) (j + 1) := ⟨_, h⟩
  rcases hp.mul hd with h2 | h2
  · exact absurd (Nat.le_of_dvd (by omega) h2) (by omega)
  · exact h2
theorem binSum_mod {p x : Nat} (hp : Pr p) : ∀ k, 1 ≤ k → k ≤ p → binSum p x k % p = 1 % p := by
  intro k
  induction k with
  | zero => omega
  | succ k ih =>
    intro _ h2
    by_cases hk : k = 0
    · subst hk; simp [binSum, choose_zero]
    · rw [binSum, Nat.add_mod, ih (by omega) (by omega), Nat.mul_mod, Nat.mod_eq_zero_of_dvd (hp.choose k (by omega) (by omega)), Nat.zero_mul, Nat.zero_mod, Nat.add_zero, Nat.mod_mod]
theorem fermat' {p : Nat} (hp : Pr p) (x : Nat) : x ^ p % p = x % p := by
  induction x with
  | zero => rw [Nat.zero_pow (by have := hp.two; omega)]
  | succ x ih =>
    rw [binom, binSum, choose_self, Nat.one_mul, Nat.add_mod, binSum_mod hp p (by have := hp.two; omega) (Nat.le_refl _), ih, ← Nat.add_mod, Nat.add_comm]
theorem fermat {p : Nat} (hp : Pr p) (x : Nat) (hx : ¬ p ∣ x) : x ^ (p - 1) % p = 1 := by
  have h := fermat' hp x
  have h2 := hp.two
  have hd : p ∣ x * (x ^ (p - 1) - 1) := by
    rw [Nat.mul_sub, Nat.mul_one, show x * x ^ (p - 1) = x ^ p from by rw [Nat.mul_comm, ← Nat.pow_succ]; congr 1; omega]
    exact Nat.dvd_of_mod_eq_zero (Nat.sub_mod_eq_zero_of_mod_eq h)
  have hx0 : 0 < x := Nat.pos_of_ne_zero (by rintro rfl; exact hx (Nat.dvd_zero p))
  have hp1 : 0 < x ^ (p - 1) := Nat.pow_pos hx0
  rcases hp.mul hd with h3 | h3
  · exact absurd h3 hx
  · have h4 := Nat.mod_eq_zero_of_dvd h3
    have h5 : x ^ (p - 1) = (x ^ (p - 1) - 1) + 1 := by omega
    rw [h5, Nat.add_mod, h4, Nat.zero_add, Nat.mod_mod, Nat.mod_eq_of_lt (by omega)]

/-! ### powers mod n, reckoned -/
/-- a^e mod n, digit by digit; 'f' is fuel. -/
def powMod (n : Nat) : Nat → Nat → Nat → Nat
  | 0, _, _ => 1 % n
  | f + 1, a, e => if e = 0 then 1 % n else let r := powMod n f (a * a % n) (e / 2); if e % 2 = 1 then r * a % n else r
theorem pow_mod' (a n e : Nat) : (a % n) ^ e % n = a ^ e % n := by
  induction e with
  | zero => rfl
  | succ e ih => rw [Nat.pow_succ, Nat.pow_succ, Nat.mul_mod, ih, Nat.mod_mod, ← Nat.mul_mod]
theorem powMod_spec (n : Nat) : ∀ f a e, e < 2 ^ f → powMod n f a e = a ^ e % n
  | 0, a, e, h => by
    obtain rfl : e = 0 := by simp at h; exact h
    rfl
  | f + 1, a, e, h => by
    unfold powMod
    by_cases h0 : e = 0
    · subst h0; simp
    · rw [if_neg h0]
      have hf : e / 2 < 2 ^ f := by rw [Nat.pow_succ] at h; omega
      have hr := powMod_spec n f (a * a % n) (e / 2) hf
      have h2 : (a * a % n) ^ (e / 2) % n = a ^ (2 * (e / 2)) % n := by
        rw [pow_mod', ← Nat.pow_two, ← Nat.pow_mul]
      simp only [hr, h2]
      by_cases h1 : e % 2 = 1
      · rw [if_pos h1, Nat.mul_mod, Nat.mod_mod, ← Nat.mul_mod, ← Nat.pow_succ]
        congr 2; omega
      · rw [if_neg h1]
        congr 2; omega

/-! ### Pocklington -/
theorem pow_gcd (a r : Nat) : ∀ m n, a ^ m % r = 1 % r → a ^ n % r = 1 % r → a ^ (Nat.gcd m n) % r = 1 % r := by
  intro m n
  induction m, n using Nat.gcd.induction with
  | H0 n => intro _ h; rw [Nat.gcd_zero_left]; exact h
  | H1 m n hm ih =>
    intro h1 h2
    rw [Nat.gcd_rec]
    refine ih ?_ h1
    have e : a ^ n = (a ^ m) ^ (n / m) * a ^ (n % m) := by rw [← Nat.pow_mul, ← Nat.pow_add, Nat.div_add_mod]
    rw [e, Nat.mul_mod, ← pow_mod', h1, pow_mod', Nat.one_pow, ← Nat.mul_mod, Nat.one_mul] at h2
    exact h2
/-- Of a prime r of N: each q that the witness vouches for divides r - 1. -/
theorem pock_one {N a q r : Nat} (hN : 2 ≤ N) (hq : Pr q) (hqN : q ∣ N - 1) (h1 : a ^ (N - 1) % N = 1) (h2 : Nat.gcd (a ^ ((N - 1) / q) % N + (N - 1)) N = 1) (hr : Pr r) (hrN : r ∣ N) : q ∣ r - 1 := by
  have ha : ¬ r ∣ a := by
    intro hd
    have h3 : r ∣ a ^ (N - 1) := Nat.dvd_trans hd ⟨a ^ (N - 1 - 1), by rw [← Nat.pow_succ']; congr 1; omega⟩
    have h4 := Nat.div_add_mod (a ^ (N - 1)) N
    rw [h1] at h4
    have h5 : r ∣ N * (a ^ (N - 1) / N) := Nat.dvd_trans hrN (Nat.dvd_mul_right _ _)
    have h6 : r ∣ 1 := (Nat.dvd_add_right h5).1 (by rw [h4]; exact h3)
    have := Nat.le_of_dvd (by omega) h6
    have := hr.two; omega
  have hF := fermat hr a ha
  have hr1 : 1 % r = 1 := Nat.mod_eq_of_lt (by have := hr.two; omega)
  have hM : a ^ (N - 1) % r = 1 % r := by
    rw [← Nat.mod_mod_of_dvd (a ^ (N - 1)) hrN, h1]
  by_cases hd : q ∣ r - 1
  · exact hd
  · exfalso
    have hg : Nat.gcd (N - 1) (r - 1) ∣ (N - 1) / q := by
      obtain ⟨c, hc⟩ := hqN
      rw [hc, Nat.mul_div_cancel_left _ (by have := hq.two; omega)]
      have hcop : Nat.Coprime (Nat.gcd (q * c) (r - 1)) q := by
        refine Nat.Coprime.symm (hq.cop fun hx => hd (Nat.dvd_trans hx (Nat.gcd_dvd_right _ _)))
      exact hcop.dvd_of_dvd_mul_left (Nat.gcd_dvd_left _ _)
    have h3 := pow_gcd a r (N - 1) (r - 1) hM (by rw [hr1]; exact hF)
    obtain ⟨k, hk⟩ := hg
    have h4 : a ^ ((N - 1) / q) % r = 1 % r := by
      rw [hk, Nat.pow_mul, ← pow_mod', h3, pow_mod', Nat.one_pow]
    have h5 : r ∣ a ^ ((N - 1) / q) % N + (N - 1) := by
      apply Nat.dvd_of_mod_eq_zero
      rw [Nat.add_mod, Nat.mod_mod_of_dvd _ hrN, h4, hr1]
      obtain ⟨c, hc⟩ := hrN
      have hc0 : 0 < c := Nat.pos_of_ne_zero (by rintro rfl; omega)
      have : N - 1 = (r - 1) + r * (c - 1) := by rw [Nat.mul_sub, ← hc]; have := Nat.le_of_dvd (by omega) (show r ∣ N from ⟨c, hc⟩); have := hr.two; omega
      rw [this, Nat.add_mul_mod_self_left, Nat.mod_eq_of_lt (show r - 1 < r by have := hr.two; omega), show 1 + (r - 1) = r by have := hr.two; omega, Nat.mod_self]
    have h6 : r ∣ 1 := h2 ▸ Nat.dvd_gcd h5 hrN
    have := Nat.le_of_dvd (by omega) h6
    have := hr.two; omega
/-- A number whose primes all are above its root is one. -/
theorem prime_of {N : Nat} (hN : 2 ≤ N) (h : ∀ r, Pr r → r ∣ N → N < r * r) : Pr N := by
  refine ⟨hN, fun m hm => ?_⟩
  obtain ⟨c, hc⟩ := hm
  by_cases hm1 : m = 1
  · exact .inl hm1
  · by_cases hc1 : c = 1
    · subst hc1; exact .inr (by omega)
    · exfalso
      have hm0 : 2 ≤ m := by
        rcases Nat.lt_or_ge m 2 with h | h
        · have : m = 0 := by omega
          subst this; omega
        · exact h
      have hc0 : 2 ≤ c := by
        rcases Nat.lt_or_ge c 2 with h | h
        · have : c = 0 := by omega
          subst this; omega
        · exact h
      obtain ⟨r, hr, hrm⟩ := has_prime m hm0
      obtain ⟨s, hs, hsc⟩ := has_prime c hc0
      have h1 := h r hr (hc ▸ Nat.dvd_trans hrm (Nat.dvd_mul_right _ _))
      have h2 := h s hs (hc ▸ Nat.dvd_trans hsc (Nat.dvd_mul_left _ _))
      have h3 := Nat.le_of_dvd (by omega) hrm
      have h4 := Nat.le_of_dvd (by omega) hsc
      rw [hc] at h1 h2
      have h5 : m * c < m * m := Nat.lt_of_lt_of_le h1 (Nat.mul_le_mul h3 h3)
      have h6 : m * c < c * c := Nat.lt_of_lt_of_le h2 (Nat.mul_le_mul h4 h4)
      have h7 : c < m := Nat.lt_of_mul_lt_mul_left h5
      have h8 : m < c := Nat.lt_of_mul_lt_mul_right h6
      omega
/-- The test, of one great prime, or two. -/
theorem pock1 {N a q f : Nat} (hN : 2 ≤ N) (hq : Pr q) (hqN : (N - 1) % q = 0) (hf : N - 1 < 2 ^ f) (h1 : powMod N f a (N - 1) = 1) (h2 : Nat.gcd (powMod N f a ((N - 1) / q) + (N - 1)) N = 1) (hs : N < q * q) : Pr N := by
  rw [powMod_spec N f _ _ hf] at h1
  rw [powMod_spec N f _ _ (Nat.lt_of_le_of_lt (Nat.div_le_self _ _) hf)] at h2
  refine prime_of hN fun r hr hrN => ?_
  have h3 := pock_one hN hq (Nat.dvd_of_mod_eq_zero hqN) h1 h2 hr hrN
  have h4 := Nat.le_of_dvd (by have := hr.two; omega) h3
  exact Nat.lt_of_lt_of_le hs (Nat.mul_le_mul (by omega) (by omega))
theorem pock2 {N a q s f : Nat} (hN : 2 ≤ N) (hq : Pr q) (hs : Pr s) (hqs : Nat.gcd q s = 1) (hqN : (N - 1) % q = 0) (hsN : (N - 1) % s = 0) (hf : N - 1 < 2 ^ f) (h1 : powMod N f a (N - 1) = 1) (h2 : Nat.gcd (powMod N f a ((N - 1) / q) + (N - 1)) N = 1) (h3 : Nat.gcd (powMod N f a ((N - 1) / s) + (N - 1)) N = 1) (hb : N < q * s * (q * s)) : Pr N := by
  rw [powMod_spec N f _ _ hf] at h1
  rw [powMod_spec N f _ _ (Nat.lt_of_le_of_lt (Nat.div_le_self _ _) hf)] at h2 h3
  refine prime_of hN fun r hr hrN => ?_
  have h4 := pock_one hN hq (Nat.dvd_of_mod_eq_zero hqN) h1 h2 hr hrN
  have h5 := pock_one hN hs (Nat.dvd_of_mod_eq_zero hsN) h1 h3 hr hrN
  have h6 : q * s ∣ r - 1 := Nat.Coprime.mul_dvd_of_dvd_of_dvd hqs h4 h5
  have h7 := Nat.le_of_dvd (by have := hr.two; omega) h6
  exact Nat.lt_of_lt_of_le hb (Nat.mul_le_mul (by omega) (by omega))
/-- A small one, by trying. -/
def noDiv (n : Nat) : Nat → Nat → Bool
  | 0, _ => true
  | f + 1, d => if n % d = 0 then false else noDiv n f (d + 1)
theorem noDiv_spec (n : Nat) : ∀ f d, noDiv n f d = true → ∀ m, d ≤ m → m < d + f → n % m ≠ 0
  | 0, d, _, m, h1, h2 => by omega
  | f + 1, d, h, m, h1, h2 => by
    unfold noDiv at h
    by_cases h0 : n % d = 0
    · rw [if_pos h0] at h; cases h
    · rw [if_neg h0] at h
      by_cases hm : m = d
      · rw [hm]; exact h0
      · exact noDiv_spec n f (d + 1) h m (by omega) (by omega)
theorem small_prime {n f : Nat} (hn : 2 ≤ n) (h : noDiv n f 2 = true) (hf : n < (f + 2) * (f + 2)) : Pr n := by
  refine prime_of hn fun r hr hrn => ?_
  by_cases h1 : r < f + 2
  · exact absurd (Nat.mod_eq_zero_of_dvd hrn) (noDiv_spec n f 2 h r hr.two (by omega))
  · exact Nat.lt_of_lt_of_le hf (Nat.mul_le_mul (by omega) (by omega))
end Go.Proofs.Ytmoggjbnlimepaa
