/- The numbers mod p as a field; powers, roots. No program in sight. -/
import Derived.Test.YtmoggjbnlimepaaPrimes
import Derived.Test.YtmoggjbnlimepaaFnum
namespace Go.Proofs.Ytmoggjbnlimepaa

theorem prP : Pr Pq := pr_57896044618658097711785492504343953926634992332820282019728792003956564819949
instance : NeZero Pq := ⟨by unfold Pq; omega⟩
/-- The numbers mod p. -/
abbrev F := Fin Pq
/-- A number mod p. -/
def fn (n : Nat) : F := ⟨n % Pq, Nat.mod_lt _ Pq_pos⟩
def fpow (x : F) (n : Nat) : F := ⟨x.val ^ n % Pq, Nat.mod_lt _ Pq_pos⟩
def finv (x : F) : F := fpow x expInv
theorem fn_val (n : Nat) : (fn n).val = n % Pq := rfl
theorem fpow_val (x : F) (n : Nat) : (fpow x n).val = x.val ^ n % Pq := rfl
theorem F.ext' {x y : F} (h : x.val = y.val) : x = y := Fin.ext h
theorem F.mul_val (x y : F) : (x * y).val = x.val * y.val % Pq := rfl
theorem F.add_val (x y : F) : (x + y).val = (x.val + y.val) % Pq := rfl
theorem fpow_add (x : F) (m n : Nat) : fpow x (m + n) = fpow x m * fpow x n := by
  apply F.ext'
  rw [F.mul_val, fpow_val, fpow_val, fpow_val, Nat.pow_add, Nat.mul_mod]
theorem fpow_one (x : F) : fpow x 1 = x := by
  apply F.ext'; rw [fpow_val, Nat.pow_one, Nat.mod_eq_of_lt x.isLt]
theorem fpow_zero (x : F) : fpow x 0 = 1 := by
  apply F.ext'; rw [fpow_val, Nat.pow_zero]; rfl
theorem fpow_mul (x : F) (m n : Nat) : fpow (fpow x m) n = fpow x (m * n) := by
  apply F.ext'; rw [fpow_val, fpow_val, fpow_val, pow_mod', ← Nat.pow_mul]
theorem fpow_mul_base (x y : F) (n : Nat) : fpow (x * y) n = fpow x n * fpow y n := by
  apply F.ext'; rw [fpow_val, F.mul_val, F.mul_val, fpow_val, fpow_val, pow_mod', Nat.mul_pow, Nat.mul_mod]
theorem fpow_nought (n : Nat) (h : 0 < n) : fpow 0 n = 0 := by
  apply F.ext'; rw [fpow_val, show (0 : F).val = 0 from rfl, Nat.zero_pow h]; rfl
theorem F.val_ne {x : F} (h : x ≠ 0) : ¬ Pq ∣ x.val := by
  intro hd
  apply h
  apply F.ext'
  show x.val = 0
  rw [← Nat.mod_eq_of_lt x.isLt]; exact Nat.mod_eq_zero_of_dvd hd
theorem fermatF {x : F} (h : x ≠ 0) : fpow x (Pq - 1) = 1 := by
  apply F.ext'; rw [fpow_val, fermat prP _ (F.val_ne h)]; rfl
theorem finv_mul {x : F} (h : x ≠ 0) : x * finv x = 1 := by
  have h1 := fermatF h
  rw [show Pq - 1 = 1 + expInv from by unfold Pq expInv; omega, fpow_add, fpow_one] at h1
  exact h1
instance : Inv F := ⟨finv⟩
instance : Div F := ⟨fun a b => a * finv b⟩
theorem finv_zero : finv 0 = 0 := fpow_nought _ (by unfold expInv; omega)
theorem F.mul_comm' (x y : F) : x * y = y * x := by grind
theorem finv_finv (x : F) : finv (finv x) = x := by
  by_cases h : x = 0
  · subst h; rw [finv_zero, finv_zero]
  · have h1 := finv_mul h
    have h2 : finv x ≠ 0 := by
      intro e
      have h3 := congrArg Fin.val h1
      rw [e, F.mul_val, show (0 : F).val = 0 from rfl, Nat.mul_zero] at h3
      exact absurd h3 (by decide)
    have h4 := finv_mul h2
    calc finv (finv x) = 1 * finv (finv x) := by grind
      _ = (x * finv x) * finv (finv x) := by rw [h1]
      _ = x * (finv x * finv (finv x)) := by grind
      _ = x := by rw [h4]; grind
theorem finv_one : finv 1 = 1 := by
  have h := finv_mul (x := 1) (by intro h; have := congrArg Fin.val h; exact absurd this (by decide))
  grind
instance fieldPow : HPow F Int F := ⟨fun x n => match n with | .ofNat n => fpow x n | .negSucc n => finv (fpow x (n + 1))⟩
theorem one_val : (1 : F).val = 1 := rfl
instance fieldF : Lean.Grind.Field F where
  zpow := fieldPow
  div_eq_mul_inv := fun _ _ => rfl
  zero_ne_one := by intro h; have := congrArg Fin.val h; exact absurd this (by decide)
  inv_zero := finv_zero
  mul_inv_cancel := finv_mul
  zpow_zero := fun a => fpow_zero a
  zpow_succ := fun a n => by
    show fpow a (n + 1) = fpow a n * a
    rw [fpow_add, fpow_one]
  zpow_neg := fun a n => by
    cases n with
    | ofNat n =>
      cases n with
      | zero =>
        show fpow a 0 = finv (fpow a 0)
        rw [fpow_zero, finv_one]
      | succ n => rfl
    | negSucc n =>
      show fpow a (n + 1) = finv (finv (fpow a (n + 1)))
      rw [finv_finv]
theorem inv_eq (x : F) : x⁻¹ = finv x := rfl
theorem finv_prod (x y : F) : finv (x * y) = finv x * finv y := by rw [← inv_eq, ← inv_eq, ← inv_eq]; grind
theorem finv_neg (x : F) : finv (-x) = -finv x := by rw [← inv_eq, ← inv_eq]; grind
theorem F.dom {x y : F} (h : x * y = 0) : x = 0 ∨ y = 0 := by grind
/-! ### square roots -/
def sqm1 : F := fn 19681161376707505956807079304988542015446066515923890162744021073123829784752
theorem sqm1_sq : sqm1 * sqm1 = -1 := by decide +kernel
def exp8 : Nat := 7237005577332262213973186563042994240829374041602535252466099000494570602494
def exp2 : Nat := 28948022309329048855892746252171976963317496166410141009864396001978282409974
theorem exp_two : exp2 + exp2 = Pq - 1 := by decide +kernel
theorem exp_eight : (2 * exp8) + (2 * exp8) = 2 + exp2 := by decide +kernel
theorem half_one {y : F} (h : y ≠ 0) : fpow y exp2 = 1 ∨ fpow y exp2 = -1 := by
  have h1 := fermatF h
  rw [← exp_two, fpow_add] at h1
  have h2 : (fpow y exp2 - 1) * (fpow y exp2 + 1) = 0 := by grind
  rcases F.dom h2 with h | h
  · left; grind
  · right; grind
/-- The document's candidate; what it tells; the even root. -/
def cand (x : F) : F := if fpow x exp8 * fpow x exp8 = x then fpow x exp8 else fpow x exp8 * sqm1
def rootC (x : F) : Int := if cand x * cand x = x then 0 else 7
def rootV (x : F) : F := if cand x * cand x = x then (if (cand x).val % 2 = 1 then -cand x else cand x) else 0
theorem cand_sq (y : F) : cand (y * y) * cand (y * y) = y * y := by
  have h2 : fpow y 2 = y * y := by rw [show 2 = 1 + 1 from rfl, fpow_add, fpow_one]
  have h1 : fpow (y * y) exp8 * fpow (y * y) exp8 = y * y * fpow y exp2 := by
    rw [← h2, fpow_mul, ← fpow_add, exp_eight, fpow_add]
  unfold cand
  split
  · assumption
  · rename_i h
    by_cases hy : y = 0
    · subst hy
      rw [h1] at h; grind
    · rcases half_one hy with e | e
      · rw [h1, e] at h; grind
      · rw [e] at h1
        have := sqm1_sq
        grind
theorem rootC_sq (y : F) : rootC (y * y) = 0 := by unfold rootC; rw [if_pos (cand_sq y)]
theorem neg_val (x : F) : (-x).val = (Pq - x.val) % Pq := rfl
theorem neg_par (v : Nat) (h : v < Pq) (h1 : v % 2 = 1) : (Pq - v) % Pq % 2 = 0 := by
  rw [Nat.mod_eq_of_lt (show Pq - v < Pq by omega)]
  have : Pq % 2 = 1 := by decide +kernel
  omega
theorem rootV_even (x : F) : (rootV x).val % 2 = 0 := by
  unfold rootV
  by_cases h : cand x * cand x = x
  · rw [if_pos h]
    by_cases h1 : (cand x).val % 2 = 1
    · rw [if_pos h1, neg_val]
      exact neg_par _ (cand x).isLt h1
    · rw [if_neg h1]; exact (Nat.mod_two_eq_zero_or_one _).resolve_right h1
  · rw [if_neg h]; rfl
theorem rootV_mul {x : F} (h : rootC x = 0) : rootV x * rootV x = x := by
  unfold rootC at h
  unfold rootV
  by_cases e : cand x * cand x = x
  · rw [if_pos e]
    generalize cand x = c at *
    by_cases h1 : c.val % 2 = 1
    · rw [if_pos h1]
      clear h1 h
      grind
    · rw [if_neg h1]; exact e
  · rw [if_neg e] at h; cases h
theorem root_pm (y : F) : rootV (y * y) = y ∨ rootV (y * y) = -y := by
  have h := rootV_mul (rootC_sq y)
  have h2 : (rootV (y * y) - y) * (rootV (y * y) + y) = 0 := by grind
  rcases F.dom h2 with h | h
  · left; grind
  · right; grind
theorem two_non : fpow (fn 2) exp2 ≠ 1 := by
  intro h
  have h1 := congrArg Fin.val h
  rw [fpow_val, show (fn 2).val = 2 from rfl, ← powMod_spec Pq 256 2 exp2 (by decide +kernel)] at h1
  exact absurd h1 (by decide +kernel)
theorem root_twice (y : F) : rootC (y * y + y * y) = 0 ↔ y * y = 0 := by
  constructor
  · intro h
    have h1 := rootV_mul h
    by_cases hy : y = 0
    · subst hy; grind
    · exfalso
      have h3 : (rootV (y * y + y * y) * finv y) * (rootV (y * y + y * y) * finv y) = fn 2 := by
        have h4 := finv_mul hy
        have h5 : fn 2 = (2 : F) := rfl
        rw [h5]
        generalize rootV (y * y + y * y) = r at *
        generalize finv y = z at *
        grind
      generalize rootV (y * y + y * y) * finv y = q at *
      apply two_non
      rw [← h3]
      have hq : q ≠ 0 := by
        rintro rfl
        exact absurd (congrArg Fin.val h3) (by decide)
      rw [fpow_mul_base, ← fpow_add, exp_two, fermatF hq]
  · intro h
    have : y * y + y * y = 0 * 0 := by rw [h]; rfl
    rw [this]; exact rootC_sq 0
end Go.Proofs.Ytmoggjbnlimepaa
