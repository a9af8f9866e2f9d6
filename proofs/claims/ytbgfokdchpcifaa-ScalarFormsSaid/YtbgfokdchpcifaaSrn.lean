/- Plain numbers: bytes of a number, the greatest first; doubling and taking off, byte by byte. No program in sight. -/
import Derived.Test.YtbgfokdchpcifaaNum
namespace Go.Proofs.Ytbgfokdchpcifaa

/-- Byte m of a number. -/
def dB (n m : Nat) : Nat := n / 256 ^ m % 256
theorem dB_lt (n m : Nat) : dB n m < 256 := Nat.mod_lt _ (by omega)
/-- Cell i of a number's n bytes, the greatest first. -/
def bR (n x i : Nat) : Nat := dB x (n - 1 - i)
theorem bR_lt (n x i : Nat) : bR n x i < 256 := dB_lt _ _
theorem pow256 (m : Nat) : 0 < 256 ^ m := Nat.pow_pos (by omega)
theorem div_succ256 (n m : Nat) : n / 256 ^ (m + 1) = n / 256 ^ m / 256 := by rw [Nat.pow_succ, Nat.div_div_eq_div_mul]
/-- What a doubled number, and a digit, carries into byte m. -/
def shc (r b m : Nat) : Nat := ((r % 256 ^ m) * 2 + b) / 256 ^ m
theorem shc_zero (r b : Nat) : shc r b 0 = b := by simp [shc, Nat.mod_one]
theorem shc_lt (r b m : Nat) (h : b < 2) : shc r b m < 2 := by
  have := Nat.mod_lt r (pow256 m)
  have hp := pow256 m
  unfold shc
  rw [Nat.div_lt_iff_lt_mul hp]
  omega
theorem sh_div (r b m : Nat) : (2 * r + b) / 256 ^ m = 2 * (r / 256 ^ m) + shc r b m := by
  have hp := pow256 m
  have e := Nat.div_add_mod r (256 ^ m)
  have : 2 * r + b = (r % 256 ^ m * 2 + b) + 256 ^ m * (2 * (r / 256 ^ m)) := by
    rw [Nat.mul_left_comm]; omega
  rw [this, Nat.add_mul_div_left _ _ hp, Nat.add_comm]; rfl
theorem sh_step (r b m : Nat) (h : b < 2) : dB (2 * r + b) m = 2 * dB r m % 256 + shc r b m ∧ shc r b (m + 1) = dB r m / 128 := by
  have hc := shc_lt r b m h
  have hc1 := shc_lt r b (m + 1) h
  have e1 := sh_div r b m
  have e2 := sh_div r b (m + 1)
  have e3 := div_succ256 r m
  have e4 := div_succ256 (2 * r + b) m
  unfold dB
  generalize r / 256 ^ (m + 1) = q1 at *
  generalize (2 * r + b) / 256 ^ (m + 1) = q2 at *
  generalize (2 * r + b) / 256 ^ m = q3 at *
  generalize r / 256 ^ m = q4 at *
  generalize shc r b m = c at *
  generalize shc r b (m + 1) = c1 at *
  constructor <;> omega
/-- What taking off borrows at byte m. -/
def bwB (a b m : Nat) : Nat := if a % 256 ^ m < b % 256 ^ m then 1 else 0
theorem bwB_zero (a b : Nat) : bwB a b 0 = 0 := by simp [bwB, Nat.mod_one]
theorem bwB_le (a b m : Nat) : bwB a b m ≤ 1 := by unfold bwB; split <;> omega
theorem mod_succ256 (n m : Nat) : n % 256 ^ (m + 1) = dB n m * 256 ^ m + n % 256 ^ m := by rw [Nat.pow_succ]; exact split_mod n (256 ^ m) 256
theorem lt_digits {p d e x y : Nat} (hx : x < p) (hy : y < p) : d * p + x < e * p + y ↔ d < e ∨ (d = e ∧ x < y) := by
  constructor
  · intro h
    rcases Nat.lt_trichotomy d e with h1 | h1 | h1
    · exact .inl h1
    · subst h1; exact .inr ⟨rfl, by omega⟩
    · exfalso
      have : (e + 1) * p ≤ d * p := Nat.mul_le_mul_right _ h1
      rw [Nat.succ_mul] at this
      omega
  · rintro (h | ⟨rfl, h⟩)
    · have : (d + 1) * p ≤ e * p := Nat.mul_le_mul_right _ h
      rw [Nat.succ_mul] at this
      omega
    · omega
theorem bwB_succ (a b m : Nat) : bwB a b (m + 1) = if dB a m < dB b m + bwB a b m then 1 else 0 := by
  have h := lt_digits (d := dB a m) (e := dB b m) (Nat.mod_lt a (pow256 m)) (Nat.mod_lt b (pow256 m))
  unfold bwB
  rw [mod_succ256, mod_succ256]
  by_cases h1 : a % 256 ^ m < b % 256 ^ m
  · rw [if_pos h1]
    by_cases h2 : dB a m < dB b m + 1
    · rw [if_pos h2, if_pos (h.2 (by omega))]
    · rw [if_neg h2, if_neg (fun h3 => by have := h.1 h3; omega)]
  · rw [if_neg h1]
    by_cases h2 : dB a m < dB b m + 0
    · rw [if_pos h2, if_pos (h.2 (by omega))]
    · rw [if_neg h2, if_neg (fun h3 => by have := h.1 h3; omega)]
theorem sub_div256 {a b : Nat} (h : b ≤ a) (m : Nat) : (a - b) / 256 ^ m = a / 256 ^ m - b / 256 ^ m - bwB a b m ∧ b / 256 ^ m + bwB a b m ≤ a / 256 ^ m := by
  have hp := pow256 m
  have ea := Nat.div_add_mod a (256 ^ m)
  have eb := Nat.div_add_mod b (256 ^ m)
  have ha := Nat.mod_lt a hp
  have hb := Nat.mod_lt b hp
  have hq : b / 256 ^ m ≤ a / 256 ^ m := Nat.div_le_div_right h
  unfold bwB
  generalize a / 256 ^ m = qa at *
  generalize b / 256 ^ m = qb at *
  generalize a % 256 ^ m = ra at *
  generalize b % 256 ^ m = rb at *
  generalize 256 ^ m = p at *
  obtain ⟨d, rfl⟩ : ∃ d, qa = qb + d := ⟨qa - qb, by omega⟩
  rw [Nat.mul_add] at ea
  by_cases h1 : ra < rb
  · rw [if_pos h1]
    have hd : 0 < d := by
      rcases Nat.eq_zero_or_pos d with h0 | h0
      · subst h0; simp at ea; omega
      · exact h0
    obtain ⟨e, rfl⟩ : ∃ e, d = e + 1 := ⟨d - 1, by omega⟩
    rw [Nat.mul_add, Nat.mul_one] at ea
    refine ⟨?_, by omega⟩
    have : a - b = (p + ra - rb) + p * e := by omega
    rw [this, Nat.add_mul_div_left _ _ hp, Nat.div_eq_of_lt (by omega)]
    omega
  · rw [if_neg h1]
    refine ⟨?_, by omega⟩
    have : a - b = (ra - rb) + p * d := by omega
    rw [this, Nat.add_mul_div_left _ _ hp, Nat.div_eq_of_lt (by omega)]
    omega
theorem sub_step {a b : Nat} (h : b ≤ a) (m : Nat) : (dB (a - b) m : Int) = if ((dB a m : Nat) : Int) - (dB b m : Nat) - (bwB a b m : Nat) < 0 then ((dB a m : Nat) : Int) - (dB b m : Nat) - (bwB a b m : Nat) + 256 else ((dB a m : Nat) : Int) - (dB b m : Nat) - (bwB a b m : Nat) := by
  obtain ⟨e, hle⟩ := sub_div256 h m
  unfold dB
  rw [e]
  generalize a / 256 ^ m = qa at *
  generalize b / 256 ^ m = qb at *
  have := bwB_le a b m
  generalize bwB a b m = w at *
  split <;> omega
theorem bwB_int (a b m : Nat) : (bwB a b (m + 1) : Int) = if ((dB a m : Nat) : Int) - (dB b m : Nat) - (bwB a b m : Nat) < 0 then 1 else 0 := by
  rw [bwB_succ]
  by_cases h : dB a m < dB b m + bwB a b m
  · rw [if_pos h, if_pos (by omega)]; rfl
  · rw [if_neg h, if_neg (by omega)]; rfl
/-- The number of bytes, the greatest first. -/
def beN (l : List UInt8) : Nat := leN l.reverse
theorem beN_take (l : List UInt8) (k : Nat) (h : k < l.length) : beN (l.take (k + 1)) = 256 * beN (l.take k) + l[k].toNat := by
  unfold beN
  rw [List.take_succ_eq_append_getElem h, List.reverse_append]
  show leN (l[k] :: (l.take k).reverse) = _
  show l[k].toNat + 256 * leN _ = _
  omega
theorem beN_zero (l : List UInt8) : beN (l.take 0) = 0 := rfl
/-- The number so far, ahead of digit k - 1 of byte c. -/
def partN (v c k : Nat) : Nat := v * 2 ^ (8 - k) + c / 2 ^ k
theorem partN_8 (v c : Nat) (h : c < 256) : partN v c 8 = v := by unfold partN; omega
theorem partN_0 (v c : Nat) : partN v c 0 = 256 * v + c := by unfold partN; omega
theorem partN_step (v c k : Nat) (h : k < 8) : partN v c k = 2 * partN v c (k + 1) + c / 2 ^ k % 2 := by
  have : k = 0 ∨ k = 1 ∨ k = 2 ∨ k = 3 ∨ k = 4 ∨ k = 5 ∨ k = 6 ∨ k = 7 := by omega
  unfold partN
  rcases this with rfl | rfl | rfl | rfl | rfl | rfl | rfl | rfl <;> simp <;> omega
theorem part_once (v c k : Nat) (h : k < 8) : partN v c k % Lq = once (2 * (partN v c (k + 1) % Lq) + c / 2 ^ k % 2) := by
  have hL : 0 < Lq := by unfold Lq; omega
  have h1 := Nat.mod_lt (partN v c (k + 1)) hL
  rw [once_mod (by omega), partN_step v c k h]
  generalize partN v c (k + 1) = q at *
  generalize c / 2 ^ k % 2 = b at *
  have e := Nat.div_add_mod q Lq
  have : 2 * q + b = (2 * (q % Lq) + b) + Lq * (2 * (q / Lq)) := by rw [Nat.mul_left_comm]; omega
  rw [this, Nat.add_mul_mod_self_left]
/-- Numbers that agree above digit m, and which is less. -/
theorem cmp_digit {x y m : Nat} (hq : x / 256 ^ (m + 1) = y / 256 ^ (m + 1)) (hne : dB x m ≠ dB y m) : decide (y ≤ x) = decide (dB y m < dB x m) := by
  rw [div_succ256, div_succ256] at hq
  have ex := Nat.div_add_mod x (256 ^ m)
  have ey := Nat.div_add_mod y (256 ^ m)
  have hx := Nat.mod_lt x (pow256 m)
  have hy := Nat.mod_lt y (pow256 m)
  unfold dB at *
  rw [decide_eq_decide]
  generalize x / 256 ^ m = qx at *
  generalize y / 256 ^ m = qy at *
  generalize x % 256 ^ m = rx at *
  generalize y % 256 ^ m = ry at *
  have hl := lt_digits (d := qx) (e := qy) hx hy
  rw [Nat.mul_comm qx, Nat.mul_comm qy] at hl
  generalize 256 ^ m * qx = X at *
  generalize 256 ^ m * qy = Y at *
  omega
theorem cmp_same {x y m : Nat} (hq : x / 256 ^ (m + 1) = y / 256 ^ (m + 1)) (he : dB x m = dB y m) : x / 256 ^ m = y / 256 ^ m := by
  rw [div_succ256, div_succ256] at hq
  unfold dB at he
  omega
end Go.Proofs.Ytbgfokdchpcifaa
