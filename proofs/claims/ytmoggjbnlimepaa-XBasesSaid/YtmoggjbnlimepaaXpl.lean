/- Plain: clamped secrets, the highest bit of a public key, public keys of small order. No program in sight. -/
import Derived.Test.YtmoggjbnlimepaaXaw
namespace Go.Proofs.Ytmoggjbnlimepaa

theorem u8_and3 (x y : UInt8) : ((x &&& 248) ||| (y &&& 7)) &&& 248 = x &&& 248 := by
  apply UInt8.toNat_inj.1
  simp only [UInt8.toNat_and, UInt8.toNat_or]
  apply Nat.eq_of_testBit_eq
  intro i
  simp only [Nat.testBit_and, Nat.testBit_or]
  have h7 : Nat.testBit (UInt8.toNat 7) i = true → Nat.testBit (UInt8.toNat 248) i = false := by
    intro h
    have : i < 3 := by
      rcases Nat.lt_or_ge i 3 with h2 | h2
      · exact h2
      · rw [Nat.testBit_lt_two_pow (show UInt8.toNat 7 < 2 ^ i from Nat.lt_of_lt_of_le (by decide) (Nat.pow_le_pow_right (show 0 < 2 by decide) h2))] at h; cases h
    have h3 : i = 0 ∨ i = 1 ∨ i = 2 := by omega
    rcases h3 with rfl | rfl | rfl <;> decide
  cases h : Nat.testBit (UInt8.toNat 7) i
  · simp
  · rw [h7 h]; simp
theorem u8_and6 (x y : UInt8) : ((x &&& 63) ||| (y &&& 192)) &&& 127 ||| 64 = x &&& 127 ||| 64 := by
  apply UInt8.toNat_inj.1
  simp only [UInt8.toNat_and, UInt8.toNat_or]
  apply Nat.eq_of_testBit_eq
  intro i
  simp only [Nat.testBit_and, Nat.testBit_or]
  rcases Nat.lt_or_ge i 8 with h8 | h8
  · have h3 : i = 0 ∨ i = 1 ∨ i = 2 ∨ i = 3 ∨ i = 4 ∨ i = 5 ∨ i = 6 ∨ i = 7 := by omega
    have e1 : ∀ j, Nat.testBit (UInt8.toNat 63) j = decide (j < 6) := fun j => by rw [show UInt8.toNat 63 = 2 ^ 6 - 1 from rfl, Nat.testBit_two_pow_sub_one]
    have e2 : ∀ j, Nat.testBit (UInt8.toNat 127) j = decide (j < 7) := fun j => by rw [show UInt8.toNat 127 = 2 ^ 7 - 1 from rfl, Nat.testBit_two_pow_sub_one]
    have e3 : ∀ j, Nat.testBit (UInt8.toNat 64) j = decide (6 = j) := fun j => by rw [show UInt8.toNat 64 = 2 ^ 6 from rfl, Nat.testBit_two_pow]
    have e4 : ∀ j, j < 6 → Nat.testBit 192 j = false := by decide
    rw [e1, e2, e3]
    rcases h3 with rfl | rfl | rfl | rfl | rfl | rfl | rfl | rfl <;> simp [e4]
  · have : ∀ n : Nat, n < 256 → Nat.testBit n i = false := fun n hn => Nat.testBit_lt_two_pow (Nat.lt_of_lt_of_le hn (Nat.pow_le_pow_right (show 0 < 2 by decide) h8))
    simp [this _ (UInt8.toNat_lt _)]
theorem first_self {l : List UInt8} (h : l.length = 32) : first l 32 = l := by unfold first; rw [List.take_of_length_le (by omega), h]; simp
theorem first_app {l m : List UInt8} (h : l.length = 32) : first (l ++ m) 32 = l := by
  unfold first
  rw [List.take_append_of_le_length (by omega), List.take_of_length_le (by omega), List.length_append]
  rw [show 32 - (l.length + m.length) = 0 by omega]; simp
/-- The law's second secret. -/
def turnB (l : List UInt8) (lo hi : UInt8) : List UInt8 := (l.set 0 ((l.getD 0 0 &&& 248) ||| (lo &&& 7))).set 31 ((l.getD 31 0 &&& 63) ||| (hi &&& 192))
theorem turnB_len (l : List UInt8) (lo hi : UInt8) : (turnB l lo hi).length = l.length := by simp [turnB]
theorem clamp_set {l : List UInt8} (h : l.length = 32) (a b : UInt8) : clampB ((l.set 0 a).set 31 b) = (l.set 0 (a &&& 248)).set 31 (b &&& 127 ||| 64) := by
  unfold clampB
  rw [first_self (by simp [h])]
  have e0 : ((l.set 0 a).set 31 b).getD 0 0 = a := by
    rw [List.getD_eq_getElem?_getD, List.getElem?_set_ne (by omega), List.getElem?_set_self (by omega)]; rfl
  have e31 : ((l.set 0 a).set 31 b).getD 31 0 = b := by
    rw [List.getD_eq_getElem?_getD, List.getElem?_set_self (by simp; omega)]; rfl
  rw [e0, e31]
  rw [List.set_comm (l := l.set 0 a) _ _ (by omega : (31 : Nat) ≠ 0), List.set_set, List.set_set]
theorem clamp_self {l : List UInt8} (h : l.length = 32) : clampB l = (l.set 0 (l.getD 0 0 &&& 248)).set 31 (l.getD 31 0 &&& 127 ||| 64) := by
  unfold clampB
  rw [first_self h]
theorem clamp_turn {l : List UInt8} (h : l.length = 32) (lo hi : UInt8) : clampB (turnB l lo hi) = clampB l := by
  unfold turnB
  rw [clamp_set h, clamp_self h, u8_and3, u8_and6]
theorem and_idem (c d : UInt8) : (c &&& d) &&& d = c &&& d := by rw [UInt8.and_assoc, UInt8.and_self]
theorem clamp_hi0 : ∀ c : Nat, c < 256 → (UInt8.ofNat c &&& 127 ||| 64) &&& 127 ||| 64 = UInt8.ofNat c &&& 127 ||| 64 := by decide +kernel
theorem clamp_hi (c : UInt8) : (c &&& 127 ||| 64) &&& 127 ||| 64 = c &&& 127 ||| 64 := by
  have := clamp_hi0 c.toNat c.toNat_lt
  rwa [UInt8.ofNat_toNat] at this
theorem clamp_clamp {l : List UInt8} (h : l.length = 32) : clampB (clampB l) = clampB l := by
  rw [clamp_self h, clamp_set h, and_idem, clamp_hi]
theorem xB_clamp {l m p : List UInt8} (h : clampB l = clampB m) : xB l p = xB m p := by unfold xB; rw [h]
theorem xB_feF {l p q : List UInt8} (h : feF p = feF q) : xB l p = xB l q := by unfold xB; rw [h]
/-- The highest bit of a public key turned. -/
def highB (l : List UInt8) : List UInt8 := l.set 31 (l.getD 31 0 ^^^ 128)
theorem xor128 (c : UInt8) : (c ^^^ 128).toNat % 128 = c.toNat % 128 := by
  rw [UInt8.toNat_xor, show UInt8.toNat 128 = 2 ^ 7 from rfl, show (128 : Nat) = 2 ^ 7 from rfl]
  apply Nat.eq_of_testBit_eq
  intro i
  rw [Nat.testBit_mod_two_pow, Nat.testBit_mod_two_pow, Nat.testBit_xor, Nat.testBit_two_pow]
  by_cases h : i < 7
  · simp [h, show ¬ 7 = i by omega]
  · simp [h]
theorem feF_high {l : List UInt8} (h : l.length = 32) : feF (highB l) = feF l := by
  unfold feF
  have hl : (highB l).length = 32 := by simp [highB, h]
  rw [first_self hl, first_self h]
  congr 1
  have e1 := leN_take l 31 (by omega)
  have e2 := leN_take (highB l) 31 (by omega)
  rw [List.take_of_length_le (by omega)] at e1 e2
  have e3 : (highB l).take 31 = l.take 31 := by simp [highB, List.take_set_of_le]
  have e4 : (highB l)[31]'(by omega) = (l[31]'(by omega)) ^^^ 128 := by
    simp [highB, List.getD_eq_getElem?_getD, List.getElem?_eq_getElem (show 31 < l.length by omega)]
  rw [e1, e2, e3, e4]
  have hx := xor128 (l[31]'(by omega))
  have hlt := leN_take_lt l 31
  have p31 : (57896044618658097711785492504343953926634992332820282019728792003956564819968 : Nat) = 128 * 256 ^ 31 := by decide +kernel
  rw [p31]
  generalize (l[31]'(by omega) ^^^ 128).toNat = c at *
  generalize (l[31]'(by omega)).toNat = d at *
  generalize leN (l.take 31) = r at *
  generalize 256 ^ 31 = P at *
  have key : ∀ c : Nat, (r + c * P) % (128 * P) = r + (c % 128) * P := fun c => by
    have e := Nat.div_add_mod c 128
    have : r + c * P = (r + (c % 128) * P) + (128 * P) * (c / 128) := by
      conv => lhs; rw [← e]
      rw [Nat.add_mul]; 
      have : 128 * (c / 128) * P = 128 * P * (c / 128) := by rw [Nat.mul_assoc, Nat.mul_comm (c / 128), ← Nat.mul_assoc]
      omega
    rw [this, Nat.add_mul_mod_self_left, Nat.mod_eq_of_lt]
    have h1 := Nat.mod_lt c (show 0 < 128 by omega)
    have : (c % 128 + 1) * P ≤ 128 * P := Nat.mul_le_mul_right _ h1
    rw [Nat.succ_mul] at this
    omega
  rw [key, key, hx]
theorem feF_app {l m : List UInt8} (h : l.length = 32) : feF (l ++ m) = feF l := by unfold feF; rw [first_app h, first_self h]
theorem clamp_app {l m : List UInt8} (h : l.length = 32) : clampB (l ++ m) = clampB l := by unfold clampB; rw [first_app h, first_self h]
theorem feF_nine : feF (9 :: List.replicate 31 0) = feF [9] := by decide +kernel
/-! ### public keys of small order -/
theorem dom2 {x y : F} (h : x * y = 0) : x = 0 ∨ y = 0 := F.dom h
/-- Behind each step: of the first one x or z is 0; of the second one too (u is 0), or x^2 is z^2. -/
def Sml (u : F) (a b : Pj) : Prop := a.x * a.z = 0 ∧ (u = 0 → b.x * b.z = 0) ∧ (u * u = 1 → b.x * b.x = b.z * b.z)
theorem sml_step {u : F} (hu : u = 0 ∨ u * u = 1) {a b : Pj} (h : Sml u a b ∨ Sml u b a) : Sml u (lstep u a b).1 (lstep u a b).2 := by
  obtain ⟨ax, az⟩ := a
  obtain ⟨bx, bz⟩ := b
  have key : (u = 0 ∧ ax * az = 0) ∨ (u * u = 1 ∧ ((ax * az = 0 ∧ bx * bx = bz * bz) ∨ (bx * bz = 0 ∧ ax * ax = az * az))) := by
    rcases h with ⟨h1, h2, h3⟩ | ⟨h1, h2, h3⟩
    · rcases hu with hu | hu
      · exact .inl ⟨hu, h1⟩
      · exact .inr ⟨hu, .inl ⟨h1, h3 hu⟩⟩
    · rcases hu with hu | hu
      · exact .inl ⟨hu, h2 hu⟩
      · exact .inr ⟨hu, .inr ⟨h1, h3 hu⟩⟩
  clear h hu
  have n1 : u = 0 → ¬ u * u = 1 := by
    rintro rfl h
    exact absurd (congrArg Fin.val h) (by decide)
  simp only [Sml, lstep]
  generalize fn 121665 = k
  rcases key with ⟨hu, h⟩ | ⟨hu, h⟩
  · refine ⟨?_, fun _ => ?_, fun h2 => absurd h2 (n1 hu)⟩
    · clear n1; grind
    · subst hu; clear n1; grind
  · have hu0 : u ≠ 0 := fun h0 => n1 h0 hu
    refine ⟨?_, fun h0 => absurd h0 hu0, fun _ => ?_⟩
    · clear n1 hu0
      rcases h with ⟨h1, h2⟩ | ⟨h1, h2⟩ <;> grind
    · clear n1 hu0
      rcases h with ⟨h1, h2⟩ | ⟨h1, h2⟩
      · have hd : ((bx - bz) * (ax + az)) * ((bx + bz) * (ax - az)) = 0 := by grind
        generalize (bx - bz) * (ax + az) = p at *
        generalize (bx + bz) * (ax - az) = q at *
        clear h1 h2
        grind
      · have hd : ((bx - bz) * (ax + az)) * ((bx + bz) * (ax - az)) = 0 := by grind
        generalize (bx - bz) * (ax + az) = p at *
        generalize (bx + bz) * (ax - az) = q at *
        clear h1 h2
        grind
theorem sml_state {k : Nat} {u : F} (hu : u = 0 ∨ u * u = 1) : ∀ (t : Nat) (a b : Pj) (was : Bool), 0 < t → (Sml u a b ∨ Sml u b a) →
    Sml u (lstate k u t (a, b, was)).1 (lstate k u t (a, b, was)).2.1 ∧ (lstate k u t (a, b, was)).2.2 = kbit k 0
  | 0, _, _, _, h, _ => by omega
  | t + 1, a, b, was, _, h => by
    simp only [lstate]
    have hs : Sml u (lstep u (if kbit k t != was then (b, a) else (a, b)).1 (if kbit k t != was then (b, a) else (a, b)).2).1 (lstep u (if kbit k t != was then (b, a) else (a, b)).1 (if kbit k t != was then (b, a) else (a, b)).2).2 := by
      split
      · exact sml_step hu h.symm
      · exact sml_step hu h
    rcases Nat.eq_zero_or_pos t with rfl | ht
    · exact ⟨hs, rfl⟩
    · exact sml_state hu t _ _ _ ht (.inl hs)
theorem small_ladder {k : Nat} {u : F} (hu : u = 0 ∨ u * u = 1) (hk : kbit k 0 = false) : ladder k u = 0 := by
  have h0 : Sml u ⟨fn 1, 0⟩ ⟨u, fn 1⟩ := by
    have e1 : (fn 1 : F) = 1 := rfl
    refine ⟨by show (fn 1 : F) * 0 = 0; grind, fun h => by show u * fn 1 = 0; rw [h]; grind, fun h => by show u * u = fn 1 * fn 1; rw [h, e1]; grind⟩
  obtain ⟨h1, h2⟩ := sml_state (k := k) hu 255 _ _ false (by omega) (.inl h0)
  unfold ladder
  rw [hk] at h2
  simp only [h2, Bool.false_eq_true, if_false]
  rcases F.dom h1.1 with h | h
  · rw [h]; exact (by grind : (0 : F) * _ = 0)
  · rw [h, finv_zero]; exact (by grind : _ * (0 : F) = 0)
theorem and248 : ∀ c : Nat, c < 256 → (UInt8.ofNat c &&& 248).toNat % 2 = 0 := by decide +kernel
theorem clamp_bit0 (l : List UInt8) : kbit (leN (clampB l)) 0 = false := by
  unfold kbit
  have h : leN (clampB l) % 2 = 0 := by
    obtain ⟨c, r, hcr⟩ : ∃ c r, first l 32 = c :: r := by
      cases h : first l 32 with
      | nil => have := first_len l 32; rw [h] at this; simp at this
      | cons c r => exact ⟨c, r, rfl⟩
    unfold clampB
    rw [hcr]
    simp only [List.set_cons_zero, List.set_cons_succ, List.getD_cons_zero, leN]
    have := and248 c.toNat c.toNat_lt
    rw [UInt8.ofNat_toNat] at this
    omega
  simp [h]
theorem small_xB {l p : List UInt8} (hu : feF p = 0 ∨ feF p * feF p = 1) : xB l p = List.replicate 32 0 := by
  unfold xB
  rw [small_ladder hu (clamp_bit0 l)]
  decide +kernel
end Go.Proofs.Ytmoggjbnlimepaa
