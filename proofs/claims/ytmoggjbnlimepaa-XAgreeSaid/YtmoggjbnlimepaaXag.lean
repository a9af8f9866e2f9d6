/- Plain: the ladder makes multiples on the curve; two that know each other's public keys share one secret. No program in sight. -/
import Derived.Test.YtmoggjbnlimepaaEdw
import Derived.Test.YtmoggjbnlimepaaXpl
namespace Go.Proofs.Ytmoggjbnlimepaa

theorem F.mz (x : F) : x * 0 = 0 := Lean.Grind.Semiring.mul_zero x
theorem F.one_nz : (0 : F) ≠ 1 := by decide +kernel
/-- The place by x alone. -/
def uOf (y : F) : F := (1 + y) * finv (1 - y)
theorem k24 : cuE.d * (fn 121665 + 1) = -fn 121665 := dE_eq
theorem rep_u {P : EP} {X Z : F} (h : Mrep P.y X Z) : X * finv Z = uOf P.y := by
  obtain ⟨h1, h2⟩ := h
  unfold uOf
  generalize P.y = y at *
  by_cases hy : 1 - y = 0
  · have hz : Z = 0 := by
      have hy1 : y = 1 := by grind
      subst hy1
      have : (2 : F) * Z = 0 := by clear hy h2; grind
      rcases F.dom this with h | h
      · exact absurd h two_ne
      · exact h
    rw [hz, hy, finv_zero, F.mz, F.mz]
  · have hz : Z ≠ 0 := by
      intro hz
      subst hz
      have : X * (1 - y) = 0 := by grind
      rcases F.dom this with h | h
      · subst h; exact h2 (by decide +kernel)
      · exact hy h
    have k1 := finv_mul hz
    have k2 := finv_mul hy
    generalize finv Z = v at *
    generalize finv (1 - y) = u at *
    have e : X * (1 - y) = (1 + y) * Z := by grind
    generalize 1 - y = a at *
    generalize 1 + y = b at *
    clear h1 h2
    grind
theorem u_rep {y : F} (h : y ≠ 1) : Mrep y (uOf y) 1 := by
  have hy : 1 - y ≠ 0 := by grind
  have k := finv_mul hy
  have e1 : uOf y - 1 = (1 + y - (1 - y)) * finv (1 - y) := by unfold uOf; generalize finv (1 - y) = u at *; grind
  have e2 : uOf y + 1 = (2 : F) * finv (1 - y) := by unfold uOf; generalize finv (1 - y) = u at *; grind
  refine ⟨?_, ?_⟩
  · rw [e1, e2]; grind
  · rw [e2]
    intro h0
    rcases F.dom h0 with h | h
    · exact two_ne h
    · rw [h, F.mz] at k; exact F.one_nz k
theorem u_ne {y : F} (h : y ≠ 1) (h2 : y ≠ -1) : uOf y ≠ 0 := by
  intro h0
  have hy : 1 - y ≠ 0 := by grind
  have k := finv_mul hy
  unfold uOf at h0
  rcases F.dom h0 with h | h
  · exact h2 (by grind)
  · rw [h, F.mz] at k; exact F.one_nz k
/-- A point whose second place is 1 is nothing; whose is -1, twice it is. -/
theorem x_zero {P : EP} (h : P.y * P.y = 1) : P.x = 0 := by
  have on := P.on
  unfold onC at on
  have hd : cuE.d = dE := rfl
  have h1 : P.x * P.x * (1 + dE) = 0 := by rw [hd] at on; generalize dE = d at *; generalize P.x = x at *; generalize P.y = y at *; grind
  have hne : (1 : F) + dE ≠ 0 := by decide +kernel
  rcases F.dom h1 with h2 | h2
  · rcases F.dom h2 with h | h <;> exact h
  · exact absurd h2 hne
theorem y_one {P : EP} (h : P.y = 1) : P = Cp.zero := Cp.ext' (x_zero (by rw [h]; grind)) h
theorem y_less {P : EP} (h : P.y = -1) : P.add P = Cp.zero := by
  have hx := x_zero (P := P) (by rw [h]; grind)
  apply Cp.add_eq
  · show (0 : F) * _ = _
    rw [hx, h]; decide +kernel
  · show (1 : F) * _ = _
    rw [hx, h]; decide +kernel
/-- What a step of the ladder makes of two neighbours. -/
theorem step_rep {P A B : EP} {u : F} {a b : Pj} (hu : Mrep P.y u 1) (hu0 : u ≠ 0) (hAB : A.add P = B) (ha : Mrep A.y a.x a.z) (hb : Mrep B.y b.x b.z) :
    Mrep (A.add A).y (lstep u a b).1.x (lstep u a b).1.z ∧ Mrep (A.add B).y (lstep u a b).2.x (lstep u a b).2.z :=
  ⟨ha.dbl k24, Mrep.dif hAB hu hu0 ha hb⟩
theorem state_rep {P : EP} {u : F} (hu : Mrep P.y u 1) (hu0 : u ≠ 0) (k : Nat) : ∀ (t : Nat) (a b : Pj) (was : Bool),
    Mrep (Cp.mul (k / 2 ^ t) P).y (if was then b else a).x (if was then b else a).z → Mrep (Cp.mul (k / 2 ^ t + 1) P).y (if was then a else b).x (if was then a else b).z →
      Mrep (Cp.mul k P).y (if (lstate k u t (a, b, was)).2.2 then (lstate k u t (a, b, was)).2.1 else (lstate k u t (a, b, was)).1).x (if (lstate k u t (a, b, was)).2.2 then (lstate k u t (a, b, was)).2.1 else (lstate k u t (a, b, was)).1).z
  | 0, a, b, was, h, _ => by
    rw [Nat.pow_zero, Nat.div_one] at h
    exact h
  | t + 1, a, b, was, hA, hB => by
    generalize hn : k / 2 ^ (t + 1) = n at *
    have hk : k / 2 ^ t = 2 * n + k / 2 ^ t % 2 := by
      rw [← hn, Nat.pow_succ, ← Nat.div_div_eq_div_mul]; omega
    have hm1 : (Cp.mul n P).add P = Cp.mul (n + 1) P := rfl
    by_cases hb : kbit k t = true
    · have hbit : k / 2 ^ t % 2 = 1 := by simpa [kbit] using hb
      rw [hbit] at hk
      -- the first one is the greater neighbour
      have hd : (Cp.mul (n + 1) P).add P.neg = Cp.mul n P := by rw [← hm1, Cp.assoc, Cp.add_neg, Cp.add_zero]
      have hu' : Mrep P.neg.y u 1 := hu
      have hs := step_rep hu' hu0 hd (a := if was then a else b) (b := if was then b else a) hB hA
      have e1 : (Cp.mul (n + 1) P).add (Cp.mul (n + 1) P) = Cp.mul (k / 2 ^ t + 1) P := by rw [← Cp.mul_add, hk]; congr 1; omega
      have e2 : (Cp.mul (n + 1) P).add (Cp.mul n P) = Cp.mul (k / 2 ^ t) P := by rw [← Cp.mul_add, hk]; congr 1; omega
      rw [e1, e2] at hs
      have hp : lstate k u (t + 1) (a, b, was) = lstate k u t ((lstep u (if was then a else b) (if was then b else a)).1, (lstep u (if was then a else b) (if was then b else a)).2, true) := by rw [lstate, hb]; cases was <;> rfl
      rw [hp]
      exact state_rep hu hu0 k t _ _ true hs.2 hs.1
    · rw [Bool.not_eq_true] at hb
      have hbit : k / 2 ^ t % 2 = 0 := by
        have h1 : ¬ k / 2 ^ t % 2 = 1 := by simpa [kbit] using hb
        omega
      rw [hbit] at hk
      have hs := step_rep hu hu0 hm1 (a := if was then b else a) (b := if was then a else b) hA hB
      have e1 : (Cp.mul n P).add (Cp.mul n P) = Cp.mul (k / 2 ^ t) P := by rw [← Cp.mul_add, hk]; congr 1; omega
      have e2 : (Cp.mul n P).add (Cp.mul (n + 1) P) = Cp.mul (k / 2 ^ t + 1) P := by rw [← Cp.mul_add, hk]; congr 1; omega
      rw [e1, e2] at hs
      have hp : lstate k u (t + 1) (a, b, was) = lstate k u t ((lstep u (if was then b else a) (if was then a else b)).1, (lstep u (if was then b else a) (if was then a else b)).2, false) := by rw [lstate, hb]; cases was <;> rfl
      rw [hp]
      exact state_rep hu hu0 k t _ _ false hs.1 hs.2
theorem ladder_rep {P : EP} {u : F} (hu : Mrep P.y u 1) (hu0 : u ≠ 0) {k : Nat} (hk : k < 2 ^ 255) : ladder k u = uOf (Cp.mul k P).y := by
  have h := state_rep hu hu0 k 255 ⟨fn 1, 0⟩ ⟨u, fn 1⟩ false (by
    rw [Nat.div_eq_of_lt hk]
    show Mrep (1 : F) (fn 1) 0
    exact ⟨by decide +kernel, by decide +kernel⟩) (by
    rw [Nat.div_eq_of_lt hk]
    show Mrep ((Cp.zero : EP).add P).y u (fn 1)
    rw [Cp.zero_add]; exact hu)
  exact rep_u h
theorem base_u : Mrep base.y (fn 9) 1 := ⟨by decide +kernel, by decide +kernel⟩
theorem nine_ne : fn 9 ≠ 0 := by intro h; exact absurd (congrArg Fin.val h) (by decide +kernel)
/-- A number of a clamped secret: 8 times a number below L. -/
def Clm (k : Nat) : Prop := k < 2 ^ 255 ∧ ∃ m, k = 8 * m ∧ 0 < m ∧ m < Lq
theorem Clm.nd {k : Nat} (h : Clm k) : ¬ Lq ∣ k := by
  obtain ⟨_, m, rfl, h0, h1⟩ := h
  intro hd
  rcases prL.mul hd with h | h
  · have := Nat.le_of_dvd (by omega) h; unfold Lq at this; omega
  · have := Nat.le_of_dvd h0 h; omega
theorem nd_mul {a b : Nat} (ha : ¬ Lq ∣ a) (hb : ¬ Lq ∣ b) : ¬ Lq ∣ a * b := fun h => by
  rcases prL.mul h with h | h
  · exact ha h
  · exact hb h
theorem nd_two : ¬ Lq ∣ 2 := fun h => by have := Nat.le_of_dvd (by omega) h; unfold Lq at this; omega
theorem mul_y {n : Nat} (h : ¬ Lq ∣ n) : (Cp.mul n base).y ≠ 1 ∧ (Cp.mul n base).y ≠ -1 := by
  refine ⟨fun h1 => h (base_nil (y_one h1)), fun h1 => ?_⟩
  have h2 := y_less h1
  rw [← Cp.mul_add, ← Nat.mul_two] at h2
  exact nd_mul h nd_two (base_nil h2)
theorem agree {a b : Nat} (ha : Clm a) (hb : Clm b) : ladder a (ladder b (fn 9)) = uOf (Cp.mul (a * b) base).y ∧ ladder a (ladder b (fn 9)) ≠ 0 := by
  have e1 := ladder_rep base_u nine_ne hb.1
  obtain ⟨h1, h2⟩ := mul_y hb.nd
  have e2 := ladder_rep (P := Cp.mul b base) (u_rep h1) (u_ne h1 h2) ha.1
  rw [e1, e2, Cp.mul_mul]
  obtain ⟨h3, h4⟩ := mul_y (nd_mul ha.nd hb.nd)
  exact ⟨rfl, u_ne h3 h4⟩
theorem and248' : ∀ c : Nat, c < 256 → (UInt8.ofNat c &&& 248).toNat % 8 = 0 := by decide +kernel
theorem and127 : ∀ c : Nat, c < 256 → 64 ≤ (UInt8.ofNat c &&& 127 ||| 64).toNat ∧ (UInt8.ofNat c &&& 127 ||| 64).toNat < 128 := by decide +kernel
theorem clm_clamp (l : List UInt8) : Clm (leN (clampB l)) := by
  have hlen := clampB_len l
  have h8 : leN (clampB l) % 8 = 0 := by
    obtain ⟨c, r, hcr⟩ : ∃ c r, first l 32 = c :: r := by
      cases h : first l 32 with
      | nil => have := first_len l 32; rw [h] at this; simp at this
      | cons c r => exact ⟨c, r, rfl⟩
    unfold clampB
    rw [hcr]
    simp only [List.set_cons_zero, List.set_cons_succ, List.getD_cons_zero, leN]
    have := and248' c.toNat c.toNat_lt
    rw [UInt8.ofNat_toNat] at this
    omega
  have e := leN_take (clampB l) 31 (by omega)
  rw [List.take_of_length_le (by omega)] at e
  have hlt := leN_take_lt (clampB l) 31
  have h31 : 64 ≤ ((clampB l)[31]'(by omega)).toNat ∧ ((clampB l)[31]'(by omega)).toNat < 128 := by
    have h := and127 ((first l 32).getD 31 0).toNat (UInt8.toNat_lt _)
    rw [UInt8.ofNat_toNat] at h
    have e31 : (clampB l)[31]'(by omega) = ((first l 32).getD 31 0 &&& 127) ||| 64 := by
      unfold clampB
      rw [List.getElem_set_self]
    rw [e31]; exact h
  generalize leN (clampB l) = k at *
  generalize ((clampB l)[31]'(by omega)).toNat = c at *
  generalize leN ((clampB l).take 31) = r at *
  have p : (256 : Nat) ^ 31 = 452312848583266388373324160190187140051835877600158453279131187530910662656 := by decide +kernel
  rw [p] at e hlt
  have p2 : (2 : Nat) ^ 255 = 57896044618658097711785492504343953926634992332820282019728792003956564819968 := by decide +kernel
  refine ⟨?_, k / 8, by omega, ?_, ?_⟩
  · rw [p2]; omega
  · omega
  · unfold Lq; omega
theorem feF_9 : feF [9] = fn 9 := by decide +kernel
theorem xB_agree (a b : List UInt8) : xB a (xB b [9]) = xB b (xB a [9]) ∧ xB a (xB b [9]) ≠ List.replicate 32 0 := by
  obtain ⟨e1, n1⟩ := agree (clm_clamp a) (clm_clamp b)
  obtain ⟨e2, _⟩ := agree (clm_clamp b) (clm_clamp a)
  unfold xB
  rw [feF_leB, feF_leB, feF_9]
  refine ⟨by rw [e1, e2, Nat.mul_comm], fun h => n1 ?_⟩
  have h2 : leB 32 (ladder (leN (clampB a)) (ladder (leN (clampB b)) (fn 9))).val = leB 32 (0 : F).val := by rw [h]; decide +kernel
  exact leB_inj_F h2
theorem sh_agree {a b : List UInt8} (ha : a.length = 32) : shC a (xB b [9]) = 0 ∧ shB a (xB b [9]) = xB a (xB b [9]) ∧ xB b (xB a [9]) = xB a (xB b [9]) := by
  obtain ⟨h1, h2⟩ := xB_agree a b
  obtain ⟨e1, e2⟩ := shC_0 (l := a) (p := xB b [9]) ⟨ha, xB_len _ _⟩ h2
  exact ⟨e1, e2, h1.symm⟩
end Go.Proofs.Ytmoggjbnlimepaa
