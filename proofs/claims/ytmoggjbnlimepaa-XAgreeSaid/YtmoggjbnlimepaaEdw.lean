/- Plain: the complete twisted Edwards curve -x^2 + y^2 = 1 + d x^2 y^2 over a field: its points are a group; the ladder's step of the Montgomery curve; the curve of chapters 6, 8, 9 over the numbers mod p: its base point, of order L. No program in sight. -/
import Derived.Test.YtmoggjbnlimepaaNum
import Derived.Test.YtmoggjbnlimepaaAlg
namespace Go.Proofs.Ytmoggjbnlimepaa
section
variable {K : Type} [Lean.Grind.Field K]

/-- The point lies on the curve. -/
def onC (d x y : K) : Prop := y * y - x * x = 1 + d * x * x * y * y
theorem complete {d i x1 y1 x2 y2 e : K} (hi : i * i = -1) (hd : ∀ r : K, r * r ≠ d) (h2 : (2 : K) ≠ 0) (c1 : onC d x1 y1) (c2 : onC d x2 y2) (he : e * e = 1) : d * x1 * x2 * y1 * y2 ≠ e := by
  intro h
  unfold onC at c1 c2
  have hx : x1 * y1 ≠ 0 := by
    intro h0
    have : e = 0 := by rw [← h]; grind
    subst this
    grind
  have k1 : (i * x1 + e * y1) * (i * x1 + e * y1) = d * (x1 * y1 * (i * x2 + y2)) * (x1 * y1 * (i * x2 + y2)) := by grind
  have k2 : (i * x1 - e * y1) * (i * x1 - e * y1) = d * (x1 * y1 * (i * x2 - y2)) * (x1 * y1 * (i * x2 - y2)) := by grind
  have key : ∀ s t : K, s * s = d * (x1 * y1 * t) * (x1 * y1 * t) → t = 0 := by
    intro s t hs
    by_cases ht : t = 0
    · exact ht
    · exfalso
      apply hd (s * (x1 * y1 * t)⁻¹)
      have hn : x1 * y1 * t ≠ 0 := by grind
      have hm := Lean.Grind.Field.mul_inv_cancel hn
      generalize (x1 * y1 * t)⁻¹ = v at *
      generalize x1 * y1 * t = q at *
      grind
  have a1 := key _ _ k1
  have a2 := key _ _ k2
  have b1 : y2 = 0 := by
    have : (2 : K) * y2 = 0 := by grind
    rcases (by grind : (2 : K) = 0 ∨ y2 = 0) with h | h
    · exact absurd h h2
    · exact h
  subst b1
  have : e = 0 := by rw [← h]; grind
  subst this
  grind

/-- A curve. -/
structure Cu (K : Type) [Lean.Grind.Field K] where
  d : K
  i : K
  hi : i * i = -1
  hd : ∀ r : K, r * r ≠ d
  h2 : (2 : K) ≠ 0
/-- A point of it. -/
structure Cp (c : Cu K) where
  x : K
  y : K
  on : onC c.d x y
variable {c : Cu K}
theorem Cp.ext' {P Q : Cp c} (h1 : P.x = Q.x) (h2 : P.y = Q.y) : P = Q := by
  cases P; cases Q; simp at h1 h2; subst h1; subst h2; rfl
theorem Cp.one_ne (c : Cu K) : (1 : K) ≠ 0 := by
  have := c.h2
  grind
theorem Cp.plus (P Q : Cp c) : 1 + c.d * P.x * Q.x * P.y * Q.y ≠ 0 := by
  intro h
  exact complete (e := -1) c.hi c.hd c.h2 P.on Q.on (by grind) (by grind)
theorem Cp.minus (P Q : Cp c) : 1 - c.d * P.x * Q.x * P.y * Q.y ≠ 0 := by
  intro h
  exact complete (e := 1) c.hi c.hd c.h2 P.on Q.on (by grind) (by grind)
theorem closed {d x1 y1 x2 y2 u v : K} (c1 : onC d x1 y1) (c2 : onC d x2 y2) (hu : (1 + d * x1 * x2 * y1 * y2) * u = 1) (hv : (1 - d * x1 * x2 * y1 * y2) * v = 1) :
    onC d ((x1 * y2 + y1 * x2) * u) ((y1 * y2 + x1 * x2) * v) := by
  unfold onC at *
  have k : ((y1 * y2 + x1 * x2) * (1 + d * x1 * x2 * y1 * y2)) * ((y1 * y2 + x1 * x2) * (1 + d * x1 * x2 * y1 * y2)) - ((x1 * y2 + y1 * x2) * (1 - d * x1 * x2 * y1 * y2)) * ((x1 * y2 + y1 * x2) * (1 - d * x1 * x2 * y1 * y2))
      = (1 + d * x1 * x2 * y1 * y2) * (1 + d * x1 * x2 * y1 * y2) * (1 - d * x1 * x2 * y1 * y2) * (1 - d * x1 * x2 * y1 * y2) + d * ((x1 * y2 + y1 * x2) * (x1 * y2 + y1 * x2)) * ((y1 * y2 + x1 * x2) * (y1 * y2 + x1 * x2)) := by grind
  generalize x1 * y2 + y1 * x2 = A at *
  generalize y1 * y2 + x1 * x2 = C at *
  generalize 1 + d * x1 * x2 * y1 * y2 = B at *
  generalize 1 - d * x1 * x2 * y1 * y2 = D at *
  clear c1 c2
  have e1 : C * v * (C * v) - A * u * (A * u) = (C * B * (C * B) - A * D * (A * D)) * (u * u * v * v) := by grind
  have e2 : 1 + d * (A * u) * (A * u) * (C * v) * (C * v) = (B * B * D * D + d * (A * A) * (C * C)) * (u * u * v * v) := by grind
  rw [e1, e2, k]
/-- The sum. -/
def Cp.add (P Q : Cp c) : Cp c where
  x := (P.x * Q.y + P.y * Q.x) * (1 + c.d * P.x * Q.x * P.y * Q.y)⁻¹
  y := (P.y * Q.y + P.x * Q.x) * (1 - c.d * P.x * Q.x * P.y * Q.y)⁻¹
  on := closed P.on Q.on (Lean.Grind.Field.mul_inv_cancel (P.plus Q)) (Lean.Grind.Field.mul_inv_cancel (P.minus Q))
def Cp.zero : Cp c where
  x := 0
  y := 1
  on := by unfold onC; grind
def Cp.neg (P : Cp c) : Cp c where
  x := -P.x
  y := P.y
  on := by have := P.on; unfold onC at *; grind
/-- What a sum is, without fractions. -/
theorem Cp.add_x (P Q : Cp c) : (P.add Q).x * (1 + c.d * P.x * Q.x * P.y * Q.y) = P.x * Q.y + P.y * Q.x := by
  have h := Lean.Grind.Field.mul_inv_cancel (P.plus Q)
  show (P.x * Q.y + P.y * Q.x) * (1 + c.d * P.x * Q.x * P.y * Q.y)⁻¹ * _ = _
  generalize (1 + c.d * P.x * Q.x * P.y * Q.y)⁻¹ = u at *
  generalize 1 + c.d * P.x * Q.x * P.y * Q.y = B at *
  generalize P.x * Q.y + P.y * Q.x = A at *
  grind
theorem Cp.add_y (P Q : Cp c) : (P.add Q).y * (1 - c.d * P.x * Q.x * P.y * Q.y) = P.y * Q.y + P.x * Q.x := by
  have h := Lean.Grind.Field.mul_inv_cancel (P.minus Q)
  show (P.y * Q.y + P.x * Q.x) * (1 - c.d * P.x * Q.x * P.y * Q.y)⁻¹ * _ = _
  generalize (1 - c.d * P.x * Q.x * P.y * Q.y)⁻¹ = u at *
  generalize 1 - c.d * P.x * Q.x * P.y * Q.y = B at *
  generalize P.y * Q.y + P.x * Q.x = A at *
  grind
/-- A point that fulfils the law's equations is the sum. -/
theorem Cp.add_eq {P Q R : Cp c} (hx : R.x * (1 + c.d * P.x * Q.x * P.y * Q.y) = P.x * Q.y + P.y * Q.x) (hy : R.y * (1 - c.d * P.x * Q.x * P.y * Q.y) = P.y * Q.y + P.x * Q.x) : P.add Q = R := by
  have a1 := P.add_x Q
  have a2 := P.add_y Q
  have h1 := P.plus Q
  have h2 := P.minus Q
  apply Cp.ext'
  · have := Lean.Grind.Field.mul_inv_cancel h1
    generalize (1 + c.d * P.x * Q.x * P.y * Q.y)⁻¹ = u at *
    generalize 1 + c.d * P.x * Q.x * P.y * Q.y = B at *
    generalize (P.add Q).x = s at *
    generalize P.x * Q.y + P.y * Q.x = A at *
    grind
  · have := Lean.Grind.Field.mul_inv_cancel h2
    generalize (1 - c.d * P.x * Q.x * P.y * Q.y)⁻¹ = u at *
    generalize 1 - c.d * P.x * Q.x * P.y * Q.y = B at *
    generalize (P.add Q).y = s at *
    generalize P.y * Q.y + P.x * Q.x = A at *
    grind
theorem Cp.comm (P Q : Cp c) : P.add Q = Q.add P := by
  apply Cp.add_eq
  · have := Q.add_x P
    grind
  · have := Q.add_y P
    grind
theorem Cp.zero_add (P : Cp c) : Cp.zero.add P = P := by
  apply Cp.add_eq
  · show P.x * (1 + c.d * 0 * P.x * 1 * P.y) = 0 * P.y + 1 * P.x
    grind
  · show P.y * (1 - c.d * 0 * P.x * 1 * P.y) = 1 * P.y + 0 * P.x
    grind
theorem Cp.add_zero (P : Cp c) : P.add Cp.zero = P := by rw [Cp.comm, Cp.zero_add]
theorem Cp.add_neg (P : Cp c) : P.add P.neg = Cp.zero := by
  have h := P.on
  unfold onC at h
  apply Cp.add_eq
  · show 0 * (1 + c.d * P.x * (-P.x) * P.y * P.y) = P.x * P.y + P.y * (-P.x)
    grind
  · show 1 * (1 - c.d * P.x * (-P.x) * P.y * P.y) = P.y * P.y + P.x * (-P.x)
    grind
/-- Fractions that cross out alike are one. -/
theorem frac {a b m n s t : K} (hm : m ≠ 0) (hn : n ≠ 0) (h1 : s * m = a) (h2 : t * n = b) (h : a * n = b * m) : s = t := by
  have k1 := Lean.Grind.Field.mul_inv_cancel hm
  have k2 := Lean.Grind.Field.mul_inv_cancel hn
  generalize m⁻¹ = u at *
  generalize n⁻¹ = v at *
  grind
theorem assoc_x {d x1 y1 x2 y2 x3 y3 : K} (c1 : onC d x1 y1) (c2 : onC d x2 y2) (c3 : onC d x3 y3) :
    ((x1 * y2 + y1 * x2) * (1 - d * x1 * x2 * y1 * y2) * y3 + (y1 * y2 + x1 * x2) * (1 + d * x1 * x2 * y1 * y2) * x3) * ((1 + d * x2 * x3 * y2 * y3) * (1 - d * x2 * x3 * y2 * y3) + d * (x2 * y3 + y2 * x3) * (y2 * y3 + x2 * x3) * x1 * y1)
      = (x1 * ((y2 * y3 + x2 * x3) * (1 + d * x2 * x3 * y2 * y3)) + y1 * ((x2 * y3 + y2 * x3) * (1 - d * x2 * x3 * y2 * y3))) * ((1 + d * x1 * x2 * y1 * y2) * (1 - d * x1 * x2 * y1 * y2) + d * (x1 * y2 + y1 * x2) * (y1 * y2 + x1 * x2) * x3 * y3) := by
  unfold onC at *
  grind
theorem assoc_y {d x1 y1 x2 y2 x3 y3 : K} (c1 : onC d x1 y1) (c2 : onC d x2 y2) (c3 : onC d x3 y3) :
    ((y1 * y2 + x1 * x2) * (1 + d * x1 * x2 * y1 * y2) * y3 + (x1 * y2 + y1 * x2) * (1 - d * x1 * x2 * y1 * y2) * x3) * ((1 + d * x2 * x3 * y2 * y3) * (1 - d * x2 * x3 * y2 * y3) - d * (x2 * y3 + y2 * x3) * (y2 * y3 + x2 * x3) * x1 * y1)
      = (y1 * ((y2 * y3 + x2 * x3) * (1 + d * x2 * x3 * y2 * y3)) + x1 * ((x2 * y3 + y2 * x3) * (1 - d * x2 * x3 * y2 * y3))) * ((1 + d * x1 * x2 * y1 * y2) * (1 - d * x1 * x2 * y1 * y2) - d * (x1 * y2 + y1 * x2) * (y1 * y2 + x1 * x2) * x3 * y3) := by
  unfold onC at *
  grind
theorem mul_ne {a b : K} (ha : a ≠ 0) (hb : b ≠ 0) : a * b ≠ 0 := by grind
theorem Cp.assoc (P Q R : Cp c) : (P.add Q).add R = P.add (Q.add R) := by
  have a1 := P.add_x Q
  have a2 := P.add_y Q
  have b1 := Q.add_x R
  have b2 := Q.add_y R
  have n1 := P.plus Q
  have n2 := P.minus Q
  have n3 := Q.plus R
  have n4 := Q.minus R
  have f1 := (P.add Q).add_x R
  have f2 := (P.add Q).add_y R
  have g1 := P.add_x (Q.add R)
  have g2 := P.add_y (Q.add R)
  have m1 := (P.add Q).plus R
  have m2 := (P.add Q).minus R
  have m3 := P.plus (Q.add R)
  have m4 := P.minus (Q.add R)
  have hx := assoc_x P.on Q.on R.on
  have hy := assoc_y P.on Q.on R.on
  generalize ((P.add Q).add R) = S1 at *
  generalize (P.add (Q.add R)) = S2 at *
  generalize P.add Q = U at *
  generalize Q.add R = V at *
  generalize P.x * Q.y + P.y * Q.x = A at *
  generalize P.y * Q.y + P.x * Q.x = C at *
  generalize 1 + c.d * P.x * Q.x * P.y * Q.y = B at *
  generalize 1 - c.d * P.x * Q.x * P.y * Q.y = D at *
  generalize Q.x * R.y + Q.y * R.x = A' at *
  generalize Q.y * R.y + Q.x * R.x = C' at *
  generalize 1 + c.d * Q.x * R.x * Q.y * R.y = B' at *
  generalize 1 - c.d * Q.x * R.x * Q.y * R.y = D' at *
  subst a1 a2 b1 b2
  apply Cp.ext'
  · refine frac (mul_ne m1 (mul_ne n1 n2)) (mul_ne m3 (mul_ne n3 n4)) (a := (U.x * R.y + U.y * R.x) * (B * D)) (b := (P.x * V.y + P.y * V.x) * (B' * D')) (by rw [← f1]; clear hx hy f1 f2 g1 g2 m1 m2 m3 m4; grind) (by rw [← g1]; clear hx hy f1 f2 g1 g2 m1 m2 m3 m4; grind) ?_
    clear hy f1 f2 g1 g2 m1 m2 m3 m4 n1 n2 n3 n4
    grind
  · refine frac (mul_ne m2 (mul_ne n1 n2)) (mul_ne m4 (mul_ne n3 n4)) (a := (U.y * R.y + U.x * R.x) * (B * D)) (b := (P.y * V.y + P.x * V.x) * (B' * D')) (by rw [← f2]; clear hx hy f1 f2 g1 g2 m1 m2 m3 m4; grind) (by rw [← g2]; clear hx hy f1 f2 g1 g2 m1 m2 m3 m4; grind) ?_
    clear hx f1 f2 g1 g2 m1 m2 m3 m4 n1 n2 n3 n4
    grind
/-- So many times a point. -/
def Cp.mul : Nat → Cp c → Cp c
  | 0, _ => Cp.zero
  | n + 1, P => (Cp.mul n P).add P
theorem Cp.mul_add (m n : Nat) (P : Cp c) : Cp.mul (m + n) P = (Cp.mul m P).add (Cp.mul n P) := by
  induction n with
  | zero => exact (Cp.add_zero _).symm
  | succ n ih => show (Cp.mul (m + n) P).add P = _; rw [ih, Cp.assoc]; rfl
theorem Cp.mul_one (P : Cp c) : Cp.mul 1 P = P := Cp.zero_add P
theorem Cp.mul_zero (n : Nat) : Cp.mul n (Cp.zero : Cp c) = Cp.zero := by
  induction n with
  | zero => rfl
  | succ n ih => show (Cp.mul n _).add _ = _; rw [ih, Cp.zero_add]
theorem Cp.mul_mul (m n : Nat) (P : Cp c) : Cp.mul m (Cp.mul n P) = Cp.mul (m * n) P := by
  induction m with
  | zero => rw [Nat.zero_mul]; rfl
  | succ m ih => show (Cp.mul m _).add _ = _; rw [ih, Nat.succ_mul, Cp.mul_add]
theorem Cp.add4 (P Q R S : Cp c) : (P.add Q).add (R.add S) = (P.add R).add (Q.add S) := by
  rw [Cp.assoc, ← Cp.assoc Q, Cp.comm Q, Cp.assoc R, ← Cp.assoc P]
theorem Cp.mul_sum (n : Nat) (P Q : Cp c) : Cp.mul n (P.add Q) = (Cp.mul n P).add (Cp.mul n Q) := by
  induction n with
  | zero => exact (Cp.add_zero _).symm
  | succ n ih => show (Cp.mul n _).add _ = ((Cp.mul n P).add P).add ((Cp.mul n Q).add Q); rw [ih, Cp.add4]
theorem Cp.neg_add (P : Cp c) : P.neg.add P = Cp.zero := by rw [Cp.comm, Cp.add_neg]
theorem Cp.cancel {P Q R : Cp c} (h : P.add Q = P.add R) : Q = R := by
  have := congrArg (Cp.add P.neg) h
  rw [← Cp.assoc, ← Cp.assoc, Cp.neg_add, Cp.zero_add, Cp.zero_add] at this
  exact this
theorem Cp.neg_eq {P Q : Cp c} (h : P.add Q = Cp.zero) : Q = P.neg := Cp.cancel (by rw [h, Cp.add_neg])
theorem Cp.neg_neg (P : Cp c) : P.neg.neg = P := Cp.ext' (show - -P.x = P.x by grind) rfl
/-- Order: with L a multiple of nothing, and L prime, so many times is nothing just if L divides it. -/
theorem Cp.mul_mod {P : Cp c} {L : Nat} (h : Cp.mul L P = Cp.zero) (n : Nat) : Cp.mul n P = Cp.mul (n % L) P := by
  have e := Nat.div_add_mod n L
  rw [← e, Cp.mul_add, Nat.mul_comm, ← Cp.mul_mul, h, Cp.mul_zero, Cp.zero_add]
  rw [Nat.mul_comm, e]
end
/-! ### the ladder's step -/
section
variable {K : Type} [Lean.Grind.Field K]
/-- (X : Z) is the point whose second place is y. -/
def Mrep (y X Z : K) : Prop := X - Z = (X + Z) * y ∧ X + Z ≠ 0
theorem Mrep.dbl {c : Cu K} {a X Z : K} {P : Cp c} (ha : c.d * (a + 1) = -a) (h : Mrep P.y X Z) :
    Mrep (P.add P).y ((X + Z) * (X + Z) * ((X - Z) * (X - Z))) (((X + Z) * (X + Z) - (X - Z) * (X - Z)) * ((X + Z) * (X + Z) + ((X + Z) * (X + Z) - (X - Z) * (X - Z)) * a)) := by
  obtain ⟨h1, h2⟩ := h
  have on := P.on
  have hy := P.add_y P
  have hm := P.minus P
  unfold onC at on
  rw [h1]
  generalize X + Z = s at *
  generalize (P.add P).y = y' at *
  generalize P.x = x at *
  generalize P.y = y at *
  generalize c.d = d at *
  clear h1 X Z
  have g : 1 + d * y * y ≠ 0 := by
    intro h0
    have : x * x * (1 + d * y * y) = y * y - 1 := by grind
    rw [h0] at this
    have hyy : y * y = 1 := by grind
    have hd : d = -1 := by grind
    subst hd
    have : (1 : K) = 0 := by grind
    exact Cp.one_ne c this
  have ha1 : a + 1 ≠ 0 := by
    intro h0
    rw [h0] at ha
    have : (1 : K) = 0 := by grind
    exact Cp.one_ne c this
  have k : 1 + a * ((1 - y * y) * (1 - y * y)) = (a + 1) * (1 + d * y * y) * (1 - d * x * x * y * y) := by grind
  have hn : 1 + a * ((1 - y * y) * (1 - y * y)) ≠ 0 := by rw [k]; exact mul_ne (mul_ne ha1 g) hm
  have e1 : s * s * (s * y * (s * y)) + (s * s - s * y * (s * y)) * (s * s + (s * s - s * y * (s * y)) * a) = (s * s * s * s) * (1 + a * ((1 - y * y) * (1 - y * y))) := by grind
  constructor
  · rw [e1, k]
    have e2 : (s * s * s * s) * ((a + 1) * (1 + d * y * y) * (1 - d * x * x * y * y)) * y' = (s * s * s * s) * ((a + 1) * (1 + d * y * y) * (y * y + x * x)) := by rw [← hy]; grind
    rw [e2]
    have e3 : y * y - (1 - y * y) * (1 + (1 - y * y) * a) = (a + 1) * (1 + d * y * y) * (y * y + x * x) := by
      clear e2 e1 k hn hy hm
      grind
    rw [← e3]; grind
  · rw [e1]; exact mul_ne (by grind) hn
theorem Mrep.dif {c : Cu K} {u X Z X' Z' : K} {P Q D : Cp c} (hQ : P.add D = Q) (hu : Mrep D.y u 1) (hu0 : u ≠ 0) (h : Mrep P.y X Z) (h' : Mrep Q.y X' Z') :
    Mrep (P.add Q).y (((X' - Z') * (X + Z) + (X' + Z') * (X - Z)) * ((X' - Z') * (X + Z) + (X' + Z') * (X - Z))) (u * (((X' - Z') * (X + Z) - (X' + Z') * (X - Z)) * ((X' - Z') * (X + Z) - (X' + Z') * (X - Z)))) := by
  obtain ⟨h1, h2⟩ := h
  obtain ⟨h1', h2'⟩ := h'
  obtain ⟨hu1, hu2⟩ := hu
  have hD : P.neg.add Q = D := by rw [← hQ, ← Cp.assoc, Cp.neg_add, Cp.zero_add]
  have p := P.on
  have q := Q.on
  have a1 := P.add_y Q
  have a2 := P.neg.add_y Q
  rw [hD] at a2
  have m1 := P.minus Q
  have m2 := P.plus Q
  have h20 := c.h2
  simp only [Cp.neg] at a2
  unfold onC at p q
  rw [h1, h1']
  generalize X + Z = s at *
  generalize X' + Z' = s' at *
  generalize (P.add Q).y = ys at *
  generalize D.y = yd at *
  generalize P.x = x at *
  generalize P.y = y at *
  generalize Q.x = x' at *
  generalize Q.y = y' at *
  generalize c.d = d at *
  clear h1 h1' hQ hD
  have a2' : yd * (1 + d * x * x' * y * y') = y * y' - x * x' := by
    clear p q m1 m2 h20 hu0 hu1 hu2 a1
    have e : d * -x * x' * y * y' = -(d * x * x' * y * y') := by clear a2; grind
    rw [e] at a2
    generalize d * x * x' * y * y' = t at *
    grind
  clear a2
  have e1 : s' * y' * s + s' * (s * y) = s * s' * (y + y') := by grind
  have e2 : s' * y' * s - s' * (s * y) = s * s' * (y' - y) := by grind
  rw [e1, e2]
  have hu3 : u * (1 - yd) = 1 + yd := by grind
  have hyd : 1 - yd ≠ 0 := by
    intro h0
    rw [h0] at hu3
    have : (2 : K) = 0 := by grind
    exact h20 this
  -- the law, without fractions
  have key : (y + y') * (y + y') * (1 - yd) * (1 - ys) = (y' - y) * (y' - y) * (1 + yd) * (1 + ys) := by
    have t1 : (1 - yd) * (1 + d * x * x' * y * y') = 1 + d * x * x' * y * y' - y * y' + x * x' := by clear p q m1 m2 h20 hu0 hu1 hu2 hu3 hyd e1 e2 a1; generalize d * x * x' * y * y' = t at *; grind
    have t2 : (1 + yd) * (1 + d * x * x' * y * y') = 1 + d * x * x' * y * y' + y * y' - x * x' := by clear p q m1 m2 h20 hu0 hu1 hu2 hu3 hyd e1 e2 a1; generalize d * x * x' * y * y' = t at *; grind
    have t3 : (1 - ys) * (1 - d * x * x' * y * y') = 1 - d * x * x' * y * y' - y * y' - x * x' := by clear p q m1 m2 h20 hu0 hu1 hu2 hu3 hyd e1 e2 a2'; generalize d * x * x' * y * y' = t at *; grind
    have t4 : (1 + ys) * (1 - d * x * x' * y * y') = 1 - d * x * x' * y * y' + y * y' + x * x' := by clear p q m1 m2 h20 hu0 hu1 hu2 hu3 hyd e1 e2 a2'; generalize d * x * x' * y * y' = t at *; grind
    have k0 : (y + y') * (y + y') * ((1 + d * x * x' * y * y' - y * y' + x * x') * (1 - d * x * x' * y * y' - y * y' - x * x')) = (y' - y) * (y' - y) * ((1 + d * x * x' * y * y' + y * y' - x * x') * (1 - d * x * x' * y * y' + y * y' + x * x')) := by
      clear t1 t2 t3 t4 a1 a2' hu3 hyd hu1
      grind
    rw [← t1, ← t2, ← t3, ← t4] at k0
    generalize 1 + d * x * x' * y * y' = B at *
    generalize 1 - d * x * x' * y * y' = D at *
    generalize (y + y') * (y + y') = g1 at *
    generalize (y' - y) * (y' - y) = g2 at *
    generalize 1 - yd = b1 at *
    generalize 1 + yd = b2 at *
    generalize 1 - ys = b3 at *
    generalize 1 + ys = b4 at *
    clear t1 t2 t3 t4 a1 a2' hu3 hyd hu1 p q
    have k1 : (g1 * b1 * b3 - g2 * b2 * b4) * (B * D) = 0 := by grind
    have hBD := mul_ne m2 m1
    have := Lean.Grind.Field.mul_inv_cancel hBD
    generalize (B * D)⁻¹ = v at *
    generalize B * D = w at *
    grind
  have main : (y + y') * (y + y') * (1 - ys) = u * ((y' - y) * (y' - y)) * (1 + ys) := by
    rw [← hu3] at key
    have := Lean.Grind.Field.mul_inv_cancel hyd
    generalize (1 - yd)⁻¹ = v at *
    generalize 1 - yd = w at *
    generalize (y + y') * (y + y') = g1 at *
    generalize (y' - y) * (y' - y) = g2 at *
    generalize 1 - ys = b3 at *
    generalize 1 + ys = b4 at *
    clear p q a1 a2' hu1 hu3 m1 m2
    grind
  have hss := mul_ne h2 h2'
  generalize s * s' = r at *
  clear key e1 e2 h2 h2'
  constructor
  · clear p q a1 a2' hu1 hu3 m1 m2
    grind
  · intro h0
    have h3 : (y + y') * (y + y') + u * ((y' - y) * (y' - y)) = 0 := by
      have h4 : (r * r) * ((y + y') * (y + y') + u * ((y' - y) * (y' - y))) = 0 := by rw [← h0]; grind
      have hrr := mul_ne hss hss
      generalize (y + y') * (y + y') + u * ((y' - y) * (y' - y)) = g at *
      generalize r * r = r2 at *
      clear main h0 p q a1 a2' hu1 hu3
      grind
    have h5 : (2 : K) * ((y + y') * (y + y')) = 0 := by clear p q a1 a2' hu1 hu3; grind
    have h6 : (y + y') * (y + y') = 0 := by
      generalize (y + y') * (y + y') = g at *
      clear main h0 p q a1 a2' hu1 hu3 h3
      grind
    have h7 : y + y' = 0 := by clear main h0 p q a1 a2' hu1 hu3 h3 h5; grind
    rw [h6] at h3
    have h8 : y' - y = 0 := by clear main h0 p q a1 a2' hu1 hu3 h5 h6; grind
    have h9 : y = 0 := by
      have : (2 : K) * y = 0 := by grind
      clear main h0 p q a1 a2' hu1 hu3 h5 h6 h3
      grind
    have h10 : y' = 0 := by rw [h9] at h8; grind
    subst h9 h10
    have i1 : x * x = -1 := by grind
    have i2 : x' * x' = -1 := by grind
    have i3 : yd = - (x * x') := by grind
    have i4 : yd * yd = 1 := by rw [i3]; grind
    have i5 : (1 - yd) * (1 + yd) = 0 := by grind
    have i6 : 1 + yd = 0 := by
      generalize 1 + yd = b2 at *
      generalize 1 - yd = b1 at *
      clear main h0 p q a1 a2' hu1 h5 h6 h3 i1 i2 i3 i4
      grind
    rw [i6] at hu3
    generalize 1 - yd = b1 at *
    clear main h0 p q a1 a2' hu1 h5 h6 h3 i1 i2 i3 i4
    grind
end
/-! ### the curve -/

def dE : F := fn 37095705934669439343138083508754565189542113879843219016388785533085940283555
theorem dE_eq : dE * (fn 121665 + 1) = -fn 121665 := by decide +kernel
theorem dE_non : fpow dE exp2 ≠ 1 := by
  intro h
  have h1 := congrArg Fin.val h
  rw [fpow_val, ← powMod_spec Pq 256 dE.val exp2 (by decide +kernel)] at h1
  exact absurd h1 (by decide +kernel)
theorem two_ne : (2 : F) ≠ 0 := by intro h; exact absurd (congrArg Fin.val h) (by decide)
theorem dE_sq (r : F) : r * r ≠ dE := by
  intro h
  have hr : r ≠ 0 := by
    rintro rfl
    exact absurd (congrArg Fin.val h) (by decide +kernel)
  apply dE_non
  rw [← h, fpow_mul_base, ← fpow_add, exp_two, fermatF hr]
/-- The curve. -/
def cuE : Cu F where
  d := dE
  i := sqm1
  hi := sqm1_sq
  hd := dE_sq
  h2 := two_ne
abbrev EP := Cp cuE
def baseX : F := fn 15112221349535400772501151409588531511454012693041857206046113283949847762202
def baseY : F := fn 46316835694926478169428394003475163141307993866256225615783033603165251855960
def base : EP where
  x := baseX
  y := baseY
  on := by unfold onC; decide +kernel
/-! ### points by three numbers -/
section
variable {K : Type} [Lean.Grind.Field K] {c : Cu K}
/-- x is X / Z, y is Y / Z. -/
structure Prep (P : Cp c) (X Y Z : K) : Prop where
  z : Z ≠ 0
  x : X = P.x * Z
  y : Y = P.y * Z
theorem Prep.add {P Q : Cp c} {X Y Z X' Y' Z' : K} (h : Prep P X Y Z) (h' : Prep Q X' Y' Z') :
    Prep (P.add Q) (Z * Z' * (Z * Z' * (Z * Z') - c.d * (X * X' * (Y * Y'))) * (X * Y' + X' * Y)) (Z * Z' * (Z * Z' * (Z * Z') + c.d * (X * X' * (Y * Y'))) * (Y * Y' + X * X')) ((Z * Z' * (Z * Z') - c.d * (X * X' * (Y * Y'))) * (Z * Z' * (Z * Z') + c.d * (X * X' * (Y * Y')))) := by
  obtain ⟨hz, rfl, rfl⟩ := h
  obtain ⟨hz', rfl, rfl⟩ := h'
  have h1 := P.plus Q
  have h2 := P.minus Q
  have e1 := P.add_x Q
  have e2 := P.add_y Q
  generalize hR : (P.add Q) = R at *
  have f1 : Z * Z' * (Z * Z') - c.d * (P.x * Z * (Q.x * Z') * (P.y * Z * (Q.y * Z'))) = (Z * Z') * (Z * Z') * (1 - c.d * P.x * Q.x * P.y * Q.y) := by
    clear e1 e2 h1 h2 hz hz'; grind
  have f2 : Z * Z' * (Z * Z') + c.d * (P.x * Z * (Q.x * Z') * (P.y * Z * (Q.y * Z'))) = (Z * Z') * (Z * Z') * (1 + c.d * P.x * Q.x * P.y * Q.y) := by
    clear e1 e2 h1 h2 hz hz' f1; grind
  rw [f1, f2]
  have hzz := mul_ne hz hz'
  generalize 1 + c.d * P.x * Q.x * P.y * Q.y = B at *
  generalize 1 - c.d * P.x * Q.x * P.y * Q.y = D at *
  have g1 : P.x * Z * (Q.y * Z') + Q.x * Z' * (P.y * Z) = (Z * Z') * (P.x * Q.y + P.y * Q.x) := by clear e1 e2 h1 h2 hz hz' f1 f2 hzz hR; grind
  have g2 : P.y * Z * (Q.y * Z') + P.x * Z * (Q.x * Z') = (Z * Z') * (P.y * Q.y + P.x * Q.x) := by clear e1 e2 h1 h2 hz hz' f1 f2 hzz hR g1; grind
  rw [g1, g2, ← e1, ← e2]
  generalize Z * Z' = z at *
  refine ⟨?_, ?_, ?_⟩
  · exact mul_ne (mul_ne (mul_ne hzz hzz) h2) (mul_ne (mul_ne hzz hzz) h1)
  · clear e1 e2 h1 h2 hz hz' f1 f2 hzz hR g1 g2; grind
  · clear e1 e2 h1 h2 hz hz' f1 f2 hzz hR g1 g2; grind
theorem Prep.zero : Prep (Cp.zero : Cp c) 0 1 1 := ⟨Cp.one_ne c, by show (0 : K) = 0 * 1; grind, by show (1 : K) = 1 * 1; grind⟩
theorem Prep.one (P : Cp c) : Prep P P.x P.y 1 := ⟨Cp.one_ne c, by grind, by grind⟩
end
/-- The number is reckoned ahead of what follows. -/
def frn {α : Type} (n : Nat) (k : Nat → α) : α := Nat.rec (k 0) (fun m _ => k (Nat.succ m)) n
theorem frn_eq {α : Type} (n : Nat) (k : Nat → α) : frn n k = k n := by cases n <;> rfl
def mulQ (a b : Nat) : Nat := a * b % Pq
def addQ (a b : Nat) : Nat := (a + b) % Pq
def subQ (a b : Nat) : Nat := (Pq - b + a) % Pq
/-- A sum, on plain numbers. -/
def addN {α : Type} (X Y Z X' Y' Z' : Nat) (k : Nat → Nat → Nat → α) : α :=
  frn (mulQ Z Z') fun z => frn (mulQ z z) fun zz => frn (mulQ X X') fun x => frn (mulQ Y Y') fun y => frn (mulQ dE.val (mulQ x y)) fun e =>
  frn (subQ zz e) fun f => frn (addQ zz e) fun g => frn (addQ (mulQ X Y') (mulQ X' Y)) fun h =>
  frn (mulQ (mulQ z f) h) fun X3 => frn (mulQ (mulQ z g) (addQ y x)) fun Y3 => frn (mulQ f g) fun Z3 => k X3 Y3 Z3
theorem fsub_val' (x y : F) : (x - y).val = (Pq - y.val + x.val) % Pq := rfl
theorem addN_eq {α : Type} (X Y Z X' Y' Z' : F) (k : Nat → Nat → Nat → α) :
    addN X.val Y.val Z.val X'.val Y'.val Z'.val k = k (Z * Z' * (Z * Z' * (Z * Z') - dE * (X * X' * (Y * Y'))) * (X * Y' + X' * Y)).val (Z * Z' * (Z * Z' * (Z * Z') + dE * (X * X' * (Y * Y'))) * (Y * Y' + X * X')).val ((Z * Z' * (Z * Z') - dE * (X * X' * (Y * Y'))) * (Z * Z' * (Z * Z') + dE * (X * X' * (Y * Y')))).val := by
  simp only [addN, frn_eq]
  rfl
/-- So many times the base, on plain numbers. -/
def mulN : Nat → Nat → Nat × Nat × Nat
  | 0, _ => (0, 1, 1)
  | f + 1, n => if n = 0 then (0, 1, 1) else
    match mulN f (n / 2) with
    | (X, Y, Z) => addN X Y Z X Y Z fun X Y Z => if n % 2 = 1 then addN X Y Z baseX.val baseY.val 1 fun X Y Z => (X, Y, Z) else (X, Y, Z)
theorem mulN_ok : ∀ f n, n < 2 ^ f → ∃ X Y Z : F, mulN f n = (X.val, Y.val, Z.val) ∧ Prep (Cp.mul n base) X Y Z
  | 0, n, h => by
    obtain rfl : n = 0 := by simp at h; exact h
    exact ⟨0, 1, 1, rfl, Prep.zero⟩
  | f + 1, n, h => by
    by_cases h0 : n = 0
    · subst h0
      exact ⟨0, 1, 1, by rw [mulN, if_pos rfl]; rfl, Prep.zero⟩
    · obtain ⟨X, Y, Z, e, hp⟩ := mulN_ok f (n / 2) (by rw [Nat.pow_succ] at h; omega)
      rw [mulN, if_neg h0, e]
      simp only [addN_eq]
      have h2 := hp.add hp
      rw [← Cp.mul_add] at h2
      by_cases h1 : n % 2 = 1
      · rw [if_pos h1]
        have h3 := h2.add (Prep.one base)
        have e0 : ∀ q, n = q + q + 1 → Cp.mul n base = (Cp.mul (q + q) base).add base := fun q hq => by subst hq; rfl
        have e1 := e0 (n / 2) (by omega)
        rw [e1]
        exact ⟨_, _, _, addN_eq _ _ _ baseX baseY 1 _, h3⟩
      · rw [if_neg h1]
        have e0 : n / 2 + n / 2 = n := by omega
        rw [e0] at h2
        exact ⟨_, _, _, rfl, h2⟩
theorem base_L : Cp.mul Lq base = Cp.zero := by
  obtain ⟨X, Y, Z, e, hp⟩ := mulN_ok 253 Lq (by decide +kernel)
  have h : (mulN 253 Lq).1 = 0 ∧ (mulN 253 Lq).2.1 = (mulN 253 Lq).2.2 := by decide +kernel
  rw [e] at h
  obtain ⟨h1, h2⟩ := h
  have hX : X = 0 := F.ext' h1
  have hY : Y = Z := F.ext' h2
  obtain ⟨hz, hx, hy⟩ := hp
  rw [hX] at hx
  rw [hY] at hy
  apply Cp.ext'
  · show _ = (0 : F)
    generalize (Cp.mul Lq base).x = x at *
    rcases F.dom (hx.symm) with h | h
    · exact h
    · exact absurd h hz
  · show _ = (1 : F)
    generalize (Cp.mul Lq base).y = y at *
    have h : (y - 1) * Z = 0 := by clear hz hx h1 h2 e hX hY; grind
    rcases F.dom h with h | h
    · clear hy hx h1 h2 e hX hY hz; grind
    · exact absurd h hz
theorem prL : Pr Lq := by unfold Lq; exact pr_7237005577332262213973186563042994240857116359379907606001950938285454250989
theorem base_ne : base ≠ Cp.zero := by
  intro h
  have := congrArg Cp.x h
  exact absurd (congrArg Fin.val this) (by decide +kernel)
/-- So many times the base is nothing just if L divides it. -/
theorem base_nil {n : Nat} (h : Cp.mul n base = Cp.zero) : Lq ∣ n := by
  rcases Nat.eq_zero_or_pos (n % Lq) with h0 | h0
  · exact Nat.dvd_of_mod_eq_zero h0
  · exfalso
    have hnd : ¬ Lq ∣ n := fun hd => by rw [Nat.mod_eq_zero_of_dvd hd] at h0; omega
    have hf := fermat prL n hnd
    have e0 : ∀ q : Nat, 2 ≤ q → n ^ (q - 1) = n ^ (q - 2) * n := fun q hq => by rw [← Nat.pow_succ]; congr 1; omega
    have e := e0 Lq (by unfold Lq; omega)
    clear e0
    apply base_ne
    have h1 : Cp.mul (n ^ (Lq - 2) * n) base = Cp.zero := by rw [← Cp.mul_mul, h, Cp.mul_zero]
    rw [Cp.mul_mod base_L, ← e, hf, Cp.mul_one] at h1
    exact h1
end Go.Proofs.Ytmoggjbnlimepaa
