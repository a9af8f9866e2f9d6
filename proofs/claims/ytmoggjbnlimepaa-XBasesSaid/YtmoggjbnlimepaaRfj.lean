/- The walks of the document's own field, seventh part: products. -/
import Derived.Test.YtmoggjbnlimepaaRfi
namespace Go.Proofs.Ytmoggjbnlimepaa
open Go.RowKit

/-- A row, one limb written. -/
def updF (c : Nat → Nat) (m v i : Nat) : Nat := if i = m then v else c i
theorem updF_row (n : Nat) (c : Nat → Nat) (m v : Nat) : (row n (fV c)).set m (.int .u64 (v : Nat)) = row n (fV (updF c m v)) :=
  row_set m _ (by simp [fV, updF]) (fun i _ hi => by simp [fV, updF, hi])
theorem v16_upd (c : Nat → Nat) (m a : Nat) : ∀ n, m < n → v16 (updF c m (c m + a)) n = v16 c n + a * 65536 ^ m
  | 0, h => by omega
  | n + 1, h => by
    by_cases e : m = n
    · subst e
      have h1 : v16 (updF c m (c m + a)) m = v16 c m := v16_congr m fun i hi => by unfold updF; rw [if_neg (by omega)]
      simp only [v16]
      rw [h1]
      simp only [updF, if_true]
      rw [Nat.add_mul]; omega
    · have ih := v16_upd c m a n (by omega)
      simp only [v16]
      rw [ih]
      simp only [updF, if_neg (fun x : n = m => e x.symm)]
      omega
theorem v16_succ (f : Nat → Nat) (n : Nat) : v16 f (n + 1) = v16 f n + f n * 65536 ^ n := rfl
def MM : Nat := 4294836225
theorem prod_le (x y i k : Nat) : d16 x i * d16 y k ≤ MM := by
  have h1 := d16_lt x i; have h2 := d16_lt y k
  exact Nat.le_trans (Nat.mul_le_mul (show d16 x i ≤ 65535 by omega) (show d16 y k ≤ 65535 by omega)) (by decide)
/-- What the inner loop keeps. -/
structure MulIn (f g c : Nat → Nat) (i k : Nat) : Prop where
  lo : ∀ j, c j ≤ (i + 1) * MM
  hi : ∀ j, i + k ≤ j → c j ≤ i * MM
  v : v16 c 32 = v16 f i * v16 g 16 + f i * 65536 ^ i * v16 g k
structure MulOut (f g c : Nat → Nat) (i : Nat) : Prop where
  lo : ∀ j, c j ≤ i * MM
  v : v16 c 32 = v16 f i * v16 g 16
theorem MulOut.start (f g : Nat → Nat) : MulOut f g (fun _ => 0) 0 := ⟨fun _ => by omega, by rw [show v16 f 0 = 0 from rfl, Nat.zero_mul]; rfl⟩
theorem MulOut.into {f g c : Nat → Nat} {i : Nat} (h : MulOut f g c i) : MulIn f g c i 0 :=
  ⟨fun j => Nat.le_trans (h.lo j) (Nat.mul_le_mul_right _ (by omega)), fun j _ => h.lo j, by rw [h.v, show v16 g 0 = 0 from rfl, Nat.mul_zero, Nat.add_zero]⟩
theorem MulIn.step {f g c : Nat → Nat} {i k : Nat} (h : MulIn f g c i k) (hk : k < 16) (hi : i < 16) (hp : f i * g k ≤ MM) : MulIn f g (updF c (i + k) (c (i + k) + f i * g k)) i (k + 1) := by
  have e : (i + 1) * MM = i * MM + MM := by rw [Nat.add_mul, Nat.one_mul]
  refine ⟨fun j => ?_, fun j hj => ?_, ?_⟩
  · unfold updF
    split
    · have := h.hi (i + k) (Nat.le_refl _); omega
    · exact h.lo j
  · unfold updF
    rw [if_neg (by omega)]
    exact h.hi j (by omega)
  · rw [v16_upd _ _ _ _ (by omega), h.v, v16_succ g k, Nat.pow_add]
    generalize v16 f i * v16 g 16 = A
    generalize v16 g k = B
    generalize 65536 ^ i = C
    generalize 65536 ^ k = D
    rw [Nat.mul_add, Nat.add_assoc]
    congr 2
    grind
theorem MulIn.out {f g c : Nat → Nat} {i : Nat} (h : MulIn f g c i 16) : MulOut f g c (i + 1) :=
  ⟨h.lo, by rw [h.v, v16_succ f i, Nat.add_mul]⟩
/-- The high half folded down. -/
def fldF (c : Nat → Nat) (i : Nat) : Nat := c i + 38 * c (i + 16)
theorem v16_append (c : Nat → Nat) (m : Nat) : ∀ n, v16 c (m + n) = v16 c m + 65536 ^ m * v16 (fun i => c (i + m)) n
  | 0 => by simp [v16]
  | n + 1 => by
    show v16 c (m + n) + c (m + n) * 65536 ^ (m + n) = _
    rw [v16_append c m n]
    simp only [v16]
    rw [Nat.pow_add, Nat.add_comm n m]
    grind
theorem fldF_v (c : Nat → Nat) : v16 (fldF c) 16 % Pq = v16 c 32 % Pq := by
  rw [show v16 c 32 = v16 c (16 + 16) from rfl, v16_append c 16 16]
  rw [show fldF c = fun i => c i + (fun i => 38 * (fun i => c (i + 16)) i) i from rfl, v16_add, v16_mul]
  generalize v16 (fun i => c (i + 16)) 16 = H
  generalize v16 c 16 = L
  rw [Nat.add_mod L (65536 ^ 16 * H), Nat.mul_mod, show (65536 ^ 16 : Nat) % Pq = 38 from by decide +kernel, Nat.add_mod L (38 * H), Nat.mul_mod 38 H, show 38 % Pq = 38 from by decide +kernel]
theorem MulOut.fin {x y : F} {c : Nat → Nat} (h : MulOut (d16 x.val) (d16 y.val) c 16) : v16 (fldF c) 16 % Pq = (x * y).val := by
  rw [fldF_v, h.v, d16_v x.isLt, d16_v y.isLt]; rfl
theorem fld_le {c : Nat → Nat} (h : ∀ j, c j ≤ 16 * MM) (i : Nat) : fldF c i ≤ 17592186044416 := by
  have h1 := h i; have h2 := h (i + 16); unfold fldF; unfold MM at *; omega
end Go.Proofs.Ytmoggjbnlimepaa
