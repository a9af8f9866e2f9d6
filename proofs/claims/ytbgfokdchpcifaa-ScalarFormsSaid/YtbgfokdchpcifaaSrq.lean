/- Plain numbers: sums and products byte by byte, the greatest first. No program in sight. -/
import Derived.Test.YtbgfokdchpcifaaFil
import Derived.Test.YtbgfokdchpcifaaSrn
namespace Go.Proofs.Ytbgfokdchpcifaa
open Go.RowKit

theorem rowB (n x : Nat) : row n (uV (bR n x)) = ((leB n x).reverse).map bV := by
  apply List.ext_getElem
  · simp [row, leB_len]
  · intro i h1 h2
    have hi : i < n := by simpa [row] using h1
    simp only [row, List.getElem_map, List.getElem_range, List.getElem_reverse, leB_get, leB_len, bV, uV, bR, dB, UInt8.toNat_ofNat']
    rw [p256]
theorem beN_leB (n x : Nat) : beN ((leB n x).reverse) = x % 256 ^ n := by
  unfold beN; rw [List.reverse_reverse, leN_leB, p256]
/-- The carry of a sum into byte m. -/
def cyB (a b m : Nat) : Nat := (a % 256 ^ m + b % 256 ^ m) / 256 ^ m
theorem cyB_zero (a b : Nat) : cyB a b 0 = 0 := by simp [cyB, Nat.mod_one]
theorem cyB_le (a b m : Nat) : cyB a b m ≤ 1 := by
  have h1 := Nat.mod_lt a (pow256 m); have h2 := Nat.mod_lt b (pow256 m)
  unfold cyB
  have : (a % 256 ^ m + b % 256 ^ m) / 256 ^ m < 2 := by rw [Nat.div_lt_iff_lt_mul (pow256 m)]; omega
  omega
theorem add_div256 (a b m : Nat) : (a + b) / 256 ^ m = a / 256 ^ m + b / 256 ^ m + cyB a b m := by
  have ea := Nat.div_add_mod a (256 ^ m)
  have eb := Nat.div_add_mod b (256 ^ m)
  have : a + b = (a % 256 ^ m + b % 256 ^ m) + 256 ^ m * (a / 256 ^ m + b / 256 ^ m) := by rw [Nat.mul_add]; omega
  rw [this, Nat.add_mul_div_left _ _ (pow256 m), Nat.add_comm]; rfl
theorem add_step (a b m : Nat) : dB (a + b) m = (dB a m + dB b m + cyB a b m) % 256 ∧ cyB a b (m + 1) = (dB a m + dB b m + cyB a b m) / 256 := by
  have e1 := add_div256 a b m
  have e2 := add_div256 a b (m + 1)
  have e3 := div_succ256 a m
  have e4 := div_succ256 b m
  have e5 := div_succ256 (a + b) m
  have h1 := cyB_le a b m
  have h2 := cyB_le a b (m + 1)
  unfold dB
  generalize cyB a b m = c at *
  generalize cyB a b (m + 1) = c' at *
  generalize (a + b) / 256 ^ (m + 1) = s' at *
  generalize (a + b) / 256 ^ m = s at *
  generalize a / 256 ^ (m + 1) = a' at *
  generalize b / 256 ^ (m + 1) = b' at *
  generalize a / 256 ^ m = x at *
  generalize b / 256 ^ m = y at *
  constructor <;> omega
theorem add_top {a b : Nat} (ha : a < 256 ^ 32) (hb : b < 256 ^ 32) : dB (a + b) 32 = cyB a b 32 := by
  have e := add_div256 a b 32
  have := cyB_le a b 32
  rw [Nat.div_eq_of_lt ha, Nat.div_eq_of_lt hb] at e
  unfold dB
  omega
/-- The value of a row, the greatest first. -/
def hv (f : Nat → Nat) : Nat → Nat
  | 0 => 0
  | n + 1 => 256 * hv f n + f n
theorem hv_congr {f g : Nat → Nat} : ∀ n, (∀ i, i < n → f i = g i) → hv f n = hv g n
  | 0, _ => rfl
  | n + 1, h => by simp only [hv]; rw [hv_congr n (fun i hi => h i (by omega)), h n (by omega)]
def updN (c : Nat → Nat) (m v i : Nat) : Nat := if i = m then v else c i
theorem hv_upd (c : Nat → Nat) (m a : Nat) : ∀ n, hv (updN c m (c m + a)) (m + 1 + n) = hv c (m + 1 + n) + a * 256 ^ n
  | 0 => by
    show 256 * hv (updN c m (c m + a)) m + updN c m (c m + a) m = 256 * hv c m + c m + a * 256 ^ 0
    rw [hv_congr (f := updN c m (c m + a)) (g := c) m (fun i hi => by unfold updN; rw [if_neg (by omega)])]
    simp only [updN, if_true]; omega
  | n + 1 => by
    show 256 * hv (updN c m (c m + a)) (m + 1 + n) + updN c m (c m + a) (m + 1 + n) = 256 * hv c (m + 1 + n) + c (m + 1 + n) + a * 256 ^ (n + 1)
    rw [hv_upd c m a n, Nat.pow_succ]
    simp only [updN, if_neg (show ¬ m + 1 + n = m by omega)]
    grind
theorem hv_bR (n x : Nat) : ∀ k, k ≤ n → hv (bR n x) k = x / 256 ^ (n - k) % 256 ^ k
  | 0, _ => by simp [hv, Nat.mod_one]
  | k + 1, h => by
    rw [hv, hv_bR n x k (by omega)]
    unfold bR dB
    rw [show n - k = (n - (k + 1)) + 1 by omega, div_succ256, show n - 1 - k = n - (k + 1) by omega]
    generalize x / 256 ^ (n - (k + 1)) = q
    rw [Nat.pow_succ, Nat.mul_comm (256 ^ k) 256, Nat.mod_mul]
    omega
theorem hv_full {n x : Nat} (h : x < 256 ^ n) : hv (bR n x) n = x := by
  rw [hv_bR n x n (Nat.le_refl _), Nat.sub_self, Nat.pow_zero, Nat.div_one, Nat.mod_eq_of_lt h]
def MB : Nat := 65025
theorem prodB_le (x y i k : Nat) : bR 32 x i * bR 32 y k ≤ MB := by
  have h1 := bR_lt 32 x i; have h2 := bR_lt 32 y k
  exact Nat.le_trans (Nat.mul_le_mul (show bR 32 x i ≤ 255 by omega) (show bR 32 y k ≤ 255 by omega)) (by decide)
structure MbIn (f g c : Nat → Nat) (i k : Nat) : Prop where
  lo : ∀ j, c j ≤ (i + 1) * MB
  hi : ∀ j, i + k + 1 ≤ j → c j ≤ i * MB
  v : hv c 64 = hv f i * 256 ^ (32 - i) * hv g 32 + f i * 256 ^ (31 - i) * (hv g k * 256 ^ (32 - k))
structure MbOut (f g c : Nat → Nat) (i : Nat) : Prop where
  lo : ∀ j, c j ≤ i * MB
  v : hv c 64 = hv f i * 256 ^ (32 - i) * hv g 32
theorem MbOut.start (f g : Nat → Nat) : MbOut f g (fun _ => 0) 0 := ⟨fun _ => by omega, by
  rw [show hv f 0 = 0 from rfl]
  simp only [Nat.zero_mul]
  have : ∀ n, hv (fun _ => 0) n = 0 := fun n => by induction n with | zero => rfl | succ n ih => simp [hv, ih]
  exact this 64⟩
theorem MbOut.into {f g c : Nat → Nat} {i : Nat} (h : MbOut f g c i) : MbIn f g c i 0 :=
  ⟨fun j => Nat.le_trans (h.lo j) (Nat.mul_le_mul_right _ (by omega)), fun j _ => h.lo j, by rw [h.v, show hv g 0 = 0 from rfl, Nat.zero_mul, Nat.mul_zero, Nat.add_zero]⟩
theorem MbIn.step {f g c : Nat → Nat} {i k : Nat} (h : MbIn f g c i k) (hk : k < 32) (hi : i < 32) (hp : f i * g k ≤ MB) : MbIn f g (updN c (i + k + 1) (c (i + k + 1) + f i * g k)) i (k + 1) := by
  have e : (i + 1) * MB = i * MB + MB := by rw [Nat.add_mul, Nat.one_mul]
  refine ⟨fun j => ?_, fun j hj => ?_, ?_⟩
  · unfold updN
    split
    · have := h.hi (i + k + 1) (Nat.le_refl _); omega
    · exact h.lo j
  · unfold updN
    rw [if_neg (by omega)]
    exact h.hi j (by omega)
  · have e64 : (64 : Nat) = i + k + 1 + 1 + (62 - i - k) := by omega
    have hu := hv_upd c (i + k + 1) (f i * g k) (62 - i - k)
    rw [← e64] at hu
    rw [hu, h.v]
    show _ = _ + f i * 256 ^ (31 - i) * ((256 * hv g k + g k) * 256 ^ (32 - (k + 1)))
    have e1 : 62 - i - k = (31 - i) + (31 - k) := by omega
    have e2 : 32 - k = (31 - k) + 1 := by omega
    have e3 : 32 - (k + 1) = 31 - k := by omega
    rw [e1, e2, e3, Nat.pow_add 256 (31 - i) (31 - k), Nat.pow_succ]
    generalize hv f i * 256 ^ (32 - i) * hv g 32 = A
    generalize hv g k = B
    generalize 256 ^ (31 - i) = C
    generalize 256 ^ (31 - k) = D
    clear h hu e e64 e1 e2 e3 hp hk hi
    generalize f i = p
    generalize g k = q
    grind
theorem MbIn.out {f g c : Nat → Nat} {i : Nat} (hi : i < 32) (h : MbIn f g c i 32) : MbOut f g c (i + 1) :=
  ⟨h.lo, by
    rw [h.v, Nat.sub_self, Nat.pow_zero, Nat.mul_one]
    show _ = (256 * hv f i + f i) * 256 ^ (32 - (i + 1)) * hv g 32
    rw [show 32 - (i + 1) = 31 - i by omega, show 32 - i = (31 - i) + 1 by omega, Nat.pow_succ]
    generalize hv f i = A
    generalize 256 ^ (31 - i) = C
    generalize hv g 32 = D
    clear h hi
    generalize f i = p
    grind⟩
theorem MbOut.fin {x y : Nat} {c : Nat → Nat} (hx : x < 256 ^ 32) (hy : y < 256 ^ 32) (h : MbOut (bR 32 x) (bR 32 y) c 32) : hv c 64 = x * y := by
  rw [h.v, hv_full hx, hv_full hy, Nat.sub_self, Nat.pow_zero, Nat.mul_one]
/-- The carries of a row of columns, from its end. -/
def crN (c : Nat → Nat) : Nat → Nat
  | 0 => 0
  | m + 1 => (c (63 - m) + crN c m) / 256
theorem crN_le {c : Nat → Nat} (h : ∀ j, c j ≤ 32 * MB) : ∀ m, crN c m ≤ 10000
  | 0 => by simp [crN]
  | m + 1 => by
    have h1 := h (63 - m)
    have h2 := crN_le h m
    unfold crN
    unfold MB at h1
    omega
theorem crN_div (c : Nat → Nat) : ∀ m, m ≤ 64 → hv c 64 / 256 ^ m = hv c (64 - m) + crN c m
  | 0, _ => by simp [crN]
  | m + 1, h => by
    rw [div_succ256, crN_div c m (by omega), show 64 - m = (63 - m) + 1 by omega, hv, crN, show 64 - (m + 1) = 63 - m by omega]
    omega
theorem crN_digit (c : Nat → Nat) (m : Nat) (h : m < 64) : dB (hv c 64) m = (c (63 - m) + crN c m) % 256 := by
  unfold dB
  rw [crN_div c m (by omega), show 64 - m = (63 - m) + 1 by omega, hv]
  omega
end Go.Proofs.Ytbgfokdchpcifaa
