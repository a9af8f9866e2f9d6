/- The walks of package field, third part: products. -/
import Derived.Test.YtmoggjbnlimepaaFle
namespace Go.Proofs.Ytmoggjbnlimepaa
open Go.RowKit

/-- The two words of a number of 128 digits. -/
def whi (n : Nat) : Nat := n / 18446744073709551616
def wlo (n : Nat) : Nat := n % 18446744073709551616
theorem plus_num (n a b : Nat) (_ha : a < 18446744073709551616) (_hb : b < 18446744073709551616) (h : n + a * b < 340282366920938463463374607431768211456) :
    adds (mlo a b) (wlo n : Nat) 0 = (wlo (n + a * b) : Nat) ∧ adds (mhi a b) (whi n : Nat) (addc (mlo a b) (wlo n : Nat) 0) = (whi (n + a * b) : Nat) := by
  unfold adds addc mlo mhi wlo whi
  rw [show (a : Int) * (b : Int) = ((a * b : Nat) : Int) from by simp]
  generalize a * b = p at *
  constructor
  · omega
  · omega
theorem mhi_wd (a b : Nat) (ha : a < 18446744073709551616) (hb : b < 18446744073709551616) : Wd (mhi a b) := by
  have h5 : a * b ≤ 18446744073709551615 * 18446744073709551615 := Nat.mul_le_mul (by omega) (by omega)
  unfold mhi
  rw [show (a : Int) * (b : Int) = ((a * b : Nat) : Int) from by simp]
  generalize a * b = p at *
  exact ⟨by omega, by omega⟩
theorem wlo_wd (n : Nat) : Wd (wlo n : Nat) := by unfold wlo; exact ⟨by omega, by omega⟩
theorem whi_wd {n : Nat} (h : n < 340282366920938463463374607431768211456) : Wd (whi n : Nat) := by unfold whi; exact ⟨by omega, by omega⟩
set_option maxHeartbeats 1000000 in
theorem feplus_any (n a b : Nat) (ha : a < 18446744073709551616) (hb : b < 18446744073709551616) (h : n + a * b < 340282366920938463463374607431768211456) (w : World) :
    Calls Try.prog 40 #[.agg #[.int .u64 (whi n : Nat), .int .u64 (wlo n : Nat)], .int .u64 a, .int .u64 b] w fun e w' => e = .returned (.agg #[.int .u64 (whi (n + a * b) : Nat), .int .u64 (wlo (n + a * b) : Nat)]) ∧ Below w.heap.size w w' := by
  have hn := plus_num n a b ha hb h
  have h1 := fun w => add64 (mlo_wd a b) (wlo_wd n) Cy.zero w
  have h2 := fun w => add64 (mhi_wd a b ha hb) (whi_wd (n := n) (by omega)) (addc_cy (mlo_wd a b) (wlo_wd n) Cy.zero) w
  rw [hn.1] at h1
  rw [hn.2] at h2
  have HM := Lib.hid (fun w => mul64_o (x := a) (y := b) ⟨by omega, by omega⟩ ⟨by omega, by omega⟩ w)
  clear hn h ha hb
  go_enter Try.func40, Try.ntmps40
  go_wp2_with (go_at_call 50; go_must (refine (HM.out _).mono ?_; rintro e w1 ⟨rfl, rfl⟩))
  exact bodyPost_ret (v := .agg #[.int .u64 (whi (n + a * b) : Nat), .int .u64 (wlo (n + a * b) : Nat)]) (by simp [results, Try.results40, go_sem]) rfl ⟨rfl, (by repeat (first | (with_reducible refine Below.alloc' ?_ _) | (with_reducible refine Below.drew ?_) | (with_reducible refine below_drewN ?_ _) | ((with_reducible refine Below.setCell ?_ ?_ _); rotate_left; (focus (first | exact Nat.le_refl _ | (simp; done) | (simp; omega)))) | (with_reducible assumption) | (with_reducible exact Below.refl _ _)))⟩
theorem ix5_0 (x0 x1 x2 x3 x4 : Value) (w : World) : (Instr.index 39 (.agg #[x0, x1, x2, x3, x4]) (.int .i64 0)).run Try.prog w = .ok x0 w := by kernel_rfl
theorem ix5_1 (x0 x1 x2 x3 x4 : Value) (w : World) : (Instr.index 39 (.agg #[x0, x1, x2, x3, x4]) (.int .i64 1)).run Try.prog w = .ok x1 w := by kernel_rfl
theorem ix5_2 (x0 x1 x2 x3 x4 : Value) (w : World) : (Instr.index 39 (.agg #[x0, x1, x2, x3, x4]) (.int .i64 2)).run Try.prog w = .ok x2 w := by kernel_rfl
theorem ix5_3 (x0 x1 x2 x3 x4 : Value) (w : World) : (Instr.index 39 (.agg #[x0, x1, x2, x3, x4]) (.int .i64 3)).run Try.prog w = .ok x3 w := by kernel_rfl
theorem ix5_4 (x0 x1 x2 x3 x4 : Value) (w : World) : (Instr.index 39 (.agg #[x0, x1, x2, x3, x4]) (.int .i64 4)).run Try.prog w = .ok x4 w := by kernel_rfl
theorem ix5 (f : Nat → Nat) (k : Nat) (hk : k < 5) (w : World) : (Instr.index 39 (.agg #[.int .u64 (f 0 : Nat), .int .u64 (f 1 : Nat), .int .u64 (f 2 : Nat), .int .u64 (f 3 : Nat), .int .u64 (f 4 : Nat)]) (.int .i64 (k : Nat))).run Try.prog w = .ok (.int .u64 (f k : Nat)) w := by
  have h : k = 0 ∨ k = 1 ∨ k = 2 ∨ k = 3 ∨ k = 4 := by omega
  rcases h with rfl | rfl | rfl | rfl | rfl
  · exact ix5_0 _ _ _ _ _ _
  · exact ix5_1 _ _ _ _ _ _
  · exact ix5_2 _ _ _ _ _ _
  · exact ix5_3 _ _ _ _ _ _
  · exact ix5_4 _ _ _ _ _ _
/-- The columns of a product, when i rows, and j products of the next one, were done. -/
def colStep (f g : Nat → Nat) (i j : Nat) (R : Nat → Nat) (k : Nat) : Nat :=
  if k = (i + j) % 5 then R k + (if 5 ≤ i + j then f i * 19 else f i) * g j else R k
def colJ (f g : Nat → Nat) (i : Nat) (R : Nat → Nat) : Nat → Nat → Nat
  | 0 => R
  | j + 1 => colStep f g i j (colJ f g i R j)
def colI (f g : Nat → Nat) : Nat → Nat → Nat
  | 0 => fun _ => 0
  | i + 1 => colJ f g i (colI f g i) 5
def col (f g : Nat → Nat) (i j : Nat) : Nat → Nat := colJ f g i (colI f g i) j
/-- The columns as cells. -/
def colV (R : Nat → Nat) (q : Nat) : Value := if q % 2 = 0 then .int .u64 (whi (R (q / 2)) : Nat) else .int .u64 (wlo (R (q / 2)) : Nat)
theorem col_succ (f g : Nat → Nat) (i j : Nat) : col f g i (j + 1) = colStep f g i j (col f g i j) := rfl
theorem col_next (f g : Nat → Nat) (i : Nat) : col f g (i + 1) 0 = col f g i 5 := rfl
theorem colStep_le {f g R : Nat → Nat} {i j B : Nat} (hf : Lim f) (hg : Lim g) (hi : i < 5) (hj : j < 5) (h : ∀ k, R k ≤ B) (k : Nat) : colStep f g i j R k ≤ B + 96342400000000000000000000000000 := by
  have h1 := hf.lt i hi
  have h2 := hg.lt j hj
  have h3 : (if 5 ≤ i + j then f i * 19 else f i) ≤ 42784196460020092 := by split <;> omega
  have h4 : (if 5 ≤ i + j then f i * 19 else f i) * g j ≤ 96342400000000000000000000000000 := Nat.le_trans (Nat.mul_le_mul h3 (show g j ≤ 2251799813685268 by omega)) (by decide)
  have := h k
  unfold colStep
  generalize (if 5 ≤ i + j then f i * 19 else f i) * g j = z at *
  split <;> omega
theorem colJ_le {f g R : Nat → Nat} {i B : Nat} (hf : Lim f) (hg : Lim g) (hi : i < 5) (h : ∀ k, R k ≤ B) : ∀ j, j ≤ 5 → ∀ k, colJ f g i R j k ≤ B + j * 96342400000000000000000000000000
  | 0, _, k => by have := h k; simpa [colJ] using this
  | j + 1, hj, k => by
    have := colStep_le (j := j) hf hg hi (by omega) (colJ_le hf hg hi h j (by omega)) k
    show colStep f g i j (colJ f g i R j) k ≤ _
    omega
theorem colI_le {f g : Nat → Nat} (hf : Lim f) (hg : Lim g) : ∀ i, i ≤ 5 → ∀ k, colI f g i k ≤ 5 * i * 96342400000000000000000000000000
  | 0, _, k => by simp [colI]
  | i + 1, hi, k => by
    have := colJ_le hf hg (show i < 5 by omega) (colI_le hf hg i (by omega)) 5 (by omega) k
    show colJ f g i (colI f g i) 5 k ≤ _
    omega
theorem col_le {f g : Nat → Nat} (hf : Lim f) (hg : Lim g) (i j : Nat) (hi : i < 5) (hj : j ≤ 5) (k : Nat) : col f g i j k ≤ 25 * 96342400000000000000000000000000 := by
  have := colJ_le hf hg hi (colI_le hf hg i (by omega)) j hj k
  unfold col
  have h2 : 5 * i * 96342400000000000000000000000000 ≤ 20 * 96342400000000000000000000000000 := Nat.mul_le_mul_right _ (by omega)
  have h3 : j * 96342400000000000000000000000000 ≤ 5 * 96342400000000000000000000000000 := Nat.mul_le_mul_right _ (by omega)
  omega
theorem colV_hi (R : Nat → Nat) (m : Nat) : colV R (m * 2) = .int .u64 (whi (R m) : Nat) := by
  unfold colV; rw [if_pos (by omega), show m * 2 / 2 = m from by omega]
theorem colV_lo (R : Nat → Nat) (m : Nat) : colV R (m * 2 + 1) = .int .u64 (wlo (R m) : Nat) := by
  unfold colV; rw [if_neg (by omega), show (m * 2 + 1) / 2 = m from by omega]
theorem colV_set (R : Nat → Nat) (m v : Nat) : ((row 10 (colV R)).set (m * 2) (.int .u64 (whi v : Nat))).set (m * 2 + 1) (.int .u64 (wlo v : Nat)) = row 10 (colV fun k => if k = m then v else R k) := by
  rw [row_set (g := fun q => if q = m * 2 then .int .u64 (whi v : Nat) else colV R q) (m * 2) _ (by simp) (fun i _ h => by simp [h])]
  refine row_set _ _ ?_ (fun i _ h => ?_)
  · rw [colV_lo, if_pos rfl]
  · by_cases h1 : i = m * 2
    · subst h1; rw [if_pos rfl, colV_hi, if_pos rfl]
    · rw [if_neg h1]
      unfold colV
      simp only [if_neg (show ¬ i / 2 = m by omega)]
theorem col_big (f g : Nat → Nat) (i j : Nat) (h : 5 ≤ i + j) (hi : i < 5) (hj : j < 5) : col f g i (j + 1) = fun k => if k = i + j - 5 then col f g i j (i + j - 5) + f i * 19 * g j else col f g i j k := by
  rw [col_succ]; funext k; unfold colStep
  rw [show (i + j) % 5 = i + j - 5 from by omega]
  by_cases hk : k = i + j - 5
  · subst hk; rw [if_pos rfl, if_pos rfl, if_pos h]
  · rw [if_neg hk, if_neg hk]
theorem col_low (f g : Nat → Nat) (i j : Nat) (h : ¬ 5 ≤ i + j) : col f g i (j + 1) = fun k => if k = i + j then col f g i j (i + j) + f i * g j else col f g i j k := by
  rw [col_succ]; funext k; unfold colStep
  rw [show (i + j) % 5 = i + j from by omega]
  by_cases hk : k = i + j
  · subst hk; rw [if_pos rfl, if_pos rfl, if_neg h]
  · rw [if_neg hk, if_neg hk]
theorem row10 (f : Nat → Value) : row 10 f = [f 0, f 1, f 2, f 3, f 4, f 5, f 6, f 7, f 8, f 9] := rfl
theorem colV_0 (R : Nat → Nat) : colV R 0 = .int .u64 (whi (R 0) : Nat) := rfl
theorem colV_1 (R : Nat → Nat) : colV R 1 = .int .u64 (wlo (R 0) : Nat) := rfl
theorem colV_2 (R : Nat → Nat) : colV R 2 = .int .u64 (whi (R 1) : Nat) := rfl
theorem colV_3 (R : Nat → Nat) : colV R 3 = .int .u64 (wlo (R 1) : Nat) := rfl
theorem colV_4 (R : Nat → Nat) : colV R 4 = .int .u64 (whi (R 2) : Nat) := rfl
theorem colV_5 (R : Nat → Nat) : colV R 5 = .int .u64 (wlo (R 2) : Nat) := rfl
theorem colV_6 (R : Nat → Nat) : colV R 6 = .int .u64 (whi (R 3) : Nat) := rfl
theorem colV_7 (R : Nat → Nat) : colV R 7 = .int .u64 (wlo (R 3) : Nat) := rfl
theorem colV_8 (R : Nat → Nat) : colV R 8 = .int .u64 (whi (R 4) : Nat) := rfl
theorem colV_9 (R : Nat → Nat) : colV R 9 = .int .u64 (wlo (R 4) : Nat) := rfl
/-- The columns are the product, but for 2^255, that is 19. -/
theorem col_val (f g : Nat → Nat) : val (col f g 5 0) % Pq = val f * val g % Pq := by
  have e : val f * val g = (f 0 * g 0 + 2251799813685248 * ((f 0 * g 1 + f 1 * g 0) + 2251799813685248 * ((f 0 * g 2 + f 1 * g 1 + f 2 * g 0) + 2251799813685248 * ((f 0 * g 3 + f 1 * g 2 + f 2 * g 1 + f 3 * g 0) + 2251799813685248 * (f 0 * g 4 + f 1 * g 3 + f 2 * g 2 + f 3 * g 1 + f 4 * g 0))))) +
      57896044618658097711785492504343953926634992332820282019728792003956564819968 * ((f 1 * g 4 + f 2 * g 3 + f 3 * g 2 + f 4 * g 1) + 2251799813685248 * ((f 2 * g 4 + f 3 * g 3 + f 4 * g 2) + 2251799813685248 * ((f 3 * g 4 + f 4 * g 3) + 2251799813685248 * (f 4 * g 4)))) := by
    unfold val; grind
  rw [e, add_mul_mod19]
  congr 1
  simp [val, col, colJ, colI, colStep]
  grind
theorem ixw_0 (x0 x1 x2 x3 x4 x5 x6 x7 x8 x9 : Value) (w : World) : (Instr.index 63 (.agg #[x0, x1, x2, x3, x4, x5, x6, x7, x8, x9]) (.int .i64 0)).run Try.prog w = .ok (.agg #[x0, x1]) w := by kernel_rfl
theorem ixw_1 (x0 x1 x2 x3 x4 x5 x6 x7 x8 x9 : Value) (w : World) : (Instr.index 63 (.agg #[x0, x1, x2, x3, x4, x5, x6, x7, x8, x9]) (.int .i64 1)).run Try.prog w = .ok (.agg #[x2, x3]) w := by kernel_rfl
theorem ixw_2 (x0 x1 x2 x3 x4 x5 x6 x7 x8 x9 : Value) (w : World) : (Instr.index 63 (.agg #[x0, x1, x2, x3, x4, x5, x6, x7, x8, x9]) (.int .i64 2)).run Try.prog w = .ok (.agg #[x4, x5]) w := by kernel_rfl
theorem ixw_3 (x0 x1 x2 x3 x4 x5 x6 x7 x8 x9 : Value) (w : World) : (Instr.index 63 (.agg #[x0, x1, x2, x3, x4, x5, x6, x7, x8, x9]) (.int .i64 3)).run Try.prog w = .ok (.agg #[x6, x7]) w := by kernel_rfl
theorem ixw_4 (x0 x1 x2 x3 x4 x5 x6 x7 x8 x9 : Value) (w : World) : (Instr.index 63 (.agg #[x0, x1, x2, x3, x4, x5, x6, x7, x8, x9]) (.int .i64 4)).run Try.prog w = .ok (.agg #[x8, x9]) w := by kernel_rfl
theorem ixw (R : Nat → Nat) (k : Nat) (hk : k < 5) (w : World) : (Instr.index 63 (.agg #[.int .u64 (whi (R 0) : Nat), .int .u64 (wlo (R 0) : Nat), .int .u64 (whi (R 1) : Nat), .int .u64 (wlo (R 1) : Nat), .int .u64 (whi (R 2) : Nat), .int .u64 (wlo (R 2) : Nat), .int .u64 (whi (R 3) : Nat), .int .u64 (wlo (R 3) : Nat), .int .u64 (whi (R 4) : Nat), .int .u64 (wlo (R 4) : Nat)]) (.int .i64 (k : Nat))).run Try.prog w = .ok (.agg #[.int .u64 (whi (R k) : Nat), .int .u64 (wlo (R k) : Nat)]) w := by
  have h : k = 0 ∨ k = 1 ∨ k = 2 ∨ k = 3 ∨ k = 4 := by omega
  rcases h with rfl | rfl | rfl | rfl | rfl
  · exact ixw_0 _ _ _ _ _ _ _ _ _ _ _
  · exact ixw_1 _ _ _ _ _ _ _ _ _ _ _
  · exact ixw_2 _ _ _ _ _ _ _ _ _ _ _
  · exact ixw_3 _ _ _ _ _ _ _ _ _ _ _
  · exact ixw_4 _ _ _ _ _ _ _ _ _ _ _
theorem lo51 (n : Nat) : bits BinOp.and IntKind.u64 (wlo n : Nat) 2251799813685247 = ((n % 2251799813685248 : Nat) : Int) := by
  rw [and51 _ (by unfold wlo; omega)]; unfold wlo; omega
theorem hi51 (n : Nat) (h : n < 41538374868278621028243970633760768) : bits BinOp.or IntKind.u64 (IntKind.u64.wrap ((whi n : Nat) * 8192 : Int)) ((wlo n : Nat) / 2251799813685248 : Int) = ((n / 2251799813685248 : Nat) : Int) := by
  have h1 : whi n < 2251799813685248 := by unfold whi; omega
  have h2 : wlo n / 2251799813685248 < 2 ^ 13 := by unfold wlo; omega
  rw [wrapU, show ((whi n : Nat) * 8192 : Int) % 18446744073709551616 = ((whi n * 8192 : Nat) : Int) from by omega, show ((wlo n : Nat) : Int) / 2251799813685248 = ((wlo n / 2251799813685248 : Nat) : Int) from by omega, u64_or_nat _ _ (by omega) (by omega)]
  have h3 := Nat.shiftLeft_add_eq_or_of_lt h2 (whi n)
  rw [Nat.shiftLeft_eq] at h3
  rw [show whi n * 8192 = whi n * 2 ^ 13 from rfl, ← h3]
  unfold whi wlo; omega
theorem feplus_one (n a : Nat) (ha : a < 18446744073709551616) (h : n + a < 340282366920938463463374607431768211456) (w : World) :
    Calls Try.prog 40 #[.agg #[.int .u64 (whi n : Nat), .int .u64 (wlo n : Nat)], .int .u64 a, .int .u64 1] w fun e w' => e = .returned (.agg #[.int .u64 (whi (n + a) : Nat), .int .u64 (wlo (n + a) : Nat)]) ∧ Below w.heap.size w w' := by
  have := feplus_any n a 1 ha (by omega) (by omega) w
  rw [Nat.mul_one] at this; exact this
theorem feplus_low (n a b : Nat) (hn : n < 18446744073709551616) (ha : a < 18446744073709551616) (hb : b < 18446744073709551616) (h : n + a * b < 340282366920938463463374607431768211456) (w : World) :
    Calls Try.prog 40 #[.agg #[.int .u64 0, .int .u64 n], .int .u64 a, .int .u64 b] w fun e w' => e = .returned (.agg #[.int .u64 (whi (n + a * b) : Nat), .int .u64 (wlo (n + a * b) : Nat)]) ∧ Below w.heap.size w w' := by
  have := feplus_any n a b ha hb h w
  rw [show whi n = 0 from Nat.div_eq_of_lt hn, show wlo n = n from Nat.mod_eq_of_lt hn] at this; exact this
/-- The limbs of a product ahead of the last carrying. -/
def mulF (R : Nat → Nat) (i : Nat) : Nat :=
  if i = 0 then (pas R 0 0 + cr R 0 5 * 19) % 2251799813685248 else if i = 1 then pas R 0 1 + (pas R 0 0 + cr R 0 5 * 19) / 2251799813685248 else pas R 0 i
theorem mulF_val (R : Nat → Nat) : val (mulF R) % Pq = val R % Pq := by
  have h := pas_val R 0
  rw [Nat.add_zero] at h
  rw [← h, add_mul_mod19]
  congr 1
  simp only [val, mulF, if_true, if_neg (show ¬ (1 = 0) by omega), if_neg (show ¬ (2 = 0) by omega), if_neg (show ¬ (3 = 0) by omega), if_neg (show ¬ (4 = 0) by omega), if_neg (show ¬ (2 = 1) by omega), if_neg (show ¬ (3 = 1) by omega), if_neg (show ¬ (4 = 1) by omega)]
  omega
theorem crR (R : Nat → Nat) (h : ∀ k, R k ≤ 25 * 96342400000000000000000000000000) : ∀ k, cr R 0 k ≤ 1100000000000000000
  | 0 => by simp [cr]
  | k + 1 => by have h1 := crR R h k; have h2 := h k; rw [cr]; omega
def lowV (R : Nat → Nat) (k i : Nat) : Value := if i < k then .int .u64 (pas R 0 i : Nat) else .int .u64 0
theorem lowV_set (R : Nat → Nat) (k : Nat) : (row 5 (lowV R k)).set k (.int .u64 (pas R 0 k : Nat)) = row 5 (lowV R (k + 1)) :=
  row_set k _ (by unfold lowV; rw [if_pos (by omega)]) (fun i _ h => by unfold lowV; by_cases h1 : i < k; rw [if_pos h1, if_pos (by omega)]; rw [if_neg h1, if_neg (by omega)])
set_option maxHeartbeats 2000000 in
theorem femul_any {f g : Nat → Nat} {x y : Nat} (hf : FE f x) (hg : FE g y) (w : World) :
    Calls Try.prog 25 #[.agg #[.int .u64 (f 0 : Nat), .int .u64 (f 1 : Nat), .int .u64 (f 2 : Nat), .int .u64 (f 3 : Nat), .int .u64 (f 4 : Nat)], .agg #[.int .u64 (g 0 : Nat), .int .u64 (g 1 : Nat), .int .u64 (g 2 : Nat), .int .u64 (g 3 : Nat), .int .u64 (g 4 : Nat)]] w fun e w' => ∃ h, e = .returned (.agg #[.int .u64 (h 0 : Nat), .int .u64 (h 1 : Nat), .int .u64 (h 2 : Nat), .int .u64 (h 3 : Nat), .int .u64 (h 4 : Nat)]) ∧ FE h (x * y % Pq) ∧ Below w.heap.size w w' := by
  go_enter Try.func25, Try.ntmps25
  go_wp2
  refine wp_gen (fun W => Blk W (w.heap.size + 1) (row 5 (fV g)) 41 ∧ Blk W (w.heap.size + 1 + 1 + 1) (row 10 (colV (col f g 0 0))) 63 ∧ Blk W (w.heap.size + 1 + 1) (row 5 (fV fun _ => 0)) 41 ∧ Below w.heap.size w W) ?_ (fun W hW => ?_)
  · exact ⟨((Blk.new' (by simp)).alloc _).alloc _, (by rw [show row 10 (colV (col f g 0 0)) = [.int .u64 0, .int .u64 0, .int .u64 0, .int .u64 0, .int .u64 0, .int .u64 0, .int .u64 0, .int .u64 0, .int .u64 0, .int .u64 0] from by simp [row, List.range, List.range.loop, colV, col, colJ, colI, whi, wlo]]; exact Blk.new' (by simp)), (by rw [show row 5 (fV fun _ => 0) = [.int .u64 0, .int .u64 0, .int .u64 0, .int .u64 0, .int .u64 0] from rfl]; exact (Blk.new' (by simp)).alloc _), (by repeat (first | (with_reducible refine Below.alloc' ?_ _) | (with_reducible refine Below.drew ?_) | (with_reducible refine below_drewN ?_ _) | ((with_reducible refine Below.setCell ?_ ?_ _); rotate_left; (focus (first | exact Nat.le_refl _ | (simp; done) | (simp; omega)))) | (with_reducible assumption) | (with_reducible exact Below.refl _ _)))⟩
  obtain ⟨hb1, hw1, ho1, hbl1⟩ := hW
  go_loopw [17] (fun i wr => ∃ k : Nat, k ≤ 5 ∧ i = .int .i64 k ∧ Blk wr (w.heap.size + 1) (row 5 (fV g)) 41 ∧ Blk wr (w.heap.size + 1 + 1 + 1) (row 10 (colV (col f g k 0))) 63 ∧ Blk wr (w.heap.size + 1 + 1) (row 5 (fV fun _ => 0)) 41 ∧ Below w.heap.size w wr) (fun i _ => 5 - (intOf i).toNat)
  case atStart => exact ⟨0, by omega, rfl, hb1, hw1, ho1, hbl1⟩
  case round =>
    clear hb1 hw1 ho1 hbl1 W
    obtain ⟨i, hi, rfl, hbB, hwB, hoB, hbl⟩ := hrel
    obtain ⟨wo, hwo⟩ : ∃ wo : World, wo = wr := ⟨_, rfl⟩
    by_cases hlt : i < 5
    · have hx := ix5 f i hlt
      have hdd : decide ((i : Int) < 5) = true := by simp; omega
      have hbc := hbB.cell
      rw [row5] at hbc
      unfold fV at hbc
      go_wp2
      clear hx hbc
      go_loopw [23] (fun j wr => ∃ k : Nat, k ≤ 5 ∧ j = .int .i64 k ∧ Blk wr (w.heap.size + 1) (row 5 (fV g)) 41 ∧ Blk wr (w.heap.size + 1 + 1 + 1) (row 10 (colV (col f g i k))) 63 ∧ Blk wr (w.heap.size + 1 + 1) (row 5 (fV fun _ => 0)) 41 ∧ Below w.heap.size w wr) (fun j _ => 5 - (intOf j).toNat)
      case atStart => exact ⟨0, by omega, rfl, hbB, hwB, hoB, hbl⟩
      case round =>
        subst hwo
        clear hbB hwB hoB hbl
        obtain ⟨j, hj, rfl, hbB, hwB, hoB, hbl⟩ := hrel
        by_cases hlt' : j < 5
        · have hy := ix5 g j hlt'
          by_cases h5 : 5 ≤ i + j
          · have d5 : decide ((5 : Int) ≤ (i : Int) + (j : Int)) = true := by simp; omega
            have hm : i + j - 5 < 5 := by omega
            have c1 : wr.cell? ⟨w.heap.size + 1 + 1 + 1, (i + j - 5) * 2, none⟩ = some (.int .u64 (whi (col f g i j (i + j - 5)) : Nat)) := by rw [hwB.at (by omega), colV_hi]
            have c2 : wr.cell? ⟨w.heap.size + 1 + 1 + 1, (i + j - 5) * 2 + 1, none⟩ = some (.int .u64 (wlo (col f g i j (i + j - 5)) : Nat)) := by rw [hwB.at (by omega), colV_lo]
            have h19 : IntKind.u64.wrap ((f i : Nat) * 19 : Int) = ((f i * 19 : Nat) : Int) := by have := hf.lim.lt i hlt; rw [wrapU]; omega
            have hP := fun W => feplus_any (col f g i j (i + j - 5)) (f i * 19) (g j) (by have := hf.lim.lt i hlt; omega) (by have := hg.lim.lt j hlt'; omega) (by
              have h1 := col_le hf.lim hg.lim i (j + 1) (by omega) (by omega) (i + j - 5)
              rw [col_big f g i j h5 hlt hlt'] at h1
              simp only [if_true] at h1
              omega) W
            have HP := Lib.hid hP
            have HC := Lib.hid (col_big f g i j h5 hlt hlt')
            have HB := Lib.hid hbB; have HW := Lib.hid hwB; have HO := Lib.hid hoB
            clear hP hbB hwB hoB
            generalize hn : col f g i j (i + j - 5) + f i * 19 * g j = n at *
            clear hn
            generalize f i * 19 = a19 at *
            go_wp2_with (go_at_call 40; go_must (refine (HP.out _).mono ?_; rintro e w1 ⟨rfl, hb⟩; have hB1 := HB.out.below' hb; have hW1 := HW.out.below' hb; have hO1 := HO.out.below' hb; have hbl1 := Below.call hbl hb; have e1 := hW1.cell ((i + j - 5) * 2); have e2 := hW1.cell ((i + j - 5) * 2 + 1); rw [row_get (by omega)] at e1 e2; have ef := hW1.frozen; clear hb hbl c1 c2))
            go_roundw
            case rel => exact ⟨j + 1, by omega, by go_num, (hB1.other _ (by simp; omega) _).other _ (by simp; omega) _, by rw [HC.out, ← colV_set]; exact (hW1.set _ _).set _ _, (hO1.other _ (by simp) _).other _ (by simp) _, (by repeat (first | (with_reducible refine Below.alloc' ?_ _) | (with_reducible refine Below.drew ?_) | (with_reducible refine below_drewN ?_ _) | ((with_reducible refine Below.setCell ?_ ?_ _); rotate_left; (focus (first | exact Nat.le_refl _ | (simp; done) | (simp; omega)))) | (with_reducible assumption) | (with_reducible exact Below.refl _ _)))⟩
            case measure => simp [intOf]; omega
          · have d5 : decide ((5 : Int) ≤ (i : Int) + (j : Int)) = false := by simp; omega
            have hm : i + j < 5 := by omega
            have c1 : wr.cell? ⟨w.heap.size + 1 + 1 + 1, (i + j) * 2, none⟩ = some (.int .u64 (whi (col f g i j (i + j)) : Nat)) := by rw [hwB.at (by omega), colV_hi]
            have c2 : wr.cell? ⟨w.heap.size + 1 + 1 + 1, (i + j) * 2 + 1, none⟩ = some (.int .u64 (wlo (col f g i j (i + j)) : Nat)) := by rw [hwB.at (by omega), colV_lo]
            have hP := fun W => feplus_any (col f g i j (i + j)) (f i) (g j) (by have := hf.lim.lt i hlt; omega) (by have := hg.lim.lt j hlt'; omega) (by
              have h1 := col_le hf.lim hg.lim i (j + 1) (by omega) (by omega) (i + j)
              rw [col_low f g i j h5] at h1
              simp only [if_true] at h1
              omega) W
            have HP := Lib.hid hP
            have HC := Lib.hid (col_low f g i j h5)
            have HB := Lib.hid hbB; have HW := Lib.hid hwB; have HO := Lib.hid hoB
            clear hP hbB hwB hoB
            generalize hn : col f g i j (i + j) + f i * g j = n at *
            clear hn
            go_wp2_with (go_at_call 40; go_must (refine (HP.out _).mono ?_; rintro e w1 ⟨rfl, hb⟩; have hB1 := HB.out.below' hb; have hW1 := HW.out.below' hb; have hO1 := HO.out.below' hb; have hbl1 := Below.call hbl hb; have e1 := hW1.cell ((i + j) * 2); have e2 := hW1.cell ((i + j) * 2 + 1); rw [row_get (by omega)] at e1 e2; have ef := hW1.frozen; clear hb hbl c1 c2))
            go_roundw
            case rel => exact ⟨j + 1, by omega, by go_num, (hB1.other _ (by simp; omega) _).other _ (by simp; omega) _, by rw [HC.out, ← colV_set]; exact (hW1.set _ _).set _ _, (hO1.other _ (by simp) _).other _ (by simp) _, (by repeat (first | (with_reducible refine Below.alloc' ?_ _) | (with_reducible refine Below.drew ?_) | (with_reducible refine below_drewN ?_ _) | ((with_reducible refine Below.setCell ?_ ?_ _); rotate_left; (focus (first | exact Nat.le_refl _ | (simp; done) | (simp; omega)))) | (with_reducible assumption) | (with_reducible exact Below.refl _ _)))⟩
            case measure => simp [intOf]; omega
        · obtain rfl : j = 5 := by omega
          clear hlt' hj
          go_wp2
          go_roundw
          case rel => exact ⟨i + 1, by omega, by go_num, hbB, hwB, hoB, hbl⟩
          case measure => simp [intOf]; omega
    · obtain rfl : i = 5 := by omega
      clear hwo hlt hi hbB
      have hR : ∀ k, col f g 5 0 k ≤ 25 * 96342400000000000000000000000000 := col_le hf.lim hg.lim 4 5 (by omega) (by omega)
      have HV := Lib.hid (col_val f g)
      have HF := Lib.hid hf; have HG := Lib.hid hg
      clear hf hg
      generalize col f g 5 0 = R at *
      rw [row10] at hwB
      rw [row5] at hoB
      unfold fV at hoB
      simp only [colV_0, colV_1, colV_2, colV_3, colV_4, colV_5, colV_6, colV_7, colV_8, colV_9] at hwB
      have hwc := hwB.cell
      have hwlt := hwB.lt
      have HR := Lib.hid hR
      have HO := Lib.hid hoB
      clear hR hwB hoB
      go_wp2
      clear hwc
      obtain ⟨wo, rfl⟩ : ∃ wo : World, wo = wr := ⟨_, rfl⟩
      have hB0 : Below w.heap.size w (wo.alloc (.cells #[.int .u64 0, .int .u64 0, .int .u64 0, .int .u64 0, .int .u64 0] 39)) := (by repeat (first | (with_reducible refine Below.alloc' ?_ _) | (with_reducible refine Below.drew ?_) | (with_reducible refine below_drewN ?_ _) | ((with_reducible refine Below.setCell ?_ ?_ _); rotate_left; (focus (first | exact Nat.le_refl _ | (simp; done) | (simp; omega)))) | (with_reducible assumption) | (with_reducible exact Below.refl _ _)))
      have hL0 : Blk (wo.alloc (.cells #[.int .u64 0, .int .u64 0, .int .u64 0, .int .u64 0, .int .u64 0] 39)) wo.heap.size (row 5 (lowV R 0)) 39 := Blk.new wo _ _
      have hO0 := (HO.out).alloc (.cells #[.int .u64 0, .int .u64 0, .int .u64 0, .int .u64 0, .int .u64 0] 39)
      have HO1 := Lib.hid hO0
      have hwl : w.heap.size + 1 + 1 < wo.heap.size := HO.out.lt
      have hwz : w.heap.size ≤ wo.heap.size := by omega
      clear HO hO0 hbl hwlt
      go_loopw [11, 61] (fun c i wx => ∃ k : Nat, k ≤ 5 ∧ i = .int .i64 k ∧ c = .int .u64 (cr R 0 k : Nat) ∧ Blk wx wo.heap.size (row 5 (lowV R k)) 39 ∧ Hid (Blk wx (w.heap.size + 1 + 1) [.int .u64 0, .int .u64 0, .int .u64 0, .int .u64 0, .int .u64 0] 41) ∧ Below w.heap.size w wx) (fun _ i _ => 5 - (intOf i).toNat)
      case atStart => exact ⟨0, by omega, rfl, rfl, hL0, HO1, hB0⟩
      case round =>
        clear hL0 HO1 hB0
        obtain ⟨k, hk, rfl, rfl, hL, HO, hbel⟩ := hrel
        by_cases hlt : k < 5
        · have hx := ixw R k hlt
          have hcr := crR R HR.out k
          have hRk := HR.out k
          have hP := fun W => feplus_one (R k) (cr R 0 k) (by omega) (by omega) W
          have hlo : bits BinOp.and IntKind.u64 (wlo (R k + cr R 0 k) : Nat) 2251799813685247 = ((pas R 0 k : Nat) : Int) := lo51 _
          have hhi : bits BinOp.or IntKind.u64 (IntKind.u64.wrap ((whi (R k + cr R 0 k) : Nat) * 8192 : Int)) ((wlo (R k + cr R 0 k) : Nat) / 2251799813685248 : Int) = ((cr R 0 (k + 1) : Nat) : Int) := hi51 _ (by omega)
          have HP := Lib.hid hP
          have HL := Lib.hid hL
          have hLs := hL.lt
          have hOs := HO.out.lt
          clear hcr hRk hP hL
          generalize hn : R k + cr R 0 k = n at *
          clear hn
          go_wp2_with (go_at_call 40; go_must (refine (HP.out _).mono ?_; rintro e w1 ⟨rfl, hb⟩; have hV1 := (Blk.new wr #[.int .u64 (whi (R k) : Nat), .int .u64 (wlo (R k) : Nat)] 62).below' hb; have hL1 := (HL.out.alloc _).below' hb; have hO1 := (HO.out.alloc _).below' hb; have hbl1 := Below.call (show Below w.heap.size w _ from (by repeat (first | (with_reducible refine Below.alloc' ?_ _) | (with_reducible refine Below.drew ?_) | (with_reducible refine below_drewN ?_ _) | ((with_reducible refine Below.setCell ?_ ?_ _); rotate_left; (focus (first | exact Nat.le_refl _ | (simp; done) | (simp; omega)))) | (with_reducible assumption) | (with_reducible exact Below.refl _ _)))) hb; have vc := hV1.cell; have vf := hV1.frozen; have lc := hL1.at hlt; have lf := hL1.frozen k; rw [show lowV R k k = .int .u64 0 from if_neg (by omega)] at lc; have hne : ¬ wo.heap.size = wr.heap.size := (by omega); have hne2 : ¬ wr.heap.size = wo.heap.size := (by omega); have HL1 := Lib.hid hL1; have HO1 := Lib.hid hO1; clear hb hV1 hL1 hO1 HL HO))
          go_roundw
          case rel => exact ⟨k + 1, by omega, by go_num, rfl, by have := ((HL1.out.other ⟨wr.heap.size, 0, none⟩ (by simp; omega) (.int .u64 (whi n : Nat))).other ⟨wr.heap.size, 1, none⟩ (by simp; omega) (.int .u64 (wlo n : Nat))).set k (.int .u64 (pas R 0 k : Nat)); rw [lowV_set] at this; exact this, ((HO1.out.other _ (by simp; omega) _).other _ (by simp; omega) _).other _ (by simp; omega) _, (by repeat (first | (with_reducible refine Below.alloc' ?_ _) | (with_reducible refine Below.drew ?_) | (with_reducible refine below_drewN ?_ _) | ((with_reducible refine Below.setCell ?_ ?_ _); rotate_left; (focus (first | exact Nat.le_refl _ | (simp; done) | (simp; omega)))) | (with_reducible assumption) | (with_reducible exact Below.refl _ _)))⟩
          case measure => simp [intOf]; omega
        · obtain rfl : k = 5 := by omega
          have hcr := crR R HR.out 5
          have hL5 : row 5 (lowV R 5) = [.int .u64 (pas R 0 0 : Nat), .int .u64 (pas R 0 1 : Nat), .int .u64 (pas R 0 2 : Nat), .int .u64 (pas R 0 3 : Nat), .int .u64 (pas R 0 4 : Nat)] := rfl
          rw [hL5] at hL
          clear hL5
          have hp := pas_lt R 0
          have HP0 := Lib.hid (fun W => feplus_low (pas R 0 0) (cr R 0 5) 19 (by have := hp 0; omega) (by omega) (by omega) (by have := hp 0; omega) W)
          have hlo : bits BinOp.and IntKind.u64 (wlo (pas R 0 0 + cr R 0 5 * 19) : Nat) 2251799813685247 = ((mulF R 0 : Nat) : Int) := lo51 _
          have hhi : IntKind.u64.wrap ((pas R 0 1 : Nat) + bits BinOp.or IntKind.u64 (IntKind.u64.wrap ((whi (pas R 0 0 + cr R 0 5 * 19) : Nat) * 8192 : Int)) ((wlo (pas R 0 0 + cr R 0 5 * 19) : Nat) / 2251799813685248 : Int) : Int) = ((mulF R 1 : Nat) : Int) := by
            rw [hi51 _ (by have := hp 0; omega), wrapU]
            have := hp 0; have := hp 1
            show _ = ((pas R 0 1 + (pas R 0 0 + cr R 0 5 * 19) / 2251799813685248 : Nat) : Int)
            omega
          have hbd : ∀ i, i < 5 → mulF R i ≤ 9223372036854775808 := fun i _ => by
            have := hp 0; have := hp 1; have := hp i
            unfold mulF; split
            · omega
            · split <;> omega
          have HQ : Hid (FE (cF (mulF R)) (x * y % Pq)) := Lib.hid ⟨cF_lim _ hbd, by rw [cF_val, mulF_val, HV.out, Nat.mul_mod, HF.out.num, HG.out.num]⟩
          have HBD := Lib.hid hbd
          rw [show pas R 0 2 = mulF R 2 from rfl, show pas R 0 3 = mulF R 3 from rfl, show pas R 0 4 = mulF R 4 from rfl] at hL
          have HL := Lib.hid hL
          clear hcr hp hbd hL hk hlt
          have hLc := HL.out.cell
          have hLf := HL.out.frozen
          have hLl := HL.out.lt
          have hOl := HO.out.lt
          generalize pas R 0 0 + cr R 0 5 * 19 = n at *
          go_wp2_with (first             | (go_at_call 40; go_must (refine (HP0.out _).mono ?_; rintro e w1 ⟨rfl, hb⟩; have hL1 := HL.out.below' hb; have lc := hL1.cell; have lf := hL1.frozen; have hO1 := HO.out.below' hb; have hbl1 := Below.call hbel hb; have HL1 := Lib.hid hL1; have HO1 := Lib.hid hO1; have hlt1 := hL1.lt; have hot1 := hO1.lt; have hne : ¬ wo.heap.size = w1.heap.size := (by omega); have hne2 : ¬ w1.heap.size = wo.heap.size := (by omega); clear hb hL1 hO1 HL HO HP0))             | (go_at_call 41; go_must (refine (carried_any (mulF R) HBD.out _).mono ?_; rintro e w2 ⟨rfl, hb⟩; have hO2 := (((HO1.out.other ⟨wo.heap.size, 0, none⟩ (by simp; omega) (.int .u64 (mulF R 0 : Nat))).other ⟨wo.heap.size, 1, none⟩ (by simp; omega) (.int .u64 (mulF R 1 : Nat))).alloc _).below' hb; have oc := hO2.cell; have of := hO2.frozen; have hbl2 := Below.call (show Below w.heap.size w _ from (by repeat (first | (with_reducible refine Below.alloc' ?_ _) | (with_reducible refine Below.drew ?_) | (with_reducible refine below_drewN ?_ _) | ((with_reducible refine Below.setCell ?_ ?_ _); rotate_left; (focus (first | exact Nat.le_refl _ | (simp; done) | (simp; omega)))) | (with_reducible assumption) | (with_reducible exact Below.refl _ _)))) hb; clear hb hO2 lc lf)))
          exact bodyPost_ret (v := .agg #[.int .u64 (cF (mulF R) 0 : Nat), .int .u64 (cF (mulF R) 1 : Nat), .int .u64 (cF (mulF R) 2 : Nat), .int .u64 (cF (mulF R) 3 : Nat), .int .u64 (cF (mulF R) 4 : Nat)]) (by simp [results, Try.results25, go_sem, oc]) rfl ⟨_, rfl, HQ.out, (by repeat (first | (with_reducible refine Below.alloc' ?_ _) | (with_reducible refine Below.drew ?_) | (with_reducible refine below_drewN ?_ _) | ((with_reducible refine Below.setCell ?_ ?_ _); rotate_left; (focus (first | exact Nat.le_refl _ | (simp; done) | (simp; omega)))) | (with_reducible assumption) | (with_reducible exact Below.refl _ _)))⟩
end Go.Proofs.Ytmoggjbnlimepaa
