/- What PC rests on, part 2 of 4: my own texts, put together (merge.py). -/
import Derived.Test.YtjchdhpijopikaaRows
import Derived.WalkKit
import Derived.ProofKit
import Derived.Lib.Hide
import Derived.OpenShut
import Derived.WalkSpells
import Derived.StillTactics
import Derived.Laws.Pointers
import Derived.Laws.CopyOwn
import Derived.Laws.AppendOwnNone
import Derived.Deep.RegionHeld3
import Derived.RowKit3
import Derived.BigQuiet
import Derived.Deep.QuietTactic
import Derived.Deep.LoopGhost
import Derived.Deep.DeepFit
import Derived.WalkLawsBesides
import Derived.Shelf.Spec.BitsCarry
import Derived.Deep.MidRow
import Derived.Laws.IdiomStrings
import Derived.Deep.DeepCutAuto
import Derived.Deep.WholeRow
import Derived.Laws.Rows
import Derived.Lib.AppendZerosOnto
import Derived.Lib.SliceRun
import Derived.Deep.AppendLies
import Derived.ShutString
import Derived.ChangeOld
import Derived.Test.YtjchdhpijopikaaZPCA
namespace Go.Proofs.Ytjchdhpijopikaa
open Go.RowKit
/-- The two words of a number of 128 digits. -/
def whi (n : Nat) : Nat := n / 18446744073709551616
def wlo (n : Nat) : Nat := n % 18446744073709551616
theorem plus_num (n a b : Nat) (_ha : a < 18446744073709551616) (_hb : b < 18446744073709551616) (h : n + a * b < 340282366920938463463374607431768211456) :
    adds (mlo a b) (wlo n : Nat) 0 = (wlo (n + a * b) : Nat) ∧ adds (mhi a b) (whi n : Nat) (addc (mlo a b) (wlo n : Nat) 0) = (whi (n + a * b) : Nat) := by
  unfold adds addc mlo mhi wlo whi
  rw [show (a : Int) * (b : Int) = ((a * b : Nat) : Int) from by simp]
  generalize a * b = p at *
  constructor
  · omega
  · omega
theorem mhi_wd (a b : Nat) (ha : a < 18446744073709551616) (hb : b < 18446744073709551616) : Wd (mhi a b) := by
  have h5 : a * b ≤ 18446744073709551615 * 18446744073709551615 := Nat.mul_le_mul (by omega) (by omega)
  unfold mhi
  rw [show (a : Int) * (b : Int) = ((a * b : Nat) : Int) from by simp]
  generalize a * b = p at *
  exact ⟨by omega, by omega⟩
theorem wlo_wd (n : Nat) : Wd (wlo n : Nat) := by unfold wlo; exact ⟨by omega, by omega⟩
theorem whi_wd {n : Nat} (h : n < 340282366920938463463374607431768211456) : Wd (whi n : Nat) := by unfold whi; exact ⟨by omega, by omega⟩
set_option maxHeartbeats 1000000 in
theorem feplus_any (n a b : Nat) (ha : a < 18446744073709551616) (hb : b < 18446744073709551616) (h : n + a * b < 340282366920938463463374607431768211456) (w : World) :
    Calls Try.prog 83 #[.agg #[.int .u64 (whi n : Nat), .int .u64 (wlo n : Nat)], .int .u64 a, .int .u64 b] w fun e w' => e = .returned (.agg #[.int .u64 (whi (n + a * b) : Nat), .int .u64 (wlo (n + a * b) : Nat)]) ∧ Below w.heap.size w w' := by
  have hn := plus_num n a b ha hb h
  have h1 := fun w => add64 (mlo_wd a b) (wlo_wd n) Cy.zero w
  have h2 := fun w => add64 (mhi_wd a b ha hb) (whi_wd (n := n) (by omega)) (addc_cy (mlo_wd a b) (wlo_wd n) Cy.zero) w
  rw [hn.1] at h1
  rw [hn.2] at h2
  have HM := Lib.hid (fun w => mul64_o (x := a) (y := b) ⟨by omega, by omega⟩ ⟨by omega, by omega⟩ w)
  clear hn h ha hb
  go_enter Try.func83, Try.ntmps83
  go_wp2_with (go_at_call 79; go_must (refine (HM.out _).mono ?_; rintro e w1 ⟨rfl, rfl⟩))
  exact bodyPost_ret (v := .agg #[.int .u64 (whi (n + a * b) : Nat), .int .u64 (wlo (n + a * b) : Nat)]) (by simp [results, Try.results83, go_sem]) rfl ⟨rfl, (by repeat (first | (with_reducible refine Below.alloc' ?_ _) | (with_reducible refine Below.drew ?_) | (with_reducible refine below_drewN ?_ _) | ((with_reducible refine Below.setCell ?_ ?_ _); rotate_left; (focus (first | exact Nat.le_refl _ | (simp; done) | (simp; omega)))) | (with_reducible assumption) | (with_reducible exact Below.refl _ _)))⟩
theorem ix5_0 (x0 x1 x2 x3 x4 : Value) (w : World) : (Instr.index 25 (.agg #[x0, x1, x2, x3, x4]) (.int .i64 0)).run Try.prog w = .ok x0 w := by kernel_rfl
theorem ix5_1 (x0 x1 x2 x3 x4 : Value) (w : World) : (Instr.index 25 (.agg #[x0, x1, x2, x3, x4]) (.int .i64 1)).run Try.prog w = .ok x1 w := by kernel_rfl
theorem ix5_2 (x0 x1 x2 x3 x4 : Value) (w : World) : (Instr.index 25 (.agg #[x0, x1, x2, x3, x4]) (.int .i64 2)).run Try.prog w = .ok x2 w := by kernel_rfl
theorem ix5_3 (x0 x1 x2 x3 x4 : Value) (w : World) : (Instr.index 25 (.agg #[x0, x1, x2, x3, x4]) (.int .i64 3)).run Try.prog w = .ok x3 w := by kernel_rfl
theorem ix5_4 (x0 x1 x2 x3 x4 : Value) (w : World) : (Instr.index 25 (.agg #[x0, x1, x2, x3, x4]) (.int .i64 4)).run Try.prog w = .ok x4 w := by kernel_rfl
theorem ix5 (f : Nat → Nat) (k : Nat) (hk : k < 5) (w : World) : (Instr.index 25 (.agg #[.int .u64 (f 0 : Nat), .int .u64 (f 1 : Nat), .int .u64 (f 2 : Nat), .int .u64 (f 3 : Nat), .int .u64 (f 4 : Nat)]) (.int .i64 (k : Nat))).run Try.prog w = .ok (.int .u64 (f k : Nat)) w := by
  have h : k = 0 ∨ k = 1 ∨ k = 2 ∨ k = 3 ∨ k = 4 := by omega
  rcases h with rfl | rfl | rfl | rfl | rfl
  · exact ix5_0 _ _ _ _ _ _
  · exact ix5_1 _ _ _ _ _ _
  · exact ix5_2 _ _ _ _ _ _
  · exact ix5_3 _ _ _ _ _ _
  · exact ix5_4 _ _ _ _ _ _
/-- The columns of a product, when i rows, and j products of the next one, were done. -/
def colStep (f g : Nat → Nat) (i j : Nat) (R : Nat → Nat) (k : Nat) : Nat :=
  if k = (i + j) % 5 then R k + (if 5 ≤ i + j then f i * 19 else f i) * g j else R k
def colJ (f g : Nat → Nat) (i : Nat) (R : Nat → Nat) : Nat → Nat → Nat
  | 0 => R
  | j + 1 => colStep f g i j (colJ f g i R j)
def colI (f g : Nat → Nat) : Nat → Nat → Nat
  | 0 => fun _ => 0
  | i + 1 => colJ f g i (colI f g i) 5
def col (f g : Nat → Nat) (i j : Nat) : Nat → Nat := colJ f g i (colI f g i) j
/-- The columns as cells. -/
def colV (R : Nat → Nat) (q : Nat) : Value := if q % 2 = 0 then .int .u64 (whi (R (q / 2)) : Nat) else .int .u64 (wlo (R (q / 2)) : Nat)
theorem col_succ (f g : Nat → Nat) (i j : Nat) : col f g i (j + 1) = colStep f g i j (col f g i j) := rfl
theorem colStep_le {f g R : Nat → Nat} {i j B : Nat} (hf : Lim f) (hg : Lim g) (hi : i < 5) (hj : j < 5) (h : ∀ k, R k ≤ B) (k : Nat) : colStep f g i j R k ≤ B + 96342400000000000000000000000000 := by
  have h1 := hf.lt i hi
  have h2 := hg.lt j hj
  have h3 : (if 5 ≤ i + j then f i * 19 else f i) ≤ 42784196460020092 := by split <;> omega
  have h4 : (if 5 ≤ i + j then f i * 19 else f i) * g j ≤ 96342400000000000000000000000000 := Nat.le_trans (Nat.mul_le_mul h3 (show g j ≤ 2251799813685268 by omega)) (by decide)
  have := h k
  unfold colStep
  generalize (if 5 ≤ i + j then f i * 19 else f i) * g j = z at *
  split <;> omega
theorem colJ_le {f g R : Nat → Nat} {i B : Nat} (hf : Lim f) (hg : Lim g) (hi : i < 5) (h : ∀ k, R k ≤ B) : ∀ j, j ≤ 5 → ∀ k, colJ f g i R j k ≤ B + j * 96342400000000000000000000000000
  | 0, _, k => by have := h k; simpa [colJ] using this
  | j + 1, hj, k => by
    have := colStep_le (j := j) hf hg hi (by omega) (colJ_le hf hg hi h j (by omega)) k
    show colStep f g i j (colJ f g i R j) k ≤ _
    omega
theorem colI_le {f g : Nat → Nat} (hf : Lim f) (hg : Lim g) : ∀ i, i ≤ 5 → ∀ k, colI f g i k ≤ 5 * i * 96342400000000000000000000000000
  | 0, _, k => by simp [colI]
  | i + 1, hi, k => by
    have := colJ_le hf hg (show i < 5 by omega) (colI_le hf hg i (by omega)) 5 (by omega) k
    show colJ f g i (colI f g i) 5 k ≤ _
    omega
theorem col_le {f g : Nat → Nat} (hf : Lim f) (hg : Lim g) (i j : Nat) (hi : i < 5) (hj : j ≤ 5) (k : Nat) : col f g i j k ≤ 25 * 96342400000000000000000000000000 := by
  have := colJ_le hf hg hi (colI_le hf hg i (by omega)) j hj k
  unfold col
  have h2 : 5 * i * 96342400000000000000000000000000 ≤ 20 * 96342400000000000000000000000000 := Nat.mul_le_mul_right _ (by omega)
  have h3 : j * 96342400000000000000000000000000 ≤ 5 * 96342400000000000000000000000000 := Nat.mul_le_mul_right _ (by omega)
  omega
theorem colV_hi (R : Nat → Nat) (m : Nat) : colV R (m * 2) = .int .u64 (whi (R m) : Nat) := by
  unfold colV; rw [if_pos (by omega), show m * 2 / 2 = m from by omega]
theorem colV_lo (R : Nat → Nat) (m : Nat) : colV R (m * 2 + 1) = .int .u64 (wlo (R m) : Nat) := by
  unfold colV; rw [if_neg (by omega), show (m * 2 + 1) / 2 = m from by omega]
theorem colV_set (R : Nat → Nat) (m v : Nat) : ((row 10 (colV R)).set (m * 2) (.int .u64 (whi v : Nat))).set (m * 2 + 1) (.int .u64 (wlo v : Nat)) = row 10 (colV fun k => if k = m then v else R k) := by
  rw [row_set (g := fun q => if q = m * 2 then .int .u64 (whi v : Nat) else colV R q) (m * 2) _ (by simp) (fun i _ h => by simp [h])]
  refine row_set _ _ ?_ (fun i _ h => ?_)
  · rw [colV_lo, if_pos rfl]
  · by_cases h1 : i = m * 2
    · subst h1; rw [if_pos rfl, colV_hi, if_pos rfl]
    · rw [if_neg h1]
      unfold colV
      simp only [if_neg (show ¬ i / 2 = m by omega)]
theorem col_big (f g : Nat → Nat) (i j : Nat) (h : 5 ≤ i + j) (hi : i < 5) (hj : j < 5) : col f g i (j + 1) = fun k => if k = i + j - 5 then col f g i j (i + j - 5) + f i * 19 * g j else col f g i j k := by
  rw [col_succ]; funext k; unfold colStep
  rw [show (i + j) % 5 = i + j - 5 from by omega]
  by_cases hk : k = i + j - 5
  · subst hk; rw [if_pos rfl, if_pos rfl, if_pos h]
  · rw [if_neg hk, if_neg hk]
theorem col_low (f g : Nat → Nat) (i j : Nat) (h : ¬ 5 ≤ i + j) : col f g i (j + 1) = fun k => if k = i + j then col f g i j (i + j) + f i * g j else col f g i j k := by
  rw [col_succ]; funext k; unfold colStep
  rw [show (i + j) % 5 = i + j from by omega]
  by_cases hk : k = i + j
  · subst hk; rw [if_pos rfl, if_pos rfl, if_neg h]
  · rw [if_neg hk, if_neg hk]
theorem row10 (f : Nat → Value) : row 10 f = [f 0, f 1, f 2, f 3, f 4, f 5, f 6, f 7, f 8, f 9] := rfl
theorem colV_0 (R : Nat → Nat) : colV R 0 = .int .u64 (whi (R 0) : Nat) := rfl
theorem colV_1 (R : Nat → Nat) : colV R 1 = .int .u64 (wlo (R 0) : Nat) := rfl
theorem colV_2 (R : Nat → Nat) : colV R 2 = .int .u64 (whi (R 1) : Nat) := rfl
theorem colV_3 (R : Nat → Nat) : colV R 3 = .int .u64 (wlo (R 1) : Nat) := rfl
theorem colV_4 (R : Nat → Nat) : colV R 4 = .int .u64 (whi (R 2) : Nat) := rfl
theorem colV_5 (R : Nat → Nat) : colV R 5 = .int .u64 (wlo (R 2) : Nat) := rfl
theorem colV_6 (R : Nat → Nat) : colV R 6 = .int .u64 (whi (R 3) : Nat) := rfl
theorem colV_7 (R : Nat → Nat) : colV R 7 = .int .u64 (wlo (R 3) : Nat) := rfl
theorem colV_8 (R : Nat → Nat) : colV R 8 = .int .u64 (whi (R 4) : Nat) := rfl
theorem colV_9 (R : Nat → Nat) : colV R 9 = .int .u64 (wlo (R 4) : Nat) := rfl
/-- The columns are the product, but for 2^255, that is 19. -/
theorem col_val (f g : Nat → Nat) : val (col f g 5 0) % Pq = val f * val g % Pq := by
  have e : val f * val g = (f 0 * g 0 + 2251799813685248 * ((f 0 * g 1 + f 1 * g 0) + 2251799813685248 * ((f 0 * g 2 + f 1 * g 1 + f 2 * g 0) + 2251799813685248 * ((f 0 * g 3 + f 1 * g 2 + f 2 * g 1 + f 3 * g 0) + 2251799813685248 * (f 0 * g 4 + f 1 * g 3 + f 2 * g 2 + f 3 * g 1 + f 4 * g 0))))) +
      57896044618658097711785492504343953926634992332820282019728792003956564819968 * ((f 1 * g 4 + f 2 * g 3 + f 3 * g 2 + f 4 * g 1) + 2251799813685248 * ((f 2 * g 4 + f 3 * g 3 + f 4 * g 2) + 2251799813685248 * ((f 3 * g 4 + f 4 * g 3) + 2251799813685248 * (f 4 * g 4)))) := by
    unfold val; grind
  rw [e, add_mul_mod19]
  congr 1
  simp [val, col, colJ, colI, colStep]
  grind
theorem ixw_0 (x0 x1 x2 x3 x4 x5 x6 x7 x8 x9 : Value) (w : World) : (Instr.index 99 (.agg #[x0, x1, x2, x3, x4, x5, x6, x7, x8, x9]) (.int .i64 0)).run Try.prog w = .ok (.agg #[x0, x1]) w := by kernel_rfl
theorem ixw_1 (x0 x1 x2 x3 x4 x5 x6 x7 x8 x9 : Value) (w : World) : (Instr.index 99 (.agg #[x0, x1, x2, x3, x4, x5, x6, x7, x8, x9]) (.int .i64 1)).run Try.prog w = .ok (.agg #[x2, x3]) w := by kernel_rfl
theorem ixw_2 (x0 x1 x2 x3 x4 x5 x6 x7 x8 x9 : Value) (w : World) : (Instr.index 99 (.agg #[x0, x1, x2, x3, x4, x5, x6, x7, x8, x9]) (.int .i64 2)).run Try.prog w = .ok (.agg #[x4, x5]) w := by kernel_rfl
theorem ixw_3 (x0 x1 x2 x3 x4 x5 x6 x7 x8 x9 : Value) (w : World) : (Instr.index 99 (.agg #[x0, x1, x2, x3, x4, x5, x6, x7, x8, x9]) (.int .i64 3)).run Try.prog w = .ok (.agg #[x6, x7]) w := by kernel_rfl
theorem ixw_4 (x0 x1 x2 x3 x4 x5 x6 x7 x8 x9 : Value) (w : World) : (Instr.index 99 (.agg #[x0, x1, x2, x3, x4, x5, x6, x7, x8, x9]) (.int .i64 4)).run Try.prog w = .ok (.agg #[x8, x9]) w := by kernel_rfl
theorem ixw (R : Nat → Nat) (k : Nat) (hk : k < 5) (w : World) : (Instr.index 99 (.agg #[.int .u64 (whi (R 0) : Nat), .int .u64 (wlo (R 0) : Nat), .int .u64 (whi (R 1) : Nat), .int .u64 (wlo (R 1) : Nat), .int .u64 (whi (R 2) : Nat), .int .u64 (wlo (R 2) : Nat), .int .u64 (whi (R 3) : Nat), .int .u64 (wlo (R 3) : Nat), .int .u64 (whi (R 4) : Nat), .int .u64 (wlo (R 4) : Nat)]) (.int .i64 (k : Nat))).run Try.prog w = .ok (.agg #[.int .u64 (whi (R k) : Nat), .int .u64 (wlo (R k) : Nat)]) w := by
  have h : k = 0 ∨ k = 1 ∨ k = 2 ∨ k = 3 ∨ k = 4 := by omega
  rcases h with rfl | rfl | rfl | rfl | rfl
  · exact ixw_0 _ _ _ _ _ _ _ _ _ _ _
  · exact ixw_1 _ _ _ _ _ _ _ _ _ _ _
  · exact ixw_2 _ _ _ _ _ _ _ _ _ _ _
  · exact ixw_3 _ _ _ _ _ _ _ _ _ _ _
  · exact ixw_4 _ _ _ _ _ _ _ _ _ _ _
theorem lo51 (n : Nat) : bits BinOp.and IntKind.u64 (wlo n : Nat) 2251799813685247 = ((n % 2251799813685248 : Nat) : Int) := by
  rw [and51 _ (by unfold wlo; omega)]; unfold wlo; omega
theorem hi51 (n : Nat) (h : n < 41538374868278621028243970633760768) : bits BinOp.or IntKind.u64 (IntKind.u64.wrap ((whi n : Nat) * 8192 : Int)) ((wlo n : Nat) / 2251799813685248 : Int) = ((n / 2251799813685248 : Nat) : Int) := by
  have h1 : whi n < 2251799813685248 := by unfold whi; omega
  have h2 : wlo n / 2251799813685248 < 2 ^ 13 := by unfold wlo; omega
  rw [wrapU, show ((whi n : Nat) * 8192 : Int) % 18446744073709551616 = ((whi n * 8192 : Nat) : Int) from by omega, show ((wlo n : Nat) : Int) / 2251799813685248 = ((wlo n / 2251799813685248 : Nat) : Int) from by omega, u64_or_nat _ _ (by omega) (by omega)]
  have h3 := Nat.shiftLeft_add_eq_or_of_lt h2 (whi n)
  rw [Nat.shiftLeft_eq] at h3
  rw [show whi n * 8192 = whi n * 2 ^ 13 from rfl, ← h3]
  unfold whi wlo; omega
theorem feplus_one (n a : Nat) (ha : a < 18446744073709551616) (h : n + a < 340282366920938463463374607431768211456) (w : World) :
    Calls Try.prog 83 #[.agg #[.int .u64 (whi n : Nat), .int .u64 (wlo n : Nat)], .int .u64 a, .int .u64 1] w fun e w' => e = .returned (.agg #[.int .u64 (whi (n + a) : Nat), .int .u64 (wlo (n + a) : Nat)]) ∧ Below w.heap.size w w' := by
  have := feplus_any n a 1 ha (by omega) (by omega) w
  rw [Nat.mul_one] at this; exact this
theorem feplus_low (n a b : Nat) (hn : n < 18446744073709551616) (ha : a < 18446744073709551616) (hb : b < 18446744073709551616) (h : n + a * b < 340282366920938463463374607431768211456) (w : World) :
    Calls Try.prog 83 #[.agg #[.int .u64 0, .int .u64 n], .int .u64 a, .int .u64 b] w fun e w' => e = .returned (.agg #[.int .u64 (whi (n + a * b) : Nat), .int .u64 (wlo (n + a * b) : Nat)]) ∧ Below w.heap.size w w' := by
  have := feplus_any n a b ha hb h w
  rw [show whi n = 0 from Nat.div_eq_of_lt hn, show wlo n = n from Nat.mod_eq_of_lt hn] at this; exact this
/-- The limbs of a product ahead of the last carrying. -/
def mulF (R : Nat → Nat) (i : Nat) : Nat :=
  if i = 0 then (pas R 0 0 + cr R 0 5 * 19) % 2251799813685248 else if i = 1 then pas R 0 1 + (pas R 0 0 + cr R 0 5 * 19) / 2251799813685248 else pas R 0 i
theorem mulF_val (R : Nat → Nat) : val (mulF R) % Pq = val R % Pq := by
  have h := pas_val R 0
  rw [Nat.add_zero] at h
  rw [← h, add_mul_mod19]
  congr 1
  simp only [val, mulF, if_true, if_neg (show ¬ (1 = 0) by omega), if_neg (show ¬ (2 = 0) by omega), if_neg (show ¬ (3 = 0) by omega), if_neg (show ¬ (4 = 0) by omega), if_neg (show ¬ (2 = 1) by omega), if_neg (show ¬ (3 = 1) by omega), if_neg (show ¬ (4 = 1) by omega)]
  omega
theorem crR (R : Nat → Nat) (h : ∀ k, R k ≤ 25 * 96342400000000000000000000000000) : ∀ k, cr R 0 k ≤ 1100000000000000000
  | 0 => by simp [cr]
  | k + 1 => by have h1 := crR R h k; have h2 := h k; rw [cr]; omega
def lowV (R : Nat → Nat) (k i : Nat) : Value := if i < k then .int .u64 (pas R 0 i : Nat) else .int .u64 0
theorem lowV_set (R : Nat → Nat) (k : Nat) : (row 5 (lowV R k)).set k (.int .u64 (pas R 0 k : Nat)) = row 5 (lowV R (k + 1)) :=
  row_set k _ (by unfold lowV; rw [if_pos (by omega)]) (fun i _ h => by unfold lowV; by_cases h1 : i < k; rw [if_pos h1, if_pos (by omega)]; rw [if_neg h1, if_neg (by omega)])
set_option maxHeartbeats 2000000 in
theorem femul_any {f g : Nat → Nat} {x y : Nat} (hf : FE f x) (hg : FE g y) (w : World) :
    Calls Try.prog 38 #[.agg #[.int .u64 (f 0 : Nat), .int .u64 (f 1 : Nat), .int .u64 (f 2 : Nat), .int .u64 (f 3 : Nat), .int .u64 (f 4 : Nat)], .agg #[.int .u64 (g 0 : Nat), .int .u64 (g 1 : Nat), .int .u64 (g 2 : Nat), .int .u64 (g 3 : Nat), .int .u64 (g 4 : Nat)]] w fun e w' => ∃ h, e = .returned (.agg #[.int .u64 (h 0 : Nat), .int .u64 (h 1 : Nat), .int .u64 (h 2 : Nat), .int .u64 (h 3 : Nat), .int .u64 (h 4 : Nat)]) ∧ FE h (x * y % Pq) ∧ Below w.heap.size w w' := by
  go_enter Try.func38, Try.ntmps38
  go_wp2
  refine wp_gen (fun W => Blk W (w.heap.size + 1) (row 5 (fV g)) 27 ∧ Blk W (w.heap.size + 1 + 1 + 1) (row 10 (colV (col f g 0 0))) 99 ∧ Blk W (w.heap.size + 1 + 1) (row 5 (fV fun _ => 0)) 27 ∧ Below w.heap.size w W) ?_ (fun W hW => ?_)
  · exact ⟨((Blk.new' (by simp)).alloc _).alloc _, (by rw [show row 10 (colV (col f g 0 0)) = [.int .u64 0, .int .u64 0, .int .u64 0, .int .u64 0, .int .u64 0, .int .u64 0, .int .u64 0, .int .u64 0, .int .u64 0, .int .u64 0] from by simp [row, List.range, List.range.loop, colV, col, colJ, colI, whi, wlo]]; exact Blk.new' (by simp)), (by rw [show row 5 (fV fun _ => 0) = [.int .u64 0, .int .u64 0, .int .u64 0, .int .u64 0, .int .u64 0] from rfl]; exact (Blk.new' (by simp)).alloc _), (by repeat (first | (with_reducible refine Below.alloc' ?_ _) | (with_reducible refine Below.drew ?_) | (with_reducible refine below_drewN ?_ _) | ((with_reducible refine Below.setCell ?_ ?_ _); rotate_left; (focus (first | exact Nat.le_refl _ | (simp; done) | (simp; omega)))) | (with_reducible assumption) | (with_reducible exact Below.refl _ _)))⟩
  obtain ⟨hb1, hw1, ho1, hbl1⟩ := hW
  go_loopw [17] (fun i wr => ∃ k : Nat, k ≤ 5 ∧ i = .int .i64 k ∧ Blk wr (w.heap.size + 1) (row 5 (fV g)) 27 ∧ Blk wr (w.heap.size + 1 + 1 + 1) (row 10 (colV (col f g k 0))) 99 ∧ Blk wr (w.heap.size + 1 + 1) (row 5 (fV fun _ => 0)) 27 ∧ Below w.heap.size w wr) (fun i _ => 5 - (intOf i).toNat)
  case atStart => exact ⟨0, by omega, rfl, hb1, hw1, ho1, hbl1⟩
  case round =>
    clear hb1 hw1 ho1 hbl1 W
    obtain ⟨i, hi, rfl, hbB, hwB, hoB, hbl⟩ := hrel
    obtain ⟨wo, hwo⟩ : ∃ wo : World, wo = wr := ⟨_, rfl⟩
    by_cases hlt : i < 5
    · have hx := ix5 f i hlt
      have hdd : decide ((i : Int) < 5) = true := by simp; omega
      have hbc := hbB.cell
      rw [row5] at hbc
      unfold fV at hbc
      go_wp2
      clear hx hbc
      go_loopw [23] (fun j wr => ∃ k : Nat, k ≤ 5 ∧ j = .int .i64 k ∧ Blk wr (w.heap.size + 1) (row 5 (fV g)) 27 ∧ Blk wr (w.heap.size + 1 + 1 + 1) (row 10 (colV (col f g i k))) 99 ∧ Blk wr (w.heap.size + 1 + 1) (row 5 (fV fun _ => 0)) 27 ∧ Below w.heap.size w wr) (fun j _ => 5 - (intOf j).toNat)
      case atStart => exact ⟨0, by omega, rfl, hbB, hwB, hoB, hbl⟩
      case round =>
        subst hwo
        clear hbB hwB hoB hbl
        obtain ⟨j, hj, rfl, hbB, hwB, hoB, hbl⟩ := hrel
        by_cases hlt' : j < 5
        · have hy := ix5 g j hlt'
          by_cases h5 : 5 ≤ i + j
          · have d5 : decide ((5 : Int) ≤ (i : Int) + (j : Int)) = true := by simp; omega
            have hm : i + j - 5 < 5 := by omega
            have c1 : wr.cell? ⟨w.heap.size + 1 + 1 + 1, (i + j - 5) * 2, none⟩ = some (.int .u64 (whi (col f g i j (i + j - 5)) : Nat)) := by rw [hwB.at (by omega), colV_hi]
            have c2 : wr.cell? ⟨w.heap.size + 1 + 1 + 1, (i + j - 5) * 2 + 1, none⟩ = some (.int .u64 (wlo (col f g i j (i + j - 5)) : Nat)) := by rw [hwB.at (by omega), colV_lo]
            have h19 : IntKind.u64.wrap ((f i : Nat) * 19 : Int) = ((f i * 19 : Nat) : Int) := by have := hf.lim.lt i hlt; rw [wrapU]; omega
            have hP := fun W => feplus_any (col f g i j (i + j - 5)) (f i * 19) (g j) (by have := hf.lim.lt i hlt; omega) (by have := hg.lim.lt j hlt'; omega) (by
              have h1 := col_le hf.lim hg.lim i (j + 1) (by omega) (by omega) (i + j - 5)
              rw [col_big f g i j h5 hlt hlt'] at h1
              simp only [if_true] at h1
              omega) W
            have HP := Lib.hid hP
            have HC := Lib.hid (col_big f g i j h5 hlt hlt')
            have HB := Lib.hid hbB; have HW := Lib.hid hwB; have HO := Lib.hid hoB
            clear hP hbB hwB hoB
            generalize hn : col f g i j (i + j - 5) + f i * 19 * g j = n at *
            clear hn
            generalize f i * 19 = a19 at *
            go_wp2_with (go_at_call 83; go_must (refine (HP.out _).mono ?_; rintro e w1 ⟨rfl, hb⟩; have hB1 := HB.out.below' hb; have hW1 := HW.out.below' hb; have hO1 := HO.out.below' hb; have hbl1 := Below.call hbl hb; have e1 := hW1.cell ((i + j - 5) * 2); have e2 := hW1.cell ((i + j - 5) * 2 + 1); rw [row_get (by omega)] at e1 e2; have ef := hW1.frozen; clear hb hbl c1 c2))
            go_roundw
            case rel => exact ⟨j + 1, by omega, by go_num, (hB1.other _ (by simp; omega) _).other _ (by simp; omega) _, by rw [HC.out, ← colV_set]; exact (hW1.set _ _).set _ _, (hO1.other _ (by simp) _).other _ (by simp) _, (by repeat (first | (with_reducible refine Below.alloc' ?_ _) | (with_reducible refine Below.drew ?_) | (with_reducible refine below_drewN ?_ _) | ((with_reducible refine Below.setCell ?_ ?_ _); rotate_left; (focus (first | exact Nat.le_refl _ | (simp; done) | (simp; omega)))) | (with_reducible assumption) | (with_reducible exact Below.refl _ _)))⟩
            case measure => simp [intOf]; omega
          · have d5 : decide ((5 : Int) ≤ (i : Int) + (j : Int)) = false := by simp; omega
            have hm : i + j < 5 := by omega
            have c1 : wr.cell? ⟨w.heap.size + 1 + 1 + 1, (i + j) * 2, none⟩ = some (.int .u64 (whi (col f g i j (i + j)) : Nat)) := by rw [hwB.at (by omega), colV_hi]
            have c2 : wr.cell? ⟨w.heap.size + 1 + 1 + 1, (i + j) * 2 + 1, none⟩ = some (.int .u64 (wlo (col f g i j (i + j)) : Nat)) := by rw [hwB.at (by omega), colV_lo]
            have hP := fun W => feplus_any (col f g i j (i + j)) (f i) (g j) (by have := hf.lim.lt i hlt; omega) (by have := hg.lim.lt j hlt'; omega) (by
              have h1 := col_le hf.lim hg.lim i (j + 1) (by omega) (by omega) (i + j)
              rw [col_low f g i j h5] at h1
              simp only [if_true] at h1
              omega) W
            have HP := Lib.hid hP
            have HC := Lib.hid (col_low f g i j h5)
            have HB := Lib.hid hbB; have HW := Lib.hid hwB; have HO := Lib.hid hoB
            clear hP hbB hwB hoB
            generalize hn : col f g i j (i + j) + f i * g j = n at *
            clear hn
            go_wp2_with (go_at_call 83; go_must (refine (HP.out _).mono ?_; rintro e w1 ⟨rfl, hb⟩; have hB1 := HB.out.below' hb; have hW1 := HW.out.below' hb; have hO1 := HO.out.below' hb; have hbl1 := Below.call hbl hb; have e1 := hW1.cell ((i + j) * 2); have e2 := hW1.cell ((i + j) * 2 + 1); rw [row_get (by omega)] at e1 e2; have ef := hW1.frozen; clear hb hbl c1 c2))
            go_roundw
            case rel => exact ⟨j + 1, by omega, by go_num, (hB1.other _ (by simp; omega) _).other _ (by simp; omega) _, by rw [HC.out, ← colV_set]; exact (hW1.set _ _).set _ _, (hO1.other _ (by simp) _).other _ (by simp) _, (by repeat (first | (with_reducible refine Below.alloc' ?_ _) | (with_reducible refine Below.drew ?_) | (with_reducible refine below_drewN ?_ _) | ((with_reducible refine Below.setCell ?_ ?_ _); rotate_left; (focus (first | exact Nat.le_refl _ | (simp; done) | (simp; omega)))) | (with_reducible assumption) | (with_reducible exact Below.refl _ _)))⟩
            case measure => simp [intOf]; omega
        · obtain rfl : j = 5 := by omega
          clear hlt' hj
          go_wp2
          go_roundw
          case rel => exact ⟨i + 1, by omega, by go_num, hbB, hwB, hoB, hbl⟩
          case measure => simp [intOf]; omega
    · obtain rfl : i = 5 := by omega
      clear hwo hlt hi hbB
      have hR : ∀ k, col f g 5 0 k ≤ 25 * 96342400000000000000000000000000 := col_le hf.lim hg.lim 4 5 (by omega) (by omega)
      have HV := Lib.hid (col_val f g)
      have HF := Lib.hid hf; have HG := Lib.hid hg
      clear hf hg
      generalize col f g 5 0 = R at *
      rw [row10] at hwB
      rw [row5] at hoB
      unfold fV at hoB
      simp only [colV_0, colV_1, colV_2, colV_3, colV_4, colV_5, colV_6, colV_7, colV_8, colV_9] at hwB
      have hwc := hwB.cell
      have hwlt := hwB.lt
      have HR := Lib.hid hR
      have HO := Lib.hid hoB
      clear hR hwB hoB
      go_wp2
      clear hwc
      obtain ⟨wo, rfl⟩ : ∃ wo : World, wo = wr := ⟨_, rfl⟩
      have hB0 : Below w.heap.size w (wo.alloc (.cells #[.int .u64 0, .int .u64 0, .int .u64 0, .int .u64 0, .int .u64 0] 25)) := (by repeat (first | (with_reducible refine Below.alloc' ?_ _) | (with_reducible refine Below.drew ?_) | (with_reducible refine below_drewN ?_ _) | ((with_reducible refine Below.setCell ?_ ?_ _); rotate_left; (focus (first | exact Nat.le_refl _ | (simp; done) | (simp; omega)))) | (with_reducible assumption) | (with_reducible exact Below.refl _ _)))
      have hL0 : Blk (wo.alloc (.cells #[.int .u64 0, .int .u64 0, .int .u64 0, .int .u64 0, .int .u64 0] 25)) wo.heap.size (row 5 (lowV R 0)) 25 := Blk.new wo _ _
      have hO0 := (HO.out).alloc (.cells #[.int .u64 0, .int .u64 0, .int .u64 0, .int .u64 0, .int .u64 0] 25)
      have HO1 := Lib.hid hO0
      have hwl : w.heap.size + 1 + 1 < wo.heap.size := HO.out.lt
      have hwz : w.heap.size ≤ wo.heap.size := by omega
      clear HO hO0 hbl hwlt
      go_loopw [11, 61] (fun c i wx => ∃ k : Nat, k ≤ 5 ∧ i = .int .i64 k ∧ c = .int .u64 (cr R 0 k : Nat) ∧ Blk wx wo.heap.size (row 5 (lowV R k)) 25 ∧ Hid (Blk wx (w.heap.size + 1 + 1) [.int .u64 0, .int .u64 0, .int .u64 0, .int .u64 0, .int .u64 0] 27) ∧ Below w.heap.size w wx) (fun _ i _ => 5 - (intOf i).toNat)
      case atStart => exact ⟨0, by omega, rfl, rfl, hL0, HO1, hB0⟩
      case round =>
        clear hL0 HO1 hB0
        obtain ⟨k, hk, rfl, rfl, hL, HO, hbel⟩ := hrel
        by_cases hlt : k < 5
        · have hx := ixw R k hlt
          have hcr := crR R HR.out k
          have hRk := HR.out k
          have hP := fun W => feplus_one (R k) (cr R 0 k) (by omega) (by omega) W
          have hlo : bits BinOp.and IntKind.u64 (wlo (R k + cr R 0 k) : Nat) 2251799813685247 = ((pas R 0 k : Nat) : Int) := lo51 _
          have hhi : bits BinOp.or IntKind.u64 (IntKind.u64.wrap ((whi (R k + cr R 0 k) : Nat) * 8192 : Int)) ((wlo (R k + cr R 0 k) : Nat) / 2251799813685248 : Int) = ((cr R 0 (k + 1) : Nat) : Int) := hi51 _ (by omega)
          have HP := Lib.hid hP
          have HL := Lib.hid hL
          have hLs := hL.lt
          have hOs := HO.out.lt
          clear hcr hRk hP hL
          generalize hn : R k + cr R 0 k = n at *
          clear hn
          go_wp2_with (go_at_call 83; go_must (refine (HP.out _).mono ?_; rintro e w1 ⟨rfl, hb⟩; have hV1 := (Blk.new wr #[.int .u64 (whi (R k) : Nat), .int .u64 (wlo (R k) : Nat)] 98).below' hb; have hL1 := (HL.out.alloc _).below' hb; have hO1 := (HO.out.alloc _).below' hb; have hbl1 := Below.call (show Below w.heap.size w _ from (by repeat (first | (with_reducible refine Below.alloc' ?_ _) | (with_reducible refine Below.drew ?_) | (with_reducible refine below_drewN ?_ _) | ((with_reducible refine Below.setCell ?_ ?_ _); rotate_left; (focus (first | exact Nat.le_refl _ | (simp; done) | (simp; omega)))) | (with_reducible assumption) | (with_reducible exact Below.refl _ _)))) hb; have vc := hV1.cell; have vf := hV1.frozen; have lc := hL1.at hlt; have lf := hL1.frozen k; rw [show lowV R k k = .int .u64 0 from if_neg (by omega)] at lc; have hne : ¬ wo.heap.size = wr.heap.size := (by omega); have hne2 : ¬ wr.heap.size = wo.heap.size := (by omega); have HL1 := Lib.hid hL1; have HO1 := Lib.hid hO1; clear hb hV1 hL1 hO1 HL HO))
          go_roundw
          case rel => exact ⟨k + 1, by omega, by go_num, rfl, by have := ((HL1.out.other ⟨wr.heap.size, 0, none⟩ (by simp; omega) (.int .u64 (whi n : Nat))).other ⟨wr.heap.size, 1, none⟩ (by simp; omega) (.int .u64 (wlo n : Nat))).set k (.int .u64 (pas R 0 k : Nat)); rw [lowV_set] at this; exact this, ((HO1.out.other _ (by simp; omega) _).other _ (by simp; omega) _).other _ (by simp; omega) _, (by repeat (first | (with_reducible refine Below.alloc' ?_ _) | (with_reducible refine Below.drew ?_) | (with_reducible refine below_drewN ?_ _) | ((with_reducible refine Below.setCell ?_ ?_ _); rotate_left; (focus (first | exact Nat.le_refl _ | (simp; done) | (simp; omega)))) | (with_reducible assumption) | (with_reducible exact Below.refl _ _)))⟩
          case measure => simp [intOf]; omega
        · obtain rfl : k = 5 := by omega
          have hcr := crR R HR.out 5
          have hL5 : row 5 (lowV R 5) = [.int .u64 (pas R 0 0 : Nat), .int .u64 (pas R 0 1 : Nat), .int .u64 (pas R 0 2 : Nat), .int .u64 (pas R 0 3 : Nat), .int .u64 (pas R 0 4 : Nat)] := rfl
          rw [hL5] at hL
          clear hL5
          have hp := pas_lt R 0
          have HP0 := Lib.hid (fun W => feplus_low (pas R 0 0) (cr R 0 5) 19 (by have := hp 0; omega) (by omega) (by omega) (by have := hp 0; omega) W)
          have hlo : bits BinOp.and IntKind.u64 (wlo (pas R 0 0 + cr R 0 5 * 19) : Nat) 2251799813685247 = ((mulF R 0 : Nat) : Int) := lo51 _
          have hhi : IntKind.u64.wrap ((pas R 0 1 : Nat) + bits BinOp.or IntKind.u64 (IntKind.u64.wrap ((whi (pas R 0 0 + cr R 0 5 * 19) : Nat) * 8192 : Int)) ((wlo (pas R 0 0 + cr R 0 5 * 19) : Nat) / 2251799813685248 : Int) : Int) = ((mulF R 1 : Nat) : Int) := by
            rw [hi51 _ (by have := hp 0; omega), wrapU]
            have := hp 0; have := hp 1
            show _ = ((pas R 0 1 + (pas R 0 0 + cr R 0 5 * 19) / 2251799813685248 : Nat) : Int)
            omega
          have hbd : ∀ i, i < 5 → mulF R i ≤ 9223372036854775808 := fun i _ => by
            have := hp 0; have := hp 1; have := hp i
            unfold mulF; split
            · omega
            · split <;> omega
          have HQ : Hid (FE (cF (mulF R)) (x * y % Pq)) := Lib.hid ⟨cF_lim _ hbd, by rw [cF_val, mulF_val, HV.out, Nat.mul_mod, HF.out.num, HG.out.num]⟩
          have HBD := Lib.hid hbd
          rw [show pas R 0 2 = mulF R 2 from rfl, show pas R 0 3 = mulF R 3 from rfl, show pas R 0 4 = mulF R 4 from rfl] at hL
          have HL := Lib.hid hL
          clear hcr hp hbd hL hk hlt
          have hLc := HL.out.cell
          have hLf := HL.out.frozen
          have hLl := HL.out.lt
          have hOl := HO.out.lt
          generalize pas R 0 0 + cr R 0 5 * 19 = n at *
          go_wp2_with (first             | (go_at_call 83; go_must (refine (HP0.out _).mono ?_; rintro e w1 ⟨rfl, hb⟩; have hL1 := HL.out.below' hb; have lc := hL1.cell; have lf := hL1.frozen; have hO1 := HO.out.below' hb; have hbl1 := Below.call hbel hb; have HL1 := Lib.hid hL1; have HO1 := Lib.hid hO1; have hlt1 := hL1.lt; have hot1 := hO1.lt; have hne : ¬ wo.heap.size = w1.heap.size := (by omega); have hne2 : ¬ w1.heap.size = wo.heap.size := (by omega); clear hb hL1 hO1 HL HO HP0))             | (go_at_call 84; go_must (refine (carried_any (mulF R) HBD.out _).mono ?_; rintro e w2 ⟨rfl, hb⟩; have hO2 := (((HO1.out.other ⟨wo.heap.size, 0, none⟩ (by simp; omega) (.int .u64 (mulF R 0 : Nat))).other ⟨wo.heap.size, 1, none⟩ (by simp; omega) (.int .u64 (mulF R 1 : Nat))).alloc _).below' hb; have oc := hO2.cell; have of := hO2.frozen; have hbl2 := Below.call (show Below w.heap.size w _ from (by repeat (first | (with_reducible refine Below.alloc' ?_ _) | (with_reducible refine Below.drew ?_) | (with_reducible refine below_drewN ?_ _) | ((with_reducible refine Below.setCell ?_ ?_ _); rotate_left; (focus (first | exact Nat.le_refl _ | (simp; done) | (simp; omega)))) | (with_reducible assumption) | (with_reducible exact Below.refl _ _)))) hb; clear hb hO2 lc lf)))
          exact bodyPost_ret (v := .agg #[.int .u64 (cF (mulF R) 0 : Nat), .int .u64 (cF (mulF R) 1 : Nat), .int .u64 (cF (mulF R) 2 : Nat), .int .u64 (cF (mulF R) 3 : Nat), .int .u64 (cF (mulF R) 4 : Nat)]) (by simp [results, Try.results38, go_sem, oc]) rfl ⟨_, rfl, HQ.out, (by repeat (first | (with_reducible refine Below.alloc' ?_ _) | (with_reducible refine Below.drew ?_) | (with_reducible refine below_drewN ?_ _) | ((with_reducible refine Below.setCell ?_ ?_ _); rotate_left; (focus (first | exact Nat.le_refl _ | (simp; done) | (simp; omega)))) | (with_reducible assumption) | (with_reducible exact Below.refl _ _)))⟩
end Go.Proofs.Ytjchdhpijopikaa
namespace Go.Proofs.Ytjchdhpijopikaa
open Go.RowKit
theorem pow_step (x N j : Nat) : (x ^ (N / 2 ^ (j + 1)) % Pq) * (x ^ (N / 2 ^ (j + 1)) % Pq) % Pq = x ^ (2 * (N / 2 ^ (j + 1))) % Pq := by
  rw [← Nat.mul_mod, ← Nat.pow_add]; congr 2; omega
theorem half_step (N j : Nat) : N / 2 ^ j = 2 * (N / 2 ^ (j + 1)) + N / 2 ^ j % 2 := by
  rw [Nat.pow_succ, ← Nat.div_div_eq_div_mul]; omega
/-- The exponent's digit, as the walk tests it. -/
theorem dig_test (N j : Nat) (x : Int) (hx : x = (lw N (j / 64) : Nat)) : (bits BinOp.and IntKind.u64 (x / 2 ^ (j % 64)) 1 == 1) = decide (N / 2 ^ j % 2 = 1) := by
  subst hx
  have hq : lw N (j / 64) / 2 ^ (j % 64) < 18446744073709551616 := Nat.lt_of_le_of_lt (Nat.div_le_self _ _) (lw_lt _ _)
  rw [show ((lw N (j / 64) : Nat) : Int) / 2 ^ (j % 64) = ((lw N (j / 64) / 2 ^ (j % 64) : Nat) : Int) from by simp, show (1 : Int) = ((1 : Nat) : Int) from rfl, u64_and_nat _ 1 hq (by omega), Nat.and_one_is_mod, lw_bit]
  generalize N / 2 ^ j % 2 = b
  by_cases hb : b = 1
  · subst hb; simp
  · rw [decide_eq_false hb, beq_eq_false_iff_ne]; omega
theorem pow_odd (x N j : Nat) (h : N / 2 ^ j % 2 = 1) : x ^ (N / 2 ^ j) % Pq = (x ^ (N / 2 ^ (j + 1)) % Pq) * (x ^ (N / 2 ^ (j + 1)) % Pq) % Pq * x % Pq := by
  have e : N / 2 ^ j = 2 * (N / 2 ^ (j + 1)) + 1 := by have := half_step N j; omega
  rw [pow_step, e, Nat.pow_succ]
  generalize x ^ (2 * (N / 2 ^ (j + 1))) = y
  rw [Nat.mul_mod (y % Pq), Nat.mod_mod, ← Nat.mul_mod]
set_option maxHeartbeats 1000000 in
theorem power_any {f : Nat → Nat} {x : Nat} (N T : Nat) (hT1 : T ≤ 256) (hT2 : 256 ≤ T) (hN : N < 2 ^ T) (hf : FE f x) (w : World) :
    Calls Try.prog 85 #[.agg #[.int .u64 (f 0 : Nat), .int .u64 (f 1 : Nat), .int .u64 (f 2 : Nat), .int .u64 (f 3 : Nat), .int .u64 (f 4 : Nat)], .agg #[.int .u64 (lw N 0 : Nat), .int .u64 (lw N 1 : Nat), .int .u64 (lw N 2 : Nat), .int .u64 (lw N 3 : Nat)]] w fun e w' => ∃ h, e = .returned (.agg #[.int .u64 (h 0 : Nat), .int .u64 (h 1 : Nat), .int .u64 (h 2 : Nat), .int .u64 (h 3 : Nat), .int .u64 (h 4 : Nat)]) ∧ FE h (x ^ N % Pq) ∧ Below w.heap.size w w' := by
  have HN := Lib.hid hN; have HF := Lib.hid hf
  clear hN hf
  go_enter Try.func85, Try.ntmps85
  go_upto_region 2 with (go_at_call 37; go_must (refine (fesmall_any (n := 1) (by omega) _).mono ?_; rintro e w1 ⟨rfl, hb⟩))
  refine wp_gen (fun W => Blk W w.heap.size [.int .u64 (f 0 : Nat),.int .u64 (f 1 : Nat),.int .u64 (f 2 : Nat),.int .u64 (f 3 : Nat),.int .u64 (f 4 : Nat)] 27 ∧ Blk W (w.heap.size + 1) (row 4 (wV N)) 44 ∧ Blk W (w.heap.size + 1 + 1) [.int .u64 0, .int .u64 0, .int .u64 0, .int .u64 0, .int .u64 0] 27 ∧ (∃ h, FE h (x ^ (N / 2 ^ T) % Pq) ∧ Blk W w1.heap.size [.int .u64 (h 0 : Nat),.int .u64 (h 1 : Nat),.int .u64 (h 2 : Nat),.int .u64 (h 3 : Nat),.int .u64 (h 4 : Nat)] 27) ∧ Below w.heap.size w W) ?_ (fun W hW => ?_)
  · refine ⟨(((Blk.new w _ _).alloc _).alloc _ |>.below' hb).alloc _, (((Blk.new' (by simp)).alloc _).below' hb).alloc _, ((Blk.new' (by simp)).below' hb).alloc _, ⟨smallF 1, ?_, Blk.new w1 _ _⟩, Below.alloc' (Below.call (by repeat (first | (with_reducible refine Below.alloc' ?_ _) | (with_reducible refine Below.drew ?_) | (with_reducible refine below_drewN ?_ _) | ((with_reducible refine Below.setCell ?_ ?_ _); rotate_left; (focus (first | exact Nat.le_refl _ | (simp; done) | (simp; omega)))) | (with_reducible assumption) | (with_reducible exact Below.refl _ _))) hb) _⟩
    rw [Nat.div_eq_of_lt HN.out, Nat.pow_zero]
    exact FE.small (by omega)
  have hs1 : w.heap.size + 1 + 1 < w1.heap.size := by have := hb.size; simp at this; omega
  obtain ⟨hA, hK, hO, hH, hbel⟩ := hW
  clear hb
  generalize w1.heap.size = g at *
  clear w1
  go_wp2
  go_loopw [6] (fun i wr => ∃ k : Nat, k ≤ 256 ∧ i = .int .i64 ((k : Int) - 1) ∧ Blk wr w.heap.size [.int .u64 (f 0 : Nat),.int .u64 (f 1 : Nat),.int .u64 (f 2 : Nat),.int .u64 (f 3 : Nat),.int .u64 (f 4 : Nat)] 27 ∧ Blk wr (w.heap.size + 1) (row 4 (wV N)) 44 ∧ Blk wr (w.heap.size + 1 + 1) [.int .u64 0, .int .u64 0, .int .u64 0, .int .u64 0, .int .u64 0] 27 ∧ (∃ h, FE h (x ^ (N / 2 ^ k) % Pq) ∧ Blk wr g [.int .u64 (h 0 : Nat),.int .u64 (h 1 : Nat),.int .u64 (h 2 : Nat),.int .u64 (h 3 : Nat),.int .u64 (h 4 : Nat)] 27) ∧ Below w.heap.size w wr) (fun i _ => (intOf i + 1).toNat)
  case atStart => exact ⟨T, by omega, by congr 1; omega, hA, hK, hO, hH, hbel⟩
  case round =>
    clear hA hK hO hH hbel W
    obtain ⟨k, hk, rfl, hA, hK, hO, ⟨h, hh, hH⟩, hbel⟩ := hrel
    by_cases hk0 : k = 0
    · subst hk0
      rw [Nat.pow_zero, Nat.div_one] at hh
      have hHc := hH.cell; have hOc := hO.cell; have hOf := hO.frozen
      rw [show (((0 : Nat) : Int) - 1) = -1 from rfl]
      clear hA hK hO hH hk
      go_wp2
      exact bodyPost_ret (v := .agg #[.int .u64 (h 0 : Nat), .int .u64 (h 1 : Nat), .int .u64 (h 2 : Nat), .int .u64 (h 3 : Nat), .int .u64 (h 4 : Nat)]) (by simp [results, Try.results85, go_sem, hOc]) rfl ⟨_, rfl, hh, (by repeat (first | (with_reducible refine Below.alloc' ?_ _) | (with_reducible refine Below.drew ?_) | (with_reducible refine below_drewN ?_ _) | ((with_reducible refine Below.setCell ?_ ?_ _); rotate_left; (focus (first | exact Nat.le_refl _ | (simp; done) | (simp; omega)))) | (with_reducible assumption) | (with_reducible exact Below.refl _ _)))⟩
    · obtain ⟨j, rfl⟩ : ∃ j, k = j + 1 := ⟨k - 1, by omega⟩
      rw [show (((j + 1 : Nat) : Int) - 1) = (j : Int) from by omega]
      have hj4 : j / 64 < 4 := by omega
      obtain ⟨xi, hxi⟩ : ∃ xi : Int, xi = (lw N (j / 64) : Nat) := ⟨_, rfl⟩
      have HD := Lib.hid (dig_test N j xi hxi)
      have hx0 : 0 ≤ xi := by omega
      have hx1 : xi < 18446744073709551616 := by have := lw_lt N (j / 64); omega
      have HK := Lib.hid (show ∀ W, Blk W (w.heap.size + 1) (row 4 (wV N)) 44 → W.cell? ⟨w.heap.size + 1, j / 64, none⟩ = some (.int .u64 xi) from fun W h => by rw [h.at hj4, hxi]; rfl)
      have hHc := hH.cell
      have HA0 := Lib.hid hA; have HK0 := Lib.hid hK; have HO0 := Lib.hid hO; have HH0 := Lib.hid hH
      clear hxi hA hK hO hH hk0
      by_cases hb : N / 2 ^ j % 2 = 1
      · have hd : (bits BinOp.and IntKind.u64 (xi / 2 ^ (j % 64)) 1 == 1) = true := by rw [HD.out, decide_eq_true hb]
        have HB := Lib.hid hb
        clear hb
        go_wp2_with (go_at_call 38; first | ((with_reducible refine (femul_any hh hh _).mono ?_); rintro e w1 ⟨h1, rfl, hh1, hb1⟩; have hH1 := HH0.out.below' hb1; have hHf := hH1.frozen; have hHc1 := hH1.cell; have kc := HK.out _ (HK0.out.below' hb1); have ac := (HA0.out.below' hb1).cell; have hg1 : ¬ g = w.heap.size + 1 := (by omega); have hg2 : ¬ g = w.heap.size := (by omega); have hg3 : ¬ w.heap.size + 1 = g := (by omega); have hg4 : ¬ w.heap.size = g := (by omega); have HA1 := Lib.hid (HA0.out.below' hb1); have HK1 := Lib.hid (HK0.out.below' hb1); have HO1 := Lib.hid (HO0.out.below' hb1); have HH1 := Lib.hid hH1; have hbel1 := Below.call hbel hb1; clear hb1 hH1 hHc HA0 HK0 HO0 HH0 hbel) | ((with_reducible refine (femul_any hh1 HF.out _).mono ?_); rintro e w2 ⟨h2, rfl, hh2, hb2⟩; have hH2 := (((((HH1.out.set 0 (.int .u64 (h1 0 : Nat))).set 1 (.int .u64 (h1 1 : Nat))).set 2 (.int .u64 (h1 2 : Nat))).set 3 (.int .u64 (h1 3 : Nat))).set 4 (.int .u64 (h1 4 : Nat))).below' hb2; have hHf2 := hH2.frozen; have hHc2 := hH2.cell; have HH2 := Lib.hid hH2; have HA2 := Lib.hid ((((((HA1.out.other ⟨g, 0, none⟩ (by simp; omega) (.int .u64 (h1 0 : Nat))).other ⟨g, 1, none⟩ (by simp; omega) (.int .u64 (h1 1 : Nat))).other ⟨g, 2, none⟩ (by simp; omega) (.int .u64 (h1 2 : Nat))).other ⟨g, 3, none⟩ (by simp; omega) (.int .u64 (h1 3 : Nat))).other ⟨g, 4, none⟩ (by simp; omega) (.int .u64 (h1 4 : Nat))).below' hb2); have HK2 := Lib.hid ((((((HK1.out.other ⟨g, 0, none⟩ (by simp; omega) (.int .u64 (h1 0 : Nat))).other ⟨g, 1, none⟩ (by simp; omega) (.int .u64 (h1 1 : Nat))).other ⟨g, 2, none⟩ (by simp; omega) (.int .u64 (h1 2 : Nat))).other ⟨g, 3, none⟩ (by simp; omega) (.int .u64 (h1 3 : Nat))).other ⟨g, 4, none⟩ (by simp; omega) (.int .u64 (h1 4 : Nat))).below' hb2); have HO2 := Lib.hid ((((((HO1.out.other ⟨g, 0, none⟩ (by simp; omega) (.int .u64 (h1 0 : Nat))).other ⟨g, 1, none⟩ (by simp; omega) (.int .u64 (h1 1 : Nat))).other ⟨g, 2, none⟩ (by simp; omega) (.int .u64 (h1 2 : Nat))).other ⟨g, 3, none⟩ (by simp; omega) (.int .u64 (h1 3 : Nat))).other ⟨g, 4, none⟩ (by simp; omega) (.int .u64 (h1 4 : Nat))).below' hb2); have hbel2 := Below.call (show Below w.heap.size w _ from (by repeat (first | (with_reducible refine Below.alloc' ?_ _) | (with_reducible refine Below.drew ?_) | (with_reducible refine below_drewN ?_ _) | ((with_reducible refine Below.setCell ?_ ?_ _); rotate_left; (focus (first | exact Nat.le_refl _ | (simp; done) | (simp; omega)))) | (with_reducible assumption) | (with_reducible exact Below.refl _ _)))) hb2; clear hb2 hH2 hHc1 hHf kc ac HA1 HK1 HO1 HH1 hbel1))
        go_roundw
        case rel => exact ⟨j, by omega, rfl, (((((HA2.out.other ⟨g, 0, none⟩ (by simp; omega) (.int .u64 (h2 0 : Nat))).other ⟨g, 1, none⟩ (by simp; omega) (.int .u64 (h2 1 : Nat))).other ⟨g, 2, none⟩ (by simp; omega) (.int .u64 (h2 2 : Nat))).other ⟨g, 3, none⟩ (by simp; omega) (.int .u64 (h2 3 : Nat))).other ⟨g, 4, none⟩ (by simp; omega) (.int .u64 (h2 4 : Nat))), (((((HK2.out.other ⟨g, 0, none⟩ (by simp; omega) (.int .u64 (h2 0 : Nat))).other ⟨g, 1, none⟩ (by simp; omega) (.int .u64 (h2 1 : Nat))).other ⟨g, 2, none⟩ (by simp; omega) (.int .u64 (h2 2 : Nat))).other ⟨g, 3, none⟩ (by simp; omega) (.int .u64 (h2 3 : Nat))).other ⟨g, 4, none⟩ (by simp; omega) (.int .u64 (h2 4 : Nat))), (((((HO2.out.other ⟨g, 0, none⟩ (by simp; omega) (.int .u64 (h2 0 : Nat))).other ⟨g, 1, none⟩ (by simp; omega) (.int .u64 (h2 1 : Nat))).other ⟨g, 2, none⟩ (by simp; omega) (.int .u64 (h2 2 : Nat))).other ⟨g, 3, none⟩ (by simp; omega) (.int .u64 (h2 3 : Nat))).other ⟨g, 4, none⟩ (by simp; omega) (.int .u64 (h2 4 : Nat))), ⟨h2, by rw [pow_odd x N j HB.out]; exact hh2, (((((HH2.out.set 0 (.int .u64 (h2 0 : Nat))).set 1 (.int .u64 (h2 1 : Nat))).set 2 (.int .u64 (h2 2 : Nat))).set 3 (.int .u64 (h2 3 : Nat))).set 4 (.int .u64 (h2 4 : Nat)))⟩, (by repeat (first | (with_reducible refine Below.alloc' ?_ _) | (with_reducible refine Below.drew ?_) | (with_reducible refine below_drewN ?_ _) | ((with_reducible refine Below.setCell ?_ ?_ _); rotate_left; (focus (first | exact Nat.le_refl _ | (simp; done) | (simp; omega)))) | (with_reducible assumption) | (with_reducible exact Below.refl _ _)))⟩
        case measure => simp [intOf] <;> omega
      · have hd : (bits BinOp.and IntKind.u64 (xi / 2 ^ (j % 64)) 1 == 1) = false := by rw [HD.out, decide_eq_false hb]
        have HB : Hid (N / 2 ^ j % 2 = 0) := Lib.hid (by omega)
        clear hb
        go_wp2_with (go_at_call 38; first | ((with_reducible refine (femul_any hh hh _).mono ?_); rintro e w1 ⟨h1, rfl, hh1, hb1⟩; have hH1 := HH0.out.below' hb1; have hHf := hH1.frozen; have hHc1 := hH1.cell; have kc := HK.out _ (HK0.out.below' hb1); have ac := (HA0.out.below' hb1).cell; have hg1 : ¬ g = w.heap.size + 1 := (by omega); have hg2 : ¬ g = w.heap.size := (by omega); have hg3 : ¬ w.heap.size + 1 = g := (by omega); have hg4 : ¬ w.heap.size = g := (by omega); have HA1 := Lib.hid (HA0.out.below' hb1); have HK1 := Lib.hid (HK0.out.below' hb1); have HO1 := Lib.hid (HO0.out.below' hb1); have HH1 := Lib.hid hH1; have hbel1 := Below.call hbel hb1; clear hb1 hH1 hHc HA0 HK0 HO0 HH0 hbel))
        go_roundw
        case rel => exact ⟨j, by omega, rfl, (((((HA1.out.other ⟨g, 0, none⟩ (by simp; omega) (.int .u64 (h1 0 : Nat))).other ⟨g, 1, none⟩ (by simp; omega) (.int .u64 (h1 1 : Nat))).other ⟨g, 2, none⟩ (by simp; omega) (.int .u64 (h1 2 : Nat))).other ⟨g, 3, none⟩ (by simp; omega) (.int .u64 (h1 3 : Nat))).other ⟨g, 4, none⟩ (by simp; omega) (.int .u64 (h1 4 : Nat))), (((((HK1.out.other ⟨g, 0, none⟩ (by simp; omega) (.int .u64 (h1 0 : Nat))).other ⟨g, 1, none⟩ (by simp; omega) (.int .u64 (h1 1 : Nat))).other ⟨g, 2, none⟩ (by simp; omega) (.int .u64 (h1 2 : Nat))).other ⟨g, 3, none⟩ (by simp; omega) (.int .u64 (h1 3 : Nat))).other ⟨g, 4, none⟩ (by simp; omega) (.int .u64 (h1 4 : Nat))), (((((HO1.out.other ⟨g, 0, none⟩ (by simp; omega) (.int .u64 (h1 0 : Nat))).other ⟨g, 1, none⟩ (by simp; omega) (.int .u64 (h1 1 : Nat))).other ⟨g, 2, none⟩ (by simp; omega) (.int .u64 (h1 2 : Nat))).other ⟨g, 3, none⟩ (by simp; omega) (.int .u64 (h1 3 : Nat))).other ⟨g, 4, none⟩ (by simp; omega) (.int .u64 (h1 4 : Nat))), ⟨h1, by rw [half_step, HB.out, Nat.add_zero, ← pow_step]; exact hh1, (((((HH1.out.set 0 (.int .u64 (h1 0 : Nat))).set 1 (.int .u64 (h1 1 : Nat))).set 2 (.int .u64 (h1 2 : Nat))).set 3 (.int .u64 (h1 3 : Nat))).set 4 (.int .u64 (h1 4 : Nat)))⟩, (by repeat (first | (with_reducible refine Below.alloc' ?_ _) | (with_reducible refine Below.drew ?_) | (with_reducible refine below_drewN ?_ _) | ((with_reducible refine Below.setCell ?_ ?_ _); rotate_left; (focus (first | exact Nat.le_refl _ | (simp; done) | (simp; omega)))) | (with_reducible assumption) | (with_reducible exact Below.refl _ _)))⟩
        case measure => simp [intOf] <;> omega
set_option maxHeartbeats 1000000 in
theorem feinv_any {f : Nat → Nat} {x : Nat} (hf : FE f x) (w : World) :
    Calls Try.prog 42 #[.agg #[.int .u64 (f 0 : Nat), .int .u64 (f 1 : Nat), .int .u64 (f 2 : Nat), .int .u64 (f 3 : Nat), .int .u64 (f 4 : Nat)]] w fun e w' => ∃ h, e = .returned (.agg #[.int .u64 (h 0 : Nat), .int .u64 (h 1 : Nat), .int .u64 (h 2 : Nat), .int .u64 (h 3 : Nat), .int .u64 (h 4 : Nat)]) ∧ FE h (x ^ expInv % Pq) ∧ Below w.heap.size w w' := by
  have hP := fun W => power_any expInv (8 * 32) (by omega) (by omega) (by decide +kernel) hf W
  rw [show lw expInv 0 = 18446744073709551595 from by decide +kernel, show lw expInv 1 = 18446744073709551615 from by decide +kernel, show lw expInv 2 = 18446744073709551615 from by decide +kernel, show lw expInv 3 = 9223372036854775807 from by decide +kernel] at hP
  have HP := Lib.hid hP
  clear hP
  go_enter Try.func42, Try.ntmps42
  go_wp2_with (go_at_call 85; go_must (refine (HP.out _).mono ?_; rintro e w1 ⟨h, rfl, hr, hb⟩; have hO := (show Blk _ (w.heap.size + 1) [.int .u64 0, .int .u64 0, .int .u64 0, .int .u64 0, .int .u64 0] 27 from (by repeat (first | (with_reducible refine Blk.drew ?_) | exact Blk.new' (by simp) | (with_reducible refine Blk.alloc ?_ _)))).below' hb; have hOc := hO.cell; have hOf := hO.frozen; have hbel : Below w.heap.size w w1 := Below.call (by repeat (first | (with_reducible refine Below.alloc' ?_ _) | (with_reducible refine Below.drew ?_) | (with_reducible refine below_drewN ?_ _) | ((with_reducible refine Below.setCell ?_ ?_ _); rotate_left; (focus (first | exact Nat.le_refl _ | (simp; done) | (simp; omega)))) | (with_reducible assumption) | (with_reducible exact Below.refl _ _))) hb; clear hb hO))
  exact bodyPost_ret (v := .agg #[.int .u64 (h 0 : Nat), .int .u64 (h 1 : Nat), .int .u64 (h 2 : Nat), .int .u64 (h 3 : Nat), .int .u64 (h 4 : Nat)]) (by simp [results, Try.results42, go_sem, hOc]) rfl ⟨_, rfl, hr, (by repeat (first | (with_reducible refine Below.alloc' ?_ _) | (with_reducible refine Below.drew ?_) | (with_reducible refine below_drewN ?_ _) | ((with_reducible refine Below.setCell ?_ ?_ _); rotate_left; (focus (first | exact Nat.le_refl _ | (simp; done) | (simp; omega)))) | (with_reducible assumption) | (with_reducible exact Below.refl _ _)))⟩
end Go.Proofs.Ytjchdhpijopikaa
namespace Go.Proofs.Ytjchdhpijopikaa
open Go.RowKit
/-- A digit of 51 binary digits. -/
def dg (n i : Nat) : Nat := n / 2 ^ (51 * i) % 2251799813685248
theorem dg_lt (n i : Nat) : dg n i < 2251799813685248 := Nat.mod_lt _ (by omega)
theorem dg_of (f : Nat → Nat) (h : ∀ i, f i < 2251799813685248) (i : Nat) (hi : i < 5) : dg (val f) i = f i := by
  have h0 := h 0; have h1 := h 1; have h2 := h 2; have h3 := h 3; have h4 := h 4
  have hh : i = 0 ∨ i = 1 ∨ i = 2 ∨ i = 3 ∨ i = 4 := by omega
  unfold dg val
  rcases hh with rfl | rfl | rfl | rfl | rfl <;> simp only [Nat.reduceMul, Nat.reducePow] <;> omega
theorem pas_small (f : Nat → Nat) (c0 : Nat) : val (pas f c0) < 57896044618658097711785492504343953926634992332820282019728792003956564819968 := by
  have h0 := pas_lt f c0 0; have h1 := pas_lt f c0 1; have h2 := pas_lt f c0 2; have h3 := pas_lt f c0 3; have h4 := pas_lt f c0 4
  unfold val; omega
theorem cr_five (f : Nat → Nat) (c0 : Nat) : cr f c0 5 = (val f + c0) / 57896044618658097711785492504343953926634992332820282019728792003956564819968 ∧ val (pas f c0) = (val f + c0) % 57896044618658097711785492504343953926634992332820282019728792003956564819968 := by
  have h1 := pas_val f c0
  have h2 := pas_small f c0
  omega
theorem Lim.val {f : Nat → Nat} (h : Lim f) : val f < 57896044618658097711785492504343953926634992332820282019728792003956564819968 + 20 := by
  have := h.l0; have := h.l1; have := h.l2; have := h.l3; have := h.l4
  unfold Go.Proofs.Ytjchdhpijopikaa.val; omega
theorem whole_num {f : Nat → Nat} {x : Nat} (h : FE f x) : val (pas f (cr f 19 5 * 19)) = x := by
  have h1 := h.lim.val
  rw [(cr_five f _).2, (cr_five f 19).1, ← h.num]
  unfold Pq
  generalize val f = v at *
  by_cases hv : v < 57896044618658097711785492504343953926634992332820282019728792003956564819949
  · rw [Nat.div_eq_of_lt (show v + 19 < 57896044618658097711785492504343953926634992332820282019728792003956564819968 by omega), Nat.mod_eq_of_lt hv, Nat.mod_eq_of_lt (by omega)]
    omega
  · rw [show (v + 19) / 57896044618658097711785492504343953926634992332820282019728792003956564819968 = 1 by omega]
    omega
theorem whole_dg {f : Nat → Nat} {x : Nat} (h : FE f x) (i : Nat) (hi : i < 5) : pas f (cr f 19 5 * 19) i = dg x i := by
  rw [← whole_num h]; exact (dg_of _ (pas_lt _ _) i hi).symm
theorem FE.carry {f : Nat → Nat} {x : Nat} (h : FE f x) : FE (cF f) x := ⟨cF_lim f (fun i hi => by have := h.lim.lt i hi; omega), by rw [cF_val, h.num]⟩
theorem FE.sum_lt {f : Nat → Nat} {x : Nat} (h : FE f x) (c0 k : Nat) (hc : c0 ≤ 19) (hk : k < 5) : f k + cr f c0 k < 18446744073709551616 := by
  have h1 := h.lim.lt k hk
  have h2 := cr_lt f c0 (fun i hi => by have := h.lim.lt i hi; omega) (by omega) k (by omega)
  omega
set_option maxHeartbeats 1000000 in
theorem whole_any {f : Nat → Nat} {x : Nat} (hf : FE f x) (w : World) :
    Calls Try.prog 87 #[.agg #[.int .u64 (f 0 : Nat), .int .u64 (f 1 : Nat), .int .u64 (f 2 : Nat), .int .u64 (f 3 : Nat), .int .u64 (f 4 : Nat)]] w fun e w' => e = .returned (.agg #[.int .u64 (dg x 0 : Nat), .int .u64 (dg x 1 : Nat), .int .u64 (dg x 2 : Nat), .int .u64 (dg x 3 : Nat), .int .u64 (dg x 4 : Nat)]) ∧ Below w.heap.size w w' := by
  have hb1 : ∀ i, i < 5 → f i ≤ 9223372036854775808 := fun i hi => by have := hf.lim.lt i hi; omega
  have hb2 : ∀ i, i < 5 → cF f i ≤ 9223372036854775808 := fun i hi => by have := hf.carry.lim.lt i hi; omega
  have HB1 := Lib.hid hb1; have HB2 := Lib.hid hb2
  have HE := Lib.hid hf.carry.carry
  clear hb1 hb2 hf
  have fld : ∀ (x0 x1 x2 x3 x4 : Value) (w : World), (Instr.field 27 (.agg #[x0, x1, x2, x3, x4]) 0).run Try.prog w = .ok (.agg #[x0, x1, x2, x3, x4]) w := fun _ _ _ _ _ _ => by kernel_rfl
  go_enter Try.func87, Try.ntmps87
  go_upto_region 3 with (go_at_call 84; first | ((with_reducible refine (carried_any f HB1.out _).mono ?_); rintro e w1 ⟨rfl, hb1⟩; have hO1 := (show Blk _ (w.heap.size + 1) [.int .u64 0, .int .u64 0, .int .u64 0, .int .u64 0, .int .u64 0] 25 from (by repeat (first | (with_reducible refine Blk.drew ?_) | exact Blk.new' (by simp) | (with_reducible refine Blk.alloc ?_ _)))).below' hb1; have hbel1 : Below w.heap.size w w1 := Below.call (by repeat (first | (with_reducible refine Below.alloc' ?_ _) | (with_reducible refine Below.drew ?_) | (with_reducible refine below_drewN ?_ _) | ((with_reducible refine Below.setCell ?_ ?_ _); rotate_left; (focus (first | exact Nat.le_refl _ | (simp; done) | (simp; omega)))) | (with_reducible assumption) | (with_reducible exact Below.refl _ _))) hb1; clear hb1) | ((with_reducible refine (carried_any (cF f) HB2.out _).mono ?_); rintro e w2 ⟨rfl, hb2⟩; have hL2 := (Blk.new w1 #[.int .u64 (cF f 0 : Nat),.int .u64 (cF f 1 : Nat),.int .u64 (cF f 2 : Nat),.int .u64 (cF f 3 : Nat),.int .u64 (cF f 4 : Nat)] 25).below' hb2; have hO2 := (hO1.alloc _).below' hb2; have hbel2 : Below w.heap.size w w2 := Below.call (show Below w.heap.size w _ from (by repeat (first | (with_reducible refine Below.alloc' ?_ _) | (with_reducible refine Below.drew ?_) | (with_reducible refine below_drewN ?_ _) | ((with_reducible refine Below.setCell ?_ ?_ _); rotate_left; (focus (first | exact Nat.le_refl _ | (simp; done) | (simp; omega)))) | (with_reducible assumption) | (with_reducible exact Below.refl _ _)))) hb2; have lc := hL2.cell; have lf := hL2.frozen; have hg : w.heap.size + 1 < w1.heap.size := hO1.lt; clear hb2 hbel1 hO1))
  refine wp_gen (fun W => Blk W w1.heap.size (row 5 (fV (cF (cF f)))) 25 ∧ Blk W (w.heap.size + 1) [.int .u64 0, .int .u64 0, .int .u64 0, .int .u64 0, .int .u64 0] 25 ∧ Below w.heap.size w W) ?_ (fun W hW => ?_)
  · exact ⟨(((((hL2.set 0 (.int .u64 (cF (cF f) 0 : Nat))).set 1 (.int .u64 (cF (cF f) 1 : Nat))).set 2 (.int .u64 (cF (cF f) 2 : Nat))).set 3 (.int .u64 (cF (cF f) 3 : Nat))).set 4 (.int .u64 (cF (cF f) 4 : Nat))), (((((hO2.other _ (by simp; omega) _).other _ (by simp; omega) _).other _ (by simp; omega) _).other _ (by simp; omega) _).other _ (by simp; omega) _), (by repeat (first | (with_reducible refine Below.alloc' ?_ _) | (with_reducible refine Below.drew ?_) | (with_reducible refine below_drewN ?_ _) | ((with_reducible refine Below.setCell ?_ ?_ _); rotate_left; (focus (first | exact Nat.le_refl _ | (simp; done) | (simp; omega)))) | (with_reducible assumption) | (with_reducible exact Below.refl _ _)))⟩
  obtain ⟨hA, hO, hbel⟩ := hW
  clear hbel2 lc lf hL2 hO2
  generalize w1.heap.size = g at *
  clear w1 w2
  generalize cF (cF f) = G at *
  have HS := Lib.hid (fun k hk => HE.out.sum_lt 19 k (by omega) hk)
  go_wp2
  go_loopw [4, 14] (fun c i wr => ∃ k : Nat, k ≤ 5 ∧ i = .int .i64 k ∧ c = .int .u64 (cr G 19 k : Nat) ∧ Blk wr g (row 5 (fV G)) 25 ∧ Blk wr (w.heap.size + 1) [.int .u64 0, .int .u64 0, .int .u64 0, .int .u64 0, .int .u64 0] 25 ∧ Below w.heap.size w wr) (fun _ i _ => 5 - (intOf i).toNat)
  case atStart => exact ⟨0, by omega, rfl, rfl, hA, hO, hbel⟩
  case round =>
    clear hA hO hbel W
    obtain ⟨k, hk, rfl, rfl, hA, hO, hbel⟩ := hrel
    by_cases hlt : k < 5
    · obtain ⟨s, hs, hs0, hs1, ha, hd⟩ := pass_step G 19 k (HS.out k hlt)
      have hcell : wr.cell? ⟨g, k, none⟩ = some (.int .u64 (G k : Nat)) := hA.at hlt
      have HD := Lib.hid hd
      have HA := Lib.hid hA; have HO := Lib.hid hO
      clear hA hO hd ha
      go_wp2
      go_roundw
      case rel => exact ⟨k + 1, by omega, by go_num, by rw [HD.out], HA.out, HO.out, hbel⟩
      case measure => simp [intOf]; omega
    · obtain rfl : k = 5 := by omega
      have h5 : cr G 19 5 ≤ 1 := by
        have := HE.out.lim.val
        rw [(cr_five G 19).1]; omega
      have hm : IntKind.u64.wrap (((cr G 19 5 : Nat) : Int) * 19) = ((cr G 19 5 * 19 : Nat) : Int) := by rw [wrapU]; omega
      have HW := Lib.hid (fun i hi => whole_dg HE.out i hi)
      have h19 : cr G 19 5 * 19 ≤ 19 := by omega
      have HS2 := Lib.hid (fun k hk => HE.out.sum_lt (cr G 19 5 * 19) k h19 hk)
      clear h5 h19 hlt hk HS
      generalize cr G 19 5 * 19 = c1 at *
      go_wp2
      clear hm
      go_loopw [4, 26] (fun c i wr => ∃ k : Nat, k ≤ 5 ∧ i = .int .i64 k ∧ c = .int .u64 (cr G c1 k : Nat) ∧ Blk wr g (row 5 (pasV G c1 k)) 25 ∧ Blk wr (w.heap.size + 1) [.int .u64 0, .int .u64 0, .int .u64 0, .int .u64 0, .int .u64 0] 25 ∧ Below w.heap.size w wr) (fun _ i _ => 5 - (intOf i).toNat)
      case atStart => exact ⟨0, by omega, rfl, rfl, by rw [pasV_zero]; exact hA, hO, hbel⟩
      clear hA hO hbel
      case round =>
        obtain ⟨k, hk, rfl, rfl, hA, hO, hbel⟩ := hrel
        by_cases hlt : k < 5
        · obtain ⟨s, hs, hs0, hs1, ha, hd⟩ := pass_step G c1 k (HS2.out k hlt)
          have hcell := hA.at hlt
          rw [pasV_at] at hcell
          have hfr := hA.frozen k
          have HD := Lib.hid hd
          have HA := Lib.hid ((hA.set k (.int .u64 s)).set k (.int .u64 (pas G c1 k : Nat)))
          have HO := Lib.hid ((hO.other ⟨g, k, none⟩ (by simp; omega) (.int .u64 s)).other ⟨g, k, none⟩ (by simp; omega) (.int .u64 (pas G c1 k : Nat)))
          clear hA hO hd
          go_wp2
          go_roundw
          case rel => exact ⟨k + 1, by omega, by go_num, by rw [HD.out], by have := HA.out; rw [List.set_set, pasV_set] at this; exact this, HO.out, (by repeat (first | (with_reducible refine Below.alloc' ?_ _) | (with_reducible refine Below.drew ?_) | (with_reducible refine below_drewN ?_ _) | ((with_reducible refine Below.setCell ?_ ?_ _); rotate_left; (focus (first | exact Nat.le_refl _ | (simp; done) | (simp; omega)))) | (with_reducible assumption) | (with_reducible exact Below.refl _ _)))⟩
          case measure => simp [intOf]; omega
        · obtain rfl : k = 5 := by omega
          rw [pasV_five, row5] at hA
          unfold fV at hA
          rw [HW.out 0 (by omega), HW.out 1 (by omega), HW.out 2 (by omega), HW.out 3 (by omega), HW.out 4 (by omega)] at hA
          have hAc := hA.cell; have hOc := hO.cell; have hOf := hO.frozen
          clear hA hO
          go_wp2
          exact bodyPost_ret (v := .agg #[.int .u64 (dg x 0 : Nat), .int .u64 (dg x 1 : Nat), .int .u64 (dg x 2 : Nat), .int .u64 (dg x 3 : Nat), .int .u64 (dg x 4 : Nat)]) (by simp [results, Try.results87, go_sem, hOc]) rfl ⟨rfl, (by repeat (first | (with_reducible refine Below.alloc' ?_ _) | (with_reducible refine Below.drew ?_) | (with_reducible refine below_drewN ?_ _) | ((with_reducible refine Below.setCell ?_ ?_ _); rotate_left; (focus (first | exact Nat.le_refl _ | (simp; done) | (simp; omega)))) | (with_reducible assumption) | (with_reducible exact Below.refl _ _)))⟩
end Go.Proofs.Ytjchdhpijopikaa
namespace Go.Proofs.Ytjchdhpijopikaa
open Go.RowKit
theorem keep5 (g : Nat) (f : Nat → Nat) {w w' : World} (h : w.cell? ⟨g, 0, none⟩ = some (.int .u64 (f 0 : Nat)) ∧ w.cell? ⟨g, 1, none⟩ = some (.int .u64 (f 1 : Nat)) ∧ w.cell? ⟨g, 2, none⟩ = some (.int .u64 (f 2 : Nat)) ∧ w.cell? ⟨g, 3, none⟩ = some (.int .u64 (f 3 : Nat)) ∧ w.cell? ⟨g, 4, none⟩ = some (.int .u64 (f 4 : Nat))) (hb : Below w.heap.size w w') : w'.cell? ⟨g, 0, none⟩ = some (.int .u64 (f 0 : Nat)) ∧ w'.cell? ⟨g, 1, none⟩ = some (.int .u64 (f 1 : Nat)) ∧ w'.cell? ⟨g, 2, none⟩ = some (.int .u64 (f 2 : Nat)) ∧ w'.cell? ⟨g, 3, none⟩ = some (.int .u64 (f 3 : Nat)) ∧ w'.cell? ⟨g, 4, none⟩ = some (.int .u64 (f 4 : Nat)) := by
  obtain ⟨h0, h1, h2, h3, h4⟩ := h
  exact ⟨by rw [hb.cell (cell_lt h0)]; exact h0, by rw [hb.cell (cell_lt h1)]; exact h1, by rw [hb.cell (cell_lt h2)]; exact h2, by rw [hb.cell (cell_lt h3)]; exact h3, by rw [hb.cell (cell_lt h4)]; exact h4⟩
theorem dg_zero (x : Nat) : dg x 0 % 2 = x % 2 := by simp only [dg, Nat.mul_zero, Nat.pow_zero, Nat.div_one]; omega
theorem odd_num (x : Nat) : (bits BinOp.and IntKind.u64 (dg x 0 : Nat) 1 == 1) = decide (x % 2 = 1) := by
  have h := dg_lt x 0
  rw [show (1 : Int) = ((1 : Nat) : Int) from rfl, u64_and_nat _ 1 (by omega) (by omega), Nat.and_one_is_mod, dg_zero]
  generalize hb : x % 2 = b
  by_cases h1 : b = 1
  · subst h1; simp
  · rw [decide_eq_false h1, beq_eq_false_iff_ne]; omega
set_option maxHeartbeats 1000000 in
theorem feodd_any {f : Nat → Nat} {x : Nat} (hf : FE f x) (w : World) :
    Calls Try.prog 61 #[.agg #[.int .u64 (f 0 : Nat), .int .u64 (f 1 : Nat), .int .u64 (f 2 : Nat), .int .u64 (f 3 : Nat), .int .u64 (f 4 : Nat)]] w fun e w' => e = .returned (.bool (decide (x % 2 = 1))) ∧ Below w.heap.size w w' := by
  have HO := Lib.hid (odd_num x)
  have hi := ix5_0
  go_enter Try.func61, Try.ntmps61
  go_wp2_with (go_at_call 87; go_must (refine (whole_any hf _).mono ?_; rintro e w1 ⟨rfl, hb⟩; have hbel : Below w.heap.size w w1 := Below.call (by repeat (first | (with_reducible refine Below.alloc' ?_ _) | (with_reducible refine Below.drew ?_) | (with_reducible refine below_drewN ?_ _) | ((with_reducible refine Below.setCell ?_ ?_ _); rotate_left; (focus (first | exact Nat.le_refl _ | (simp; done) | (simp; omega)))) | (with_reducible assumption) | (with_reducible exact Below.refl _ _))) hb; clear hb))
  go_ret
  exact ⟨ret_bool HO.out, (by repeat (first | (with_reducible refine Below.alloc' ?_ _) | (with_reducible refine Below.drew ?_) | (with_reducible refine below_drewN ?_ _) | ((with_reducible refine Below.setCell ?_ ?_ _); rotate_left; (focus (first | exact Nat.le_refl _ | (simp; done) | (simp; omega)))) | (with_reducible assumption) | (with_reducible exact Below.refl _ _)))⟩
theorem dg_ext {x y : Nat} (hx : x < Pq) (hy : y < Pq) (h : ∀ i, i < 5 → dg x i = dg y i) : x = y := by
  have key : ∀ n, n < Pq → val (dg n) = n := by
    intro n hn
    unfold Pq at hn
    simp only [val, dg, Nat.reduceMul, Nat.reducePow]
    omega
  rw [← key x hx, ← key y hy]
  simp only [val, h 0 (by omega), h 1 (by omega), h 2 (by omega), h 3 (by omega), h 4 (by omega)]
set_option maxHeartbeats 1000000 in
theorem fesame_any {f g : Nat → Nat} {x y : Nat} (hf : FE f x) (hg : FE g y) (w : World) :
    Calls Try.prog 44 #[.agg #[.int .u64 (f 0 : Nat), .int .u64 (f 1 : Nat), .int .u64 (f 2 : Nat), .int .u64 (f 3 : Nat), .int .u64 (f 4 : Nat)], .agg #[.int .u64 (g 0 : Nat), .int .u64 (g 1 : Nat), .int .u64 (g 2 : Nat), .int .u64 (g 3 : Nat), .int .u64 (g 4 : Nat)]] w fun e w' => e = .returned (.bool (decide (x = y))) ∧ Below w.heap.size w w' := by
  have HE : Hid (([((dg x 0 : Nat) : Int), (dg x 1 : Nat), (dg x 2 : Nat), (dg x 3 : Nat), (dg x 4 : Nat)] == [((dg y 0 : Nat) : Int), (dg y 1 : Nat), (dg y 2 : Nat), (dg y 3 : Nat), (dg y 4 : Nat)]) = decide (x = y)) := by
    refine Lib.hid ?_
    by_cases h : x = y
    · subst h; simp
    · rw [decide_eq_false h, beq_eq_false_iff_ne]
      intro h'
      simp only [List.cons.injEq, Int.natCast_inj, and_true] at h'
      refine h (dg_ext hf.lt hg.lt fun i hi => ?_)
      have hh : i = 0 ∨ i = 1 ∨ i = 2 ∨ i = 3 ∨ i = 4 := by omega
      rcases hh with rfl | rfl | rfl | rfl | rfl <;> simp [h']
  have hq : ∀ w : World, (Op.equalIn 10000 25 (.agg #[.int .u64 (dg x 0 : Nat), .int .u64 (dg x 1 : Nat), .int .u64 (dg x 2 : Nat), .int .u64 (dg x 3 : Nat), .int .u64 (dg x 4 : Nat)]) (.agg #[.int .u64 (dg y 0 : Nat), .int .u64 (dg y 1 : Nat), .int .u64 (dg y 2 : Nat), .int .u64 (dg y 3 : Nat), .int .u64 (dg y 4 : Nat)])).run Try.prog w = .ok ([((dg x 0 : Nat) : Int), (dg x 1 : Nat), (dg x 2 : Nat), (dg x 3 : Nat), (dg x 4 : Nat)] == [((dg y 0 : Nat) : Int), (dg y 1 : Nat), (dg y 2 : Nat), (dg y 3 : Nat), (dg y 4 : Nat)]) w :=
    fun w => eqArr w 9998 25 24 5 .u64 Try.underlying25 Try.underlying24 (fun _ => by kernel_rfl) [((dg x 0 : Nat) : Int), (dg x 1 : Nat), (dg x 2 : Nat), (dg x 3 : Nat), (dg x 4 : Nat)] [((dg y 0 : Nat) : Int), (dg y 1 : Nat), (dg y 2 : Nat), (dg y 3 : Nat), (dg y 4 : Nat)] rfl rfl
  generalize ([((dg x 0 : Nat) : Int), (dg x 1 : Nat), (dg x 2 : Nat), (dg x 3 : Nat), (dg x 4 : Nat)] == [((dg y 0 : Nat) : Int), (dg y 1 : Nat), (dg y 2 : Nat), (dg y 3 : Nat), (dg y 4 : Nat)]) = q at *
  have HF := Lib.hid hf; have HG := Lib.hid hg
  clear hf hg
  go_enter Try.func44, Try.ntmps44
  go_wp2
  refine wp_gen (fun W => (W.cell? ⟨w.heap.size, 0, none⟩ = some (.int .u64 (f 0 : Nat)) ∧ W.cell? ⟨w.heap.size, 1, none⟩ = some (.int .u64 (f 1 : Nat)) ∧ W.cell? ⟨w.heap.size, 2, none⟩ = some (.int .u64 (f 2 : Nat)) ∧ W.cell? ⟨w.heap.size, 3, none⟩ = some (.int .u64 (f 3 : Nat)) ∧ W.cell? ⟨w.heap.size, 4, none⟩ = some (.int .u64 (f 4 : Nat))) ∧ (W.cell? ⟨w.heap.size + 1, 0, none⟩ = some (.int .u64 (g 0 : Nat)) ∧ W.cell? ⟨w.heap.size + 1, 1, none⟩ = some (.int .u64 (g 1 : Nat)) ∧ W.cell? ⟨w.heap.size + 1, 2, none⟩ = some (.int .u64 (g 2 : Nat)) ∧ W.cell? ⟨w.heap.size + 1, 3, none⟩ = some (.int .u64 (g 3 : Nat)) ∧ W.cell? ⟨w.heap.size + 1, 4, none⟩ = some (.int .u64 (g 4 : Nat))) ∧ Below w.heap.size w W) ?_ (fun W0 hW => ?_)
  · exact ⟨⟨((Blk.new w _ _).alloc _).cell 0, ((Blk.new w _ _).alloc _).cell 1, ((Blk.new w _ _).alloc _).cell 2, ((Blk.new w _ _).alloc _).cell 3, ((Blk.new w _ _).alloc _).cell 4⟩, ⟨(Blk.new' (by simp)).cell 0, (Blk.new' (by simp)).cell 1, (Blk.new' (by simp)).cell 2, (Blk.new' (by simp)).cell 3, (Blk.new' (by simp)).cell 4⟩, (by repeat (first | (with_reducible refine Below.alloc' ?_ _) | (with_reducible refine Below.drew ?_) | (with_reducible refine below_drewN ?_ _) | ((with_reducible refine Below.setCell ?_ ?_ _); rotate_left; (focus (first | exact Nat.le_refl _ | (simp; done) | (simp; omega)))) | (with_reducible assumption) | (with_reducible exact Below.refl _ _)))⟩
  have hst : ∀ W W' : World, ((W.cell? ⟨w.heap.size, 0, none⟩ = some (.int .u64 (f 0 : Nat)) ∧ W.cell? ⟨w.heap.size, 1, none⟩ = some (.int .u64 (f 1 : Nat)) ∧ W.cell? ⟨w.heap.size, 2, none⟩ = some (.int .u64 (f 2 : Nat)) ∧ W.cell? ⟨w.heap.size, 3, none⟩ = some (.int .u64 (f 3 : Nat)) ∧ W.cell? ⟨w.heap.size, 4, none⟩ = some (.int .u64 (f 4 : Nat))) ∧ (W.cell? ⟨w.heap.size + 1, 0, none⟩ = some (.int .u64 (g 0 : Nat)) ∧ W.cell? ⟨w.heap.size + 1, 1, none⟩ = some (.int .u64 (g 1 : Nat)) ∧ W.cell? ⟨w.heap.size + 1, 2, none⟩ = some (.int .u64 (g 2 : Nat)) ∧ W.cell? ⟨w.heap.size + 1, 3, none⟩ = some (.int .u64 (g 3 : Nat)) ∧ W.cell? ⟨w.heap.size + 1, 4, none⟩ = some (.int .u64 (g 4 : Nat))) ∧ Below w.heap.size w W) → Below W.heap.size W W' → ((W'.cell? ⟨w.heap.size, 0, none⟩ = some (.int .u64 (f 0 : Nat)) ∧ W'.cell? ⟨w.heap.size, 1, none⟩ = some (.int .u64 (f 1 : Nat)) ∧ W'.cell? ⟨w.heap.size, 2, none⟩ = some (.int .u64 (f 2 : Nat)) ∧ W'.cell? ⟨w.heap.size, 3, none⟩ = some (.int .u64 (f 3 : Nat)) ∧ W'.cell? ⟨w.heap.size, 4, none⟩ = some (.int .u64 (f 4 : Nat))) ∧ (W'.cell? ⟨w.heap.size + 1, 0, none⟩ = some (.int .u64 (g 0 : Nat)) ∧ W'.cell? ⟨w.heap.size + 1, 1, none⟩ = some (.int .u64 (g 1 : Nat)) ∧ W'.cell? ⟨w.heap.size + 1, 2, none⟩ = some (.int .u64 (g 2 : Nat)) ∧ W'.cell? ⟨w.heap.size + 1, 3, none⟩ = some (.int .u64 (g 3 : Nat)) ∧ W'.cell? ⟨w.heap.size + 1, 4, none⟩ = some (.int .u64 (g 4 : Nat))) ∧ Below w.heap.size w W') := by
    rintro W W' ⟨h1, h2, h3⟩ hb
    exact ⟨keep5 _ _ h1 hb, keep5 _ _ h2 hb, Below.call h3 hb⟩
  have hst' := Lib.hid hst; have HS0 := Lib.hid (show (fun W => (W.cell? ⟨w.heap.size, 0, none⟩ = some (.int .u64 (f 0 : Nat)) ∧ W.cell? ⟨w.heap.size, 1, none⟩ = some (.int .u64 (f 1 : Nat)) ∧ W.cell? ⟨w.heap.size, 2, none⟩ = some (.int .u64 (f 2 : Nat)) ∧ W.cell? ⟨w.heap.size, 3, none⟩ = some (.int .u64 (f 3 : Nat)) ∧ W.cell? ⟨w.heap.size, 4, none⟩ = some (.int .u64 (f 4 : Nat))) ∧ (W.cell? ⟨w.heap.size + 1, 0, none⟩ = some (.int .u64 (g 0 : Nat)) ∧ W.cell? ⟨w.heap.size + 1, 1, none⟩ = some (.int .u64 (g 1 : Nat)) ∧ W.cell? ⟨w.heap.size + 1, 2, none⟩ = some (.int .u64 (g 2 : Nat)) ∧ W.cell? ⟨w.heap.size + 1, 3, none⟩ = some (.int .u64 (g 3 : Nat)) ∧ W.cell? ⟨w.heap.size + 1, 4, none⟩ = some (.int .u64 (g 4 : Nat))) ∧ Below w.heap.size w W) W0.drew from ⟨hW.1, hW.2.1, hW.2.2.drew⟩)
  clear hst hW
  have hst := hst'
  clear hst'
  go_region_held3 (fun W => (W.cell? ⟨w.heap.size, 0, none⟩ = some (.int .u64 (f 0 : Nat)) ∧ W.cell? ⟨w.heap.size, 1, none⟩ = some (.int .u64 (f 1 : Nat)) ∧ W.cell? ⟨w.heap.size, 2, none⟩ = some (.int .u64 (f 2 : Nat)) ∧ W.cell? ⟨w.heap.size, 3, none⟩ = some (.int .u64 (f 3 : Nat)) ∧ W.cell? ⟨w.heap.size, 4, none⟩ = some (.int .u64 (f 4 : Nat))) ∧ (W.cell? ⟨w.heap.size + 1, 0, none⟩ = some (.int .u64 (g 0 : Nat)) ∧ W.cell? ⟨w.heap.size + 1, 1, none⟩ = some (.int .u64 (g 1 : Nat)) ∧ W.cell? ⟨w.heap.size + 1, 2, none⟩ = some (.int .u64 (g 2 : Nat)) ∧ W.cell? ⟨w.heap.size + 1, 3, none⟩ = some (.int .u64 (g 3 : Nat)) ∧ W.cell? ⟨w.heap.size + 1, 4, none⟩ = some (.int .u64 (g 4 : Nat))) ∧ Below w.heap.size w W) (first | (exact HS0.out) | (first | assumption | (refine hst.out _ _ ?_ hb; assumption) | (refine hst.out _ _ ?_ (Below.alloc' (Below.refl _ _) _); assumption) | (refine hst.out _ _ ?_ (Below.drew (Below.refl _ _)); assumption))) ((go_at_call 87; first | ((with_reducible refine (whole_any HF.out _).mono ?_); rintro e w1 ⟨rfl, hb⟩) | ((with_reducible refine (whole_any HG.out _).mono ?_); rintro e w1 ⟨rfl, hb⟩)))
  go_wp2
  go_ret
  have hf : ∀ W : World, ((W.cell? ⟨w.heap.size, 0, none⟩ = some (.int .u64 (f 0 : Nat)) ∧ W.cell? ⟨w.heap.size, 1, none⟩ = some (.int .u64 (f 1 : Nat)) ∧ W.cell? ⟨w.heap.size, 2, none⟩ = some (.int .u64 (f 2 : Nat)) ∧ W.cell? ⟨w.heap.size, 3, none⟩ = some (.int .u64 (f 3 : Nat)) ∧ W.cell? ⟨w.heap.size, 4, none⟩ = some (.int .u64 (f 4 : Nat))) ∧ (W.cell? ⟨w.heap.size + 1, 0, none⟩ = some (.int .u64 (g 0 : Nat)) ∧ W.cell? ⟨w.heap.size + 1, 1, none⟩ = some (.int .u64 (g 1 : Nat)) ∧ W.cell? ⟨w.heap.size + 1, 2, none⟩ = some (.int .u64 (g 2 : Nat)) ∧ W.cell? ⟨w.heap.size + 1, 3, none⟩ = some (.int .u64 (g 3 : Nat)) ∧ W.cell? ⟨w.heap.size + 1, 4, none⟩ = some (.int .u64 (g 4 : Nat))) ∧ Below w.heap.size w W) → Below w.heap.size w W := fun W h => h.2.2
  exact ⟨ret_bool HE.out, hf _ (by assumption)⟩
end Go.Proofs.Ytjchdhpijopikaa
namespace Go.Proofs.Ytjchdhpijopikaa
open Go.RowKit
/-- The limb that two words make. -/
theorem limb_or (x y : Nat) (s t : Nat) (hs : s ≤ 64) (ht : t + s = 64) (hx : x < 18446744073709551616) :
    bits BinOp.and IntKind.u64 (bits BinOp.or IntKind.u64 ((x : Int) / 2 ^ s) (IntKind.u64.wrap ((y : Int) * 2 ^ t))) 2251799813685247 = ((x / 2 ^ s + y * 2 ^ t % 18446744073709551616) % 2251799813685248 : Nat) := by
  have h0 : x / 2 ^ s < 2 ^ t := by
    apply Nat.div_lt_of_lt_mul
    rw [← Nat.pow_add, show s + t = 64 from by omega]; exact hx
  have h1 : 2 ^ t ≤ 2 ^ 64 := Nat.pow_le_pow_right (by omega) (by omega)
  rw [wrapU, show ((x : Int) / 2 ^ s) = ((x / 2 ^ s : Nat) : Int) from by simp, show ((y : Int) * 2 ^ t) % 18446744073709551616 = ((y * 2 ^ t % 18446744073709551616 : Nat) : Int) from by simp, u64_or_nat _ _ (by omega) (Nat.mod_lt _ (by omega))]
  have e : y * 2 ^ t % 18446744073709551616 = (y % 2 ^ s) * 2 ^ t := by
    rw [show (18446744073709551616 : Nat) = 2 ^ t * 2 ^ s from by rw [← Nat.pow_add, ht], Nat.mul_comm y, Nat.mul_mod_mul_left, Nat.mul_comm]
  have h2 : y % 2 ^ s * 2 ^ t < 18446744073709551616 := by rw [← e]; exact Nat.mod_lt _ (by omega)
  have h3 : x / 2 ^ s ||| y % 2 ^ s * 2 ^ t = x / 2 ^ s + y % 2 ^ s * 2 ^ t := by
    have h4 := Nat.shiftLeft_add_eq_or_of_lt h0 (y % 2 ^ s)
    rw [Nat.shiftLeft_eq] at h4
    rw [Nat.or_comm, ← h4, Nat.add_comm]
  rw [e, h3]
  apply and51
  rw [← h3]
  exact Nat.or_lt_two_pow (n := 64) (by omega) h2
theorem of0 (n : Nat) : bits BinOp.and IntKind.u64 (lw n 0 : Nat) 2251799813685247 = (dg n 0 : Nat) := by
  rw [and51 _ (lw_lt _ _)]; simp only [lw, dg, Nat.mul_zero, Nat.pow_zero, Nat.div_one]; omega
theorem of1 (n : Nat) : bits BinOp.and IntKind.u64 (bits BinOp.or IntKind.u64 ((lw n 0 : Nat) / 2251799813685248) (IntKind.u64.wrap ((lw n 1 : Nat) * 8192))) 2251799813685247 = (dg n 1 : Nat) := by
  have h := limb_or (lw n 0) (lw n 1) 51 13 (by omega) (by omega) (lw_lt _ _)
  have e : (((lw n 0 : Nat) : Int) / 2 ^ 51) = (lw n 0 : Nat) / 2251799813685248 := rfl
  refine Eq.trans (show _ = _ from h) ?_
  congr 1
  simp only [lw, dg, Nat.reduceMul, Nat.reducePow]; omega
theorem of2 (n : Nat) : bits BinOp.and IntKind.u64 (bits BinOp.or IntKind.u64 ((lw n 1 : Nat) / 274877906944) (IntKind.u64.wrap ((lw n 2 : Nat) * 67108864))) 2251799813685247 = (dg n 2 : Nat) := by
  have h := limb_or (lw n 1) (lw n 2) 38 26 (by omega) (by omega) (lw_lt _ _)
  refine Eq.trans (show _ = _ from h) ?_
  congr 1
  simp only [lw, dg, Nat.reduceMul, Nat.reducePow]; omega
theorem of3 (n : Nat) : bits BinOp.and IntKind.u64 (bits BinOp.or IntKind.u64 ((lw n 2 : Nat) / 33554432) (IntKind.u64.wrap ((lw n 3 : Nat) * 549755813888))) 2251799813685247 = (dg n 3 : Nat) := by
  have h := limb_or (lw n 2) (lw n 3) 25 39 (by omega) (by omega) (lw_lt _ _)
  refine Eq.trans (show _ = _ from h) ?_
  congr 1
  simp only [lw, dg, Nat.reduceMul, Nat.reducePow]; omega
theorem of4 (n : Nat) : bits BinOp.and IntKind.u64 ((lw n 3 : Nat) / 4096) 2251799813685247 = (dg n 4 : Nat) := by
  have := lw_lt n 3
  rw [show ((lw n 3 : Nat) : Int) / 4096 = ((lw n 3 / 4096 : Nat) : Int) from by simp, and51 _ (by omega)]
  simp only [lw, dg, Nat.reduceMul, Nat.reducePow]; omega
theorem dg_val (n : Nat) : val (dg n) = n % 57896044618658097711785492504343953926634992332820282019728792003956564819968 := by
  simp only [val, dg, Nat.reduceMul, Nat.reducePow]; omega
theorem FE.of (n : Nat) : FE (dg n) (n % 57896044618658097711785492504343953926634992332820282019728792003956564819968 % Pq) :=
  ⟨⟨by have := dg_lt n 0; omega, dg_lt _ _, dg_lt _ _, dg_lt _ _, dg_lt _ _⟩, by rw [dg_val]⟩
theorem row4_zero : row 4 (wV 0) = [.int .u64 0, .int .u64 0, .int .u64 0, .int .u64 0] := by simp only [row4, wV0]
set_option maxHeartbeats 1000000 in
theorem feof_any {a : Option Addr} {n cap : Nat} {l : List UInt8} (w : World) (h : RdB w a n cap l) :
    Calls Try.prog 81 #[.slice a n cap] w fun e w' => e = .returned (.agg #[.int .u64 (dg (leN (first l 32)) 0 : Nat), .int .u64 (dg (leN (first l 32)) 1 : Nat), .int .u64 (dg (leN (first l 32)) 2 : Nat), .int .u64 (dg (leN (first l 32)) 3 : Nat), .int .u64 (dg (leN (first l 32)) 4 : Nat)]) ∧ Below w.heap.size w w' := by
  have hlen := first_len l 32
  generalize hfl : first l 32 = fl at *
  have HF := Lib.hid hfl; have HL := Lib.hid hlen
  clear hfl hlen
  go_enter Try.func81, Try.ntmps81
  go_wp2_with (go_at_call 67; go_must (refine (first_any 32 (by omega) _ (h.below (by repeat (first | (with_reducible refine Below.alloc' ?_ _) | (with_reducible refine Below.drew ?_) | (with_reducible refine below_drewN ?_ _) | ((with_reducible refine Below.setCell ?_ ?_ _); rotate_left; (focus (first | exact Nat.le_refl _ | (simp; done) | (simp; omega)))) | (with_reducible assumption) | (with_reducible exact Below.refl _ _))))).mono ?_; rintro e w1 ⟨rfl, hB, hb⟩))
  rw [HF.out] at hB
  have hB1 : Blk w1 (w.heap.size + 1) (fl.map bV) 5 := by simpa using hB
  clear hB
  have hg : w.heap.size + 1 < w1.heap.size := hB1.lt
  refine wp_gen (fun W => Blk W w1.heap.size (row 4 (wV (leN (fl.take 0)))) 44 ∧ Blk W w.heap.size [.int .u64 0, .int .u64 0, .int .u64 0, .int .u64 0, .int .u64 0] 27 ∧ Blk W (w.heap.size + 1) (fl.map bV) 5 ∧ Below w.heap.size w W) ?_ (fun W hW => ?_)
  · refine ⟨?_, ((Blk.new w _ _).below' hb).alloc _, hB1.alloc _, Below.alloc' (Below.call (by repeat (first | (with_reducible refine Below.alloc' ?_ _) | (with_reducible refine Below.drew ?_) | (with_reducible refine below_drewN ?_ _) | ((with_reducible refine Below.setCell ?_ ?_ _); rotate_left; (focus (first | exact Nat.le_refl _ | (simp; done) | (simp; omega)))) | (with_reducible assumption) | (with_reducible exact Below.refl _ _))) hb) _⟩
    rw [List.take_zero, show leN [] = 0 from rfl, row4_zero]
    exact Blk.new w1 _ _
  obtain ⟨hA, hO, hB2, hbel⟩ := hW
  clear hb h hB1
  generalize w1.heap.size = g at *
  clear w1
  go_wp2
  go_loopw [9] (fun i wr => ∃ k : Nat, k ≤ 32 ∧ i = .int .i64 k ∧ Blk wr g (row 4 (wV (leN (fl.take k)))) 44 ∧ Blk wr w.heap.size [.int .u64 0, .int .u64 0, .int .u64 0, .int .u64 0, .int .u64 0] 27 ∧ Blk wr (w.heap.size + 1) (fl.map bV) 5 ∧ Below w.heap.size w wr) (fun i _ => 32 - (intOf i).toNat)
  case atStart => exact ⟨0, by omega, rfl, hA, hO, hB2, hbel⟩
  case round =>
    clear hA hO hB2 hbel W
    obtain ⟨k, hk, rfl, hA, hO, hB, hbel⟩ := hrel
    by_cases hlt : k < 32
    · have hkl : k < fl.length := by rw [HL.out]; exact hlt
      have hcb : wr.cell? ⟨w.heap.size + 1, k, none⟩ = some (.int .u8 (fl[k].toNat : Int)) := by rw [hB.cell]; simp [hkl, bV]
      have HT := Lib.hid (leN_take fl k hkl)
      have hn := leN_take_lt fl k
      have HC := Lib.hid (fl[k].toNat_lt)
      generalize leN (fl.take k) = x at *
      generalize fl[k].toNat = c at *
      obtain ⟨ci, hci⟩ : ∃ ci : Int, ci = (c : Int) := ⟨_, rfl⟩
      have HI := Lib.hid hci
      rw [← hci] at hcb
      have hc0 : 0 ≤ ci := by omega
      have hc1 : ci < 256 := by have := HC.out; omega
      clear hci
      have hq : k / 8 < 4 := by omega
      have ca : wr.cell? ⟨g, k / 8, none⟩ = some (.int .u64 (lw x (k / 8) : Nat)) := hA.at hq
      have cf := hA.frozen (k / 8)
      have HN := Lib.hid hn
      have HS := Lib.hid (or_byteI x k c ci HI.out HN.out HC.out)
      have HO := Lib.hid hO; have HB := Lib.hid hB; have HA := Lib.hid hA
      clear hn hO hB hA
      go_wp2
      go_region
      rw [HS.out]
      have hA2 := HA.out.set (k / 8) (wV (x + c * 256 ^ k) (k / 8))
      rw [row_set (g := wV (x + c * 256 ^ k)) _ _ rfl (fun i _ hi => by unfold wV; rw [or_other x k c i HN.out HC.out hi])] at hA2
      have hO2 := HO.out.other ⟨g, k / 8, none⟩ (by simp; omega) (wV (x + c * 256 ^ k) (k / 8))
      have hB2 := HB.out.other ⟨g, k / 8, none⟩ (by simp; omega) (wV (x + c * 256 ^ k) (k / 8))
      have HA2 := Lib.hid hA2; have HO2 := Lib.hid hO2; have HB2 := Lib.hid hB2
      clear hA2 hO2 hB2 ca cf hcb
      go_wp2
      go_roundw
      case rel => exact ⟨k + 1, by omega, by go_num, by rw [HT.out]; exact HA2.out.drew, HO2.out.drew, HB2.out.drew, (by repeat (first | (with_reducible refine Below.alloc' ?_ _) | (with_reducible refine Below.drew ?_) | (with_reducible refine below_drewN ?_ _) | ((with_reducible refine Below.setCell ?_ ?_ _); rotate_left; (focus (first | exact Nat.le_refl _ | (simp; done) | (simp; omega)))) | (with_reducible assumption) | (with_reducible exact Below.refl _ _)))⟩
      case measure => simp [intOf] <;> omega
    · obtain rfl : k = 32 := by omega
      rw [List.take_of_length_le (by rw [HL.out]; omega)] at hA
      clear hB hlt hk
      generalize hx : leN fl = x at *
      have HX := Lib.hid hx
      clear hx
      have g0 : wr.cell? ⟨g, 0, none⟩ = some (.int .u64 (lw x 0 : Nat)) := hA.at (by omega); have g1 : wr.cell? ⟨g, 1, none⟩ = some (.int .u64 (lw x 1 : Nat)) := hA.at (by omega); have g2 : wr.cell? ⟨g, 2, none⟩ = some (.int .u64 (lw x 2 : Nat)) := hA.at (by omega); have g3 : wr.cell? ⟨g, 3, none⟩ = some (.int .u64 (lw x 3 : Nat)) := hA.at (by omega)
      have hOc := hO.cell; have hOf := hO.frozen
      have e0 := of0 x; have e1 := of1 x; have e2 := of2 x; have e3 := of3 x; have e4 := of4 x
      clear hA hO
      go_wp2
      exact bodyPost_ret (v := .agg #[.int .u64 (dg x 0 : Nat), .int .u64 (dg x 1 : Nat), .int .u64 (dg x 2 : Nat), .int .u64 (dg x 3 : Nat), .int .u64 (dg x 4 : Nat)]) (by simp [results, Try.results81, go_sem, hOc]) rfl ⟨by rw [HX.out], (by repeat (first | (with_reducible refine Below.alloc' ?_ _) | (with_reducible refine Below.drew ?_) | (with_reducible refine below_drewN ?_ _) | ((with_reducible refine Below.setCell ?_ ?_ _); rotate_left; (focus (first | exact Nat.le_refl _ | (simp; done) | (simp; omega)))) | (with_reducible assumption) | (with_reducible exact Below.refl _ _)))⟩
end Go.Proofs.Ytjchdhpijopikaa
namespace Go.Proofs.Ytjchdhpijopikaa
open Go.RowKit
/-- The slice (a, n, cap) holds slices that read as the rows ls. -/
structure RdRows (w : World) (a : Option Addr) (n cap : Nat) (ls : List (List UInt8)) : Prop where
  hlen : ls.length = n
  hcap : n ≤ cap
  hmax : cap ≤ maxLen
  get : ∀ i (h : i < ls.length), ∃ b o sa sn sc, a = some ⟨b, o, none⟩ ∧ w.cell? ⟨b, o + i, none⟩ = some (.slice sa sn sc) ∧ RdB w sa sn sc ls[i]
theorem RdRows.below {w w' : World} {a : Option Addr} {n cap : Nat} {ls : List (List UInt8)} (h : RdRows w a n cap ls) (hb : Below w.heap.size w w') : RdRows w' a n cap ls := by
  refine ⟨h.hlen, h.hcap, h.hmax, fun i hi => ?_⟩
  obtain ⟨b, o, sa, sn, sc, ha, hc, hr⟩ := h.get i hi
  exact ⟨b, o, sa, sn, sc, ha, by rw [hb.cell (cell_lt hc)]; exact hc, hr.below hb⟩
theorem RdRows.cases {w : World} {a : Option Addr} {n cap : Nat} {ls : List (List UInt8)} (h : RdRows w a n cap ls) :
    (n = 0 ∧ ls = []) ∨ ∃ b o, 0 < n ∧ a = some ⟨b, o, none⟩ ∧ ∀ i (hi : i < ls.length), ∃ sa sn sc, w.cell? ⟨b, o + i, none⟩ = some (.slice sa sn sc) ∧ RdB w sa sn sc ls[i] := by
  by_cases h0 : n = 0
  · exact .inl ⟨h0, List.eq_nil_of_length_eq_zero (by rw [h.hlen, h0])⟩
  · obtain ⟨b, o, _, _, _, ha, _, _⟩ := h.get 0 (by have := h.hlen; omega)
    refine .inr ⟨b, o, by omega, ha, fun i hi => ?_⟩
    obtain ⟨b', o', sa, sn, sc, ha', hc, hr⟩ := h.get i hi
    rw [ha] at ha'
    simp at ha'
    obtain ⟨rfl, rfl⟩ := ha'
    exact ⟨sa, sn, sc, hc, hr⟩
/-- How many bytes the first k rows have. -/
def lens (ls : List (List UInt8)) (k : Nat) : Nat := (ls.take k).flatten.length
theorem lens_succ (ls : List (List UInt8)) (k : Nat) (h : k < ls.length) : lens ls (k + 1) = lens ls k + ls[k].length := by
  unfold lens; rw [List.take_succ_eq_append_getElem h, List.flatten_append, List.length_append, List.flatten_singleton]
theorem flat_succ (ls : List (List UInt8)) (k : Nat) (h : k < ls.length) : (ls.take (k + 1)).flatten = (ls.take k).flatten ++ ls[k] := by
  rw [List.take_succ_eq_append_getElem h, List.flatten_append, List.flatten_singleton]
theorem lens_le (ls : List (List UInt8)) (k : Nat) : lens ls k ≤ ls.flatten.length := by
  unfold lens
  conv => rhs; rw [← List.take_append_drop k ls, List.flatten_append, List.length_append]
  omega
set_option maxHeartbeats 4000000 in
theorem grow_any (n : Nat) (hn : n ≤ 70368744177664) (w : World) :
    Calls Try.prog 102 #[.slice none 0 0, .int .i64 n] w fun e w' => ∃ v, e = .returned v ∧ w'.ownsRow w.heap.size 5 1 v 0 [] ∧ Below w.heap.size w w' := by
  obtain ⟨i0, hi, hz0, hz1, hz2⟩ := info_parts infoU8
  by_cases h0 : n = 0
  · subst h0
    go_enter Try.func102, Try.ntmps102
    go_wp2
    go_ret
    exact ⟨_, rfl, World.ownsRow_nil _ _ _ _, Below.refl _ _⟩
  · have h1 : ¬ ((n : Int) < 0) := by omega
    have h4 : (n : Int) > 0 := by omega
    have hrz : ∀ ty, (Builtin.append_ #[22, 3] ty #[.slice none 0 0, .int .i64 (n : Int)]).run Try.prog w =
        .ok (.slice (some ⟨w.heap.size, 0, none⟩) n (grownCap w n 0 5)) (w.drew.alloc (.cells (([] : List Value).toArray ++ Builtin.zeroCells (Value.int .u8 0).cells n ++ Builtin.zeroCells (Value.int .u8 0).cells (grownCap w n 0 5 - n)) 5)) := fun ty => by
      have h := Lib.run_append_grow_zeros w 22 3 ty 5 i0 (.int .u8 0) .i64 .i64 Try.underlying22 Try.underlying3 hi hz0 none 0 0 [] (run_firstCells_none w.drew i0.size 0 0 0) n (by omega) (by omega) (by omega) (by omega)
        (by rw [hz2]; omega)
        (by rw [Nat.zero_add]; exact growslice_fits (by omega) (by rw [hz2]; omega))
      rw [Nat.zero_add] at h
      exact h
    have hGn : n ≤ grownCap w n 0 5 := grownCap_ge w _ _ _
    obtain ⟨G, hG⟩ : ∃ G, G = grownCap w n 0 5 := ⟨_, rfl⟩
    rw [← hG] at hrz hGn
    have hGm : G ≤ maxLen := by
      have := grownCap_le_maxLen w n 0 5 (by unfold maxLen; omega)
      rw [← hG] at this; exact this
    have hG63 : G ≤ 9223372036854775807 := by unfold maxLen at hGm; omega
    obtain ⟨O, hO⟩ : ∃ O, O = Obj.cells (([] : List Value).toArray ++ Builtin.zeroCells (Value.int .u8 0).cells n ++ Builtin.zeroCells (Value.int .u8 0).cells (G - n)) 5 (0, 0) := ⟨_, rfl⟩
    rw [← hO] at hrz
    have hown : World.ownsRow (w.alloc O).drew w.heap.size 5 1 (.slice (some ⟨w.heap.size, 0, none⟩) 0 G) 0 [] := by
      rw [hO]
      refine World.ownsRow_made w.drew _ G (Nat.le_refl _) hGm ?_
      simp [size_zeroCells, Value.cells]; omega
    have HO := Lib.hid hown
    clear hG hown hi hz0 hz1 hz2 hGm hO
    go_enter Try.func102, Try.ntmps102
    go_wp2_with (at_builtin; refine Lib.wpList_append_run _ rfl _ _ _ _ rfl _ _ rfl rfl _ _ (hrz _) ?_)
    all_goals (go_ret; exact ⟨_, rfl, HO.out, (by repeat (first | (with_reducible refine Below.alloc' ?_ _) | (with_reducible refine Below.drew ?_) | (with_reducible refine below_drewN ?_ _) | ((with_reducible refine Below.setCell ?_ ?_ _); rotate_left; (focus (first | exact Nat.le_refl _ | (simp; done) | (simp; omega)))) | (with_reducible assumption) | (with_reducible exact Below.refl _ _)))⟩)
set_option maxHeartbeats 4000000 in
theorem concat_any {a : Option Addr} {n cap : Nat} {ls : List (List UInt8)} (w : World) (h : RdRows w a n cap ls) (hs : ls.flatten.length ≤ 70368744177664) :
    Calls Try.prog 100 #[.slice a n cap] w fun e w' => ∃ v, e = .returned v ∧ w'.ownsRow w.heap.size 5 1 v ls.flatten.length (ls.flatten.map bV) ∧ Below w.heap.size w w' := by
  have HL := Lib.hid h.hlen
  have HS := Lib.hid hs
  have hm63 : (n : Int) ≤ 9223372036854775807 := by have := h.hcap; have := h.hmax; unfold maxLen at *; omega
  have HR := Lib.hid h
  clear h
  go_enter Try.func100, Try.ntmps100
  go_wp2
  go_loopw [3, 11] (fun s i wr => ∃ k : Nat, k ≤ n ∧ i = .int .i64 k ∧ s = .int .i64 (lens ls k : Nat) ∧ Below w.heap.size w wr) (fun _ i _ => n - (intOf i).toNat)
  case atStart => exact ⟨0, by omega, rfl, rfl, Below.refl _ _⟩
  case round =>
    obtain ⟨k, hk, rfl, rfl, hbel⟩ := hrel
    by_cases hlt : k < n
    · rcases HR.out.cases with ⟨h0, _⟩ | ⟨b, o, _, rfl, hget⟩
      · omega
      · have hkl : k < ls.length := by rw [HL.out]; exact hlt
        obtain ⟨sa, sn, sc, hc, hr⟩ := hget k hkl
        have hc2 : wr.cell? ⟨b, o + k, none⟩ = some (.slice sa sn sc) := by rw [hbel.cell (cell_lt hc)]; exact hc
        have e1 := lens_succ ls k hkl
        rw [hr.hlen] at e1
        have h2 := lens_le ls (k + 1)
        have hsum : lens ls k + sn ≤ 70368744177664 := by have := HS.out; omega
        have HE := Lib.hid e1
        have hcp := hr.hcap
        have hsn : sn ≤ 70368744177664 := by omega
        clear h2 e1 hc hr hget
        generalize lens ls k = s at *
        have hw : IntKind.i64.wrap ((s : Int) + (sn : Int)) = ((s + sn : Nat) : Int) := by rw [IntKind.wrap_i64]; omega
        have hpos : decide (((s + sn : Nat) : Int) < 0) = false := by simp; omega
        go_wp2
        go_roundw
        case rel => exact ⟨k + 1, by omega, by go_num, by rw [HE.out, Int.natCast_add], (by repeat (first | (with_reducible refine Below.alloc' ?_ _) | (with_reducible refine Below.drew ?_) | (with_reducible refine below_drewN ?_ _) | ((with_reducible refine Below.setCell ?_ ?_ _); rotate_left; (focus (first | exact Nat.le_refl _ | (simp; done) | (simp; omega)))) | (with_reducible assumption) | (with_reducible exact Below.refl _ _)))⟩
        case measure => simp [intOf]; omega
    · obtain rfl : k = n := by omega
      have HT : Hid (lens ls k = ls.flatten.length) := Lib.hid (by unfold lens; rw [List.take_of_length_le (by rw [HL.out]; omega)])
      obtain ⟨wo, rfl⟩ : ∃ wo : World, wo = wr := ⟨_, rfl⟩
      have HS2 : Hid (lens ls k ≤ 70368744177664) := Lib.hid (by rw [HT.out]; exact HS.out)
      go_wp2_with (go_at_call 102; go_must (refine (grow_any _ HS2.out _).mono ?_; rintro e w1 ⟨v, rfl, hown, hb⟩; have hbel1 := Below.call hbel hb; have hown1 : World.ownsRow w1 w.heap.size 5 1 v (lens ls 0) ((ls.take 0).flatten.map bV) := ⟨hown.1, by rcases hown.2 with h | ⟨g, c, cur, h1, h2, h3⟩; exact .inl h; exact .inr ⟨g, c, cur, h1, Nat.le_trans hbel.size h2, h3⟩⟩; clear hown hb))
      clear hlt
      go_loopw [6, 27] (fun s i wr => ∃ j : Nat, j ≤ k ∧ i = .int .i64 j ∧ wr.ownsRow w.heap.size 5 1 s (lens ls j) ((ls.take j).flatten.map bV) ∧ Below w.heap.size w wr) (fun _ i _ => k - (intOf i).toNat)
      case atStart => exact ⟨0, by omega, rfl, hown1, hbel1⟩
      case round =>
        clear hown1 hbel1 hbel
        obtain ⟨j, hj, rfl, hown, hbel⟩ := hrel
        by_cases hlt : j < k
        · rcases HR.out.cases with ⟨h0, _⟩ | ⟨b, o, _, rfl, hget⟩
          · omega
          · have hkl : j < ls.length := by rw [HL.out]; exact hlt
            obtain ⟨sa, sn, sc, hc, hr⟩ := hget j hkl
            have hc2 : wr.cell? ⟨b, o + j, none⟩ = some (.slice sa sn sc) := by rw [hbel.cell (cell_lt hc)]; exact hc
            have e1 := lens_succ ls j hkl
            rw [hr.hlen] at e1
            have h2 := lens_le ls (j + 1)
            have hsum : lens ls j + sn ≤ 70368744177664 := by have := HS.out; omega
            have HE := Lib.hid e1
            have HF := Lib.hid (flat_succ ls j hkl)
            have HRD := Lib.hid (hr.below hbel)
            clear h2 e1 hc hr hget
            go_wp2_with (at_builtin; refine app_bytes _ rfl (.tmp 31) (.tmp 32) rfl w.heap.size _ (lens ls j) ((ls.take j).flatten) rfl hown sa sn sc ls[j] rfl HRD.out hsum hbel.size w hbel ?_; intro v' w2 hown2 hbel2; have HO2 : Hid (w2.ownsRow w.heap.size 5 1 v' (lens ls (j + 1)) ((ls.take (j + 1)).flatten.map bV)) := Lib.hid (by rw [HE.out, HF.out]; exact hown2); clear hown2)
            go_roundw
            case rel => exact ⟨j + 1, by omega, by go_num, HO2.out, hbel2⟩
            case measure => simp [intOf]; omega
        · obtain rfl : j = k := by omega
          have hO := Lib.hid (show wr.ownsRow w.heap.size 5 1 _ ls.flatten.length (ls.flatten.map bV) from by
            have := hown
            rw [HT.out, List.take_of_length_le (by rw [HL.out]; omega)] at this; exact this)
          clear hown
          go_wp2
          go_ret
          exact ⟨_, rfl, hO.out, hbel⟩
set_option maxHeartbeats 4000000 in
theorem cat_any {a : Option Addr} {n cap : Nat} {ls : List (List UInt8)} (w : World) (h : RdRows w a n cap ls) (hs : ls.flatten.length ≤ 70368744177664) :
    Calls Try.prog 93 #[.slice a n cap] w fun e w' => ∃ v, e = .returned v ∧ w'.ownsRow w.heap.size 5 1 v ls.flatten.length (ls.flatten.map bV) ∧ Below w.heap.size w w' := by
  go_enter Try.func93, Try.ntmps93
  go_wp2_with (go_at_call 100; go_must (refine (concat_any _ h hs).mono ?_; rintro e w1 ⟨v, rfl, ho, hb⟩; have HO := Lib.hid ho; clear ho))
  go_ret
  exact ⟨_, rfl, HO.out, hb⟩
/-- Slices that read as rows. -/
inductive Rows (w : World) : List Value → List (List UInt8) → Prop
  | nil : Rows w [] []
  | cons {sa : Option Addr} {sn sc : Nat} {l : List UInt8} {cs : List Value} {ls : List (List UInt8)} : RdB w sa sn sc l → Rows w cs ls → Rows w (.slice sa sn sc :: cs) (l :: ls)
theorem Rows.len {w : World} {cs : List Value} {ls : List (List UInt8)} (h : Rows w cs ls) : cs.length = ls.length := by
  induction h with
  | nil => rfl
  | cons _ _ ih => simp [ih]
theorem Rows.get {w : World} {cs : List Value} {ls : List (List UInt8)} (h : Rows w cs ls) : ∀ i (hi : i < ls.length), ∃ sa sn sc, cs[i]? = some (.slice sa sn sc) ∧ RdB w sa sn sc ls[i] := by
  induction h with
  | nil => intro i hi; simp at hi
  | cons h1 _ ih =>
    intro i hi
    cases i with
    | zero => exact ⟨_, _, _, rfl, h1⟩
    | succ i => obtain ⟨sa, sn, sc, h2, h3⟩ := ih i (by simpa using hi); exact ⟨sa, sn, sc, by simpa using h2, by simpa using h3⟩
theorem RdRows.blk {w : World} {g E n : Nat} {cs : List Value} {ls : List (List UInt8)} (h : Blk w g cs E) (hr : Rows w cs ls) (hn : ls.length = n) (hm : n ≤ maxLen) : RdRows w (some ⟨g, 0, none⟩) n n ls :=
  ⟨hn, Nat.le_refl _, hm, fun i hi => by
    obtain ⟨sa, sn, sc, h2, h3⟩ := hr.get i hi
    exact ⟨g, 0, sa, sn, sc, rfl, by rw [Nat.zero_add, h.cell]; exact h2, h3⟩⟩
end Go.Proofs.Ytjchdhpijopikaa
namespace Go.Proofs.Ytjchdhpijopikaa
open Go.RowKit
theorem or_shl (a b t : Nat) (ht : t ≤ 64) (ha : a < 2 ^ t) : bits BinOp.or IntKind.u64 (a : Int) (IntKind.u64.wrap ((b : Int) * 2 ^ t)) = ((a + b * 2 ^ t) % 18446744073709551616 : Nat) := by
  obtain ⟨s, hs⟩ : ∃ s, t + s = 64 := ⟨64 - t, by omega⟩
  have h1 : 2 ^ t ≤ 2 ^ 64 := Nat.pow_le_pow_right (by omega) ht
  have e : b * 2 ^ t % 18446744073709551616 = (b % 2 ^ s) * 2 ^ t := by
    rw [show (18446744073709551616 : Nat) = 2 ^ t * 2 ^ s from by rw [← Nat.pow_add, hs], Nat.mul_comm b, Nat.mul_mod_mul_left, Nat.mul_comm]
  have h2 : b % 2 ^ s * 2 ^ t < 18446744073709551616 := by rw [← e]; exact Nat.mod_lt _ (by omega)
  have h3 : a ||| b % 2 ^ s * 2 ^ t = a + b % 2 ^ s * 2 ^ t := by
    have h4 := Nat.shiftLeft_add_eq_or_of_lt ha (b % 2 ^ s)
    rw [Nat.shiftLeft_eq] at h4
    rw [Nat.or_comm, ← h4, Nat.add_comm]
  have h5 : a ||| b % 2 ^ s * 2 ^ t < 18446744073709551616 := Nat.or_lt_two_pow (n := 64) (by omega) h2
  rw [h3] at h5
  rw [wrapU, show ((b : Int) * 2 ^ t) % 18446744073709551616 = ((b * 2 ^ t % 18446744073709551616 : Nat) : Int) from by simp, u64_or_nat _ _ (by omega) (Nat.mod_lt _ (by omega)), Nat.add_mod, e, h3, Nat.mod_eq_of_lt (show a < 18446744073709551616 by omega), Nat.mod_eq_of_lt h5]
theorem by0 (n : Nat) : bits BinOp.or IntKind.u64 (dg n 0 : Nat) (IntKind.u64.wrap ((dg n 1 : Nat) * 2251799813685248)) = (lw n 0 : Nat) := by
  have h := or_shl (dg n 0) (dg n 1) 51 (by omega) (dg_lt _ _)
  refine Eq.trans (show _ = _ from h) ?_
  congr 1
  simp only [lw, dg, Nat.reduceMul, Nat.reducePow]; omega
theorem by1 (n : Nat) : bits BinOp.or IntKind.u64 ((dg n 1 : Nat) / 8192) (IntKind.u64.wrap ((dg n 2 : Nat) * 274877906944)) = (lw n 1 : Nat) := by
  have := dg_lt n 1
  have h := or_shl (dg n 1 / 8192) (dg n 2) 38 (by omega) (by omega)
  refine Eq.trans (show _ = _ from h) ?_
  congr 1
  simp only [lw, dg, Nat.reduceMul, Nat.reducePow]; omega
theorem by2 (n : Nat) : bits BinOp.or IntKind.u64 ((dg n 2 : Nat) / 67108864) (IntKind.u64.wrap ((dg n 3 : Nat) * 33554432)) = (lw n 2 : Nat) := by
  have := dg_lt n 2
  have h := or_shl (dg n 2 / 67108864) (dg n 3) 25 (by omega) (by omega)
  refine Eq.trans (show _ = _ from h) ?_
  congr 1
  simp only [lw, dg, Nat.reduceMul, Nat.reducePow]; omega
theorem by3 (n : Nat) (hn : n < Pq) : bits BinOp.or IntKind.u64 ((dg n 3 : Nat) / 549755813888) (IntKind.u64.wrap ((dg n 4 : Nat) * 4096)) = (lw n 3 : Nat) := by
  have := dg_lt n 3
  have h := or_shl (dg n 3 / 549755813888) (dg n 4) 12 (by omega) (by omega)
  refine Eq.trans (show _ = _ from h) ?_
  congr 1
  unfold Pq at hn
  simp only [lw, dg, Nat.reduceMul, Nat.reducePow]; omega
theorem by_flat (n : Nat) : [leB 8 (lw n 0), leB 8 (lw n 1), leB 8 (lw n 2), leB 8 (lw n 3)].flatten = leB 32 n := by
  rw [show (32 : Nat) = 8 * (3 + 1) from rfl, leB_words, show 8 * 3 = 8 * (2 + 1) from rfl, leB_words, show 8 * 2 = 8 * (1 + 1) from rfl, leB_words, show 8 * 1 = 8 * (0 + 1) from rfl, leB_words]
  simp [leB]
theorem RdB.of8 {w : World} {g : Nat} {n : Nat} (h : Blk w g ((leB 8 n).map bV) 5) : RdB w (some ⟨g, 0, none⟩) 8 8 (leB 8 n) :=
  RdB.blk [] (by rw [List.append_nil]; exact h) (leB_len _ _) (Nat.le_refl _) (by unfold maxLen; omega)
theorem own_base {w : World} {B' B E n : Nat} {v : Value} {xs : List Value} (h : w.ownsRow B' E 1 v n xs) (hB : B ≤ B') : w.ownsRow B E 1 v n xs := by
  obtain ⟨h1, h2⟩ := h
  refine ⟨h1, ?_⟩
  rcases h2 with h2 | ⟨g, cap, cur, hv, hg, r⟩
  · exact .inl h2
  · exact .inr ⟨g, cap, cur, hv, Nat.le_trans hB hg, r⟩
set_option maxHeartbeats 1000000 in
theorem febytes_own {f : Nat → Nat} {x : Nat} (hf : FE f x) (w : World) :
    Calls Try.prog 60 #[.agg #[.int .u64 (f 0 : Nat), .int .u64 (f 1 : Nat), .int .u64 (f 2 : Nat), .int .u64 (f 3 : Nat), .int .u64 (f 4 : Nat)]] w fun e w' => ∃ v, e = .returned v ∧ w'.ownsRow w.heap.size 5 1 v 32 ((leB 32 x).map bV) ∧ Below w.heap.size w w' := by
  have e0 := by0 x; have e1 := by1 x; have e2 := by2 x; have e3 := by3 x hf.lt
  have HFL := Lib.hid (by_flat x)
  have HW0 := Lib.hid (lw_lt x 0); have HW1 := Lib.hid (lw_lt x 1); have HW2 := Lib.hid (lw_lt x 2); have HW3 := Lib.hid (lw_lt x 3)
  have HF := Lib.hid hf
  clear hf
  go_enter Try.func60, Try.ntmps60
  go_upto_region 2 with (go_at_call 87; go_must (refine (whole_any HF.out _).mono ?_; rintro e w1 ⟨rfl, hb⟩; have hbel : Below w.heap.size w w1 := Below.call (by repeat (first | (with_reducible refine Below.alloc' ?_ _) | (with_reducible refine Below.drew ?_) | (with_reducible refine below_drewN ?_ _) | ((with_reducible refine Below.setCell ?_ ?_ _); rotate_left; (focus (first | exact Nat.le_refl _ | (simp; done) | (simp; omega)))) | (with_reducible assumption) | (with_reducible exact Below.refl _ _))) hb; clear hb))
  refine wp_gen (fun W => (W.cell? ⟨w1.heap.size, 0, none⟩ = some (.int .u64 (dg x 0 : Nat)) ∧ W.cell? ⟨w1.heap.size, 1, none⟩ = some (.int .u64 (dg x 1 : Nat)) ∧ W.cell? ⟨w1.heap.size, 2, none⟩ = some (.int .u64 (dg x 2 : Nat)) ∧ W.cell? ⟨w1.heap.size, 3, none⟩ = some (.int .u64 (dg x 3 : Nat)) ∧ W.cell? ⟨w1.heap.size, 4, none⟩ = some (.int .u64 (dg x 4 : Nat))) ∧ Below w.heap.size w W) ?_ (fun W0 hW => ?_)
  · exact ⟨⟨(Blk.new w1 _ _).cell 0, (Blk.new w1 _ _).cell 1, (Blk.new w1 _ _).cell 2, (Blk.new w1 _ _).cell 3, (Blk.new w1 _ _).cell 4⟩, (by repeat (first | (with_reducible refine Below.alloc' ?_ _) | (with_reducible refine Below.drew ?_) | (with_reducible refine below_drewN ?_ _) | ((with_reducible refine Below.setCell ?_ ?_ _); rotate_left; (focus (first | exact Nat.le_refl _ | (simp; done) | (simp; omega)))) | (with_reducible assumption) | (with_reducible exact Below.refl _ _)))⟩
  clear hbel
  generalize w1.heap.size = g at *
  clear w1
  have hst : ∀ W W' : World, ((W.cell? ⟨g, 0, none⟩ = some (.int .u64 (dg x 0 : Nat)) ∧ W.cell? ⟨g, 1, none⟩ = some (.int .u64 (dg x 1 : Nat)) ∧ W.cell? ⟨g, 2, none⟩ = some (.int .u64 (dg x 2 : Nat)) ∧ W.cell? ⟨g, 3, none⟩ = some (.int .u64 (dg x 3 : Nat)) ∧ W.cell? ⟨g, 4, none⟩ = some (.int .u64 (dg x 4 : Nat))) ∧ Below w.heap.size w W) → Below W.heap.size W W' → ((W'.cell? ⟨g, 0, none⟩ = some (.int .u64 (dg x 0 : Nat)) ∧ W'.cell? ⟨g, 1, none⟩ = some (.int .u64 (dg x 1 : Nat)) ∧ W'.cell? ⟨g, 2, none⟩ = some (.int .u64 (dg x 2 : Nat)) ∧ W'.cell? ⟨g, 3, none⟩ = some (.int .u64 (dg x 3 : Nat)) ∧ W'.cell? ⟨g, 4, none⟩ = some (.int .u64 (dg x 4 : Nat))) ∧ Below w.heap.size w W') := by
    rintro W W' ⟨h1, h3⟩ hb
    exact ⟨keep5 _ _ h1 hb, Below.call h3 hb⟩
  have hst' := Lib.hid hst; have HS0 := Lib.hid (show (fun W => (W.cell? ⟨g, 0, none⟩ = some (.int .u64 (dg x 0 : Nat)) ∧ W.cell? ⟨g, 1, none⟩ = some (.int .u64 (dg x 1 : Nat)) ∧ W.cell? ⟨g, 2, none⟩ = some (.int .u64 (dg x 2 : Nat)) ∧ W.cell? ⟨g, 3, none⟩ = some (.int .u64 (dg x 3 : Nat)) ∧ W.cell? ⟨g, 4, none⟩ = some (.int .u64 (dg x 4 : Nat))) ∧ Below w.heap.size w W) W0.drew from ⟨hW.1, hW.2.drew⟩)
  clear hst hW
  have hst := hst'
  clear hst'
  have hF : ∀ W : World, ((W.cell? ⟨g, 0, none⟩ = some (.int .u64 (dg x 0 : Nat)) ∧ W.cell? ⟨g, 1, none⟩ = some (.int .u64 (dg x 1 : Nat)) ∧ W.cell? ⟨g, 2, none⟩ = some (.int .u64 (dg x 2 : Nat)) ∧ W.cell? ⟨g, 3, none⟩ = some (.int .u64 (dg x 3 : Nat)) ∧ W.cell? ⟨g, 4, none⟩ = some (.int .u64 (dg x 4 : Nat))) ∧ Below w.heap.size w W) → Below w.heap.size w W := fun W h => h.2
  go_region_held3 (fun W => (W.cell? ⟨g, 0, none⟩ = some (.int .u64 (dg x 0 : Nat)) ∧ W.cell? ⟨g, 1, none⟩ = some (.int .u64 (dg x 1 : Nat)) ∧ W.cell? ⟨g, 2, none⟩ = some (.int .u64 (dg x 2 : Nat)) ∧ W.cell? ⟨g, 3, none⟩ = some (.int .u64 (dg x 3 : Nat)) ∧ W.cell? ⟨g, 4, none⟩ = some (.int .u64 (dg x 4 : Nat))) ∧ Below w.heap.size w W) (first | (exact HS0.out) | (first | assumption | (refine hst.out _ _ ?_ hb; assumption) | (refine hst.out _ _ ?_ (Below.alloc' (Below.refl _ _) _); assumption) | (refine hst.out _ _ ?_ (Below.drew (Below.refl _ _)); assumption))) ((first | (go_at_call 74; first | ((with_reducible refine (little_any HW0.out _).mono ?_); rintro e w1 ⟨rfl, hB, hb⟩; have C1 := Lib.hid hb.size; have R0 := Lib.hid (RdB.of8 hB); clear hB) | ((with_reducible refine (little_any HW1.out _).mono ?_); rintro e w2 ⟨rfl, hB, hb⟩; have C2 := Lib.hid hb.size; have R1 := Lib.hid (RdB.of8 hB); have Q0 := Lib.hid (R0.out.below hb); clear hB) | ((with_reducible refine (little_any HW2.out _).mono ?_); rintro e w3 ⟨rfl, hB, hb⟩; have C3 := Lib.hid hb.size; have R2 := Lib.hid (RdB.of8 hB); have Q1 := Lib.hid (R1.out.below hb); have P0 := Lib.hid (Q0.out.below hb); clear hB) | ((with_reducible refine (little_any HW3.out _).mono ?_); rintro e w4 ⟨rfl, hB, hb⟩; have C4 := Lib.hid hb.size; have R3 := Lib.hid (RdB.of8 hB); have Q2 := Lib.hid (R2.out.below hb); have P1 := Lib.hid (Q1.out.below hb); have N0 := Lib.hid (P0.out.below hb); clear hB)) | (go_at_call 93; refine (cat_any (ls := [leB 8 (lw x 0), leB 8 (lw x 1), leB 8 (lw x 2), leB 8 (lw x 3)]) _ (RdRows.blk (n := 4) (Blk.new _ _ _) (Rows.cons (N0.out.below (Below.alloc' (Below.refl _ _) _)) (Rows.cons (P1.out.below (Below.alloc' (Below.refl _ _) _)) (Rows.cons (Q2.out.below (Below.alloc' (Below.refl _ _) _)) (Rows.cons (R3.out.below (Below.alloc' (Below.refl _ _) _)) Rows.nil)))) rfl (by unfold maxLen; omega)) (by rw [HFL.out, leB_len]; omega)).mono ?_; rintro e w5 ⟨v, rfl, ho, hb⟩; rw [HFL.out, leB_len] at ho; replace ho := own_base (B := w4.heap.size) ho (Below.alloc' (Below.refl _ _) _).size; have HO := Lib.hid ho; clear ho)))
  all_goals
    go_wp2
    go_ret
    refine ⟨v, rfl, own_base HO.out ?_, hF _ (by assumption)⟩
    have c0 := HS0.out.2.size; have c1 := C1.out; have c2 := C2.out; have c3 := C3.out; have c4 := C4.out
    omega
theorem febytes_any {f : Nat → Nat} {x : Nat} (hf : FE f x) (w : World) :
    Calls Try.prog 60 #[.agg #[.int .u64 (f 0 : Nat), .int .u64 (f 1 : Nat), .int .u64 (f 2 : Nat), .int .u64 (f 3 : Nat), .int .u64 (f 4 : Nat)]] w fun e w' => ∃ g cap r, e = .returned (.slice (some ⟨g, 0, none⟩) 32 cap) ∧ w.heap.size ≤ g ∧ Blk w' g ((leB 32 x).map bV ++ r) 5 ∧ 32 ≤ cap ∧ cap ≤ maxLen ∧ Below w.heap.size w w' := by
  refine (febytes_own hf w).mono ?_
  rintro e w' ⟨v, rfl, ho, hb⟩
  obtain ⟨g, cap, r, rfl, hg, hB, _, hc, hm⟩ := own_rdb ho (by omega)
  exact ⟨g, cap, r, rfl, hg, hB, hc, hm, hb⟩
end Go.Proofs.Ytjchdhpijopikaa
namespace Go.Proofs.Ytjchdhpijopikaa
open Go.RowKit
/-- The limbs f mean x. -/
def FF (f : Nat → Nat) (x : F) : Prop := FE f x.val
theorem FF.mk {f : Nat → Nat} {n : Nat} {x : F} (h : FE f n) (e : n = x.val) : FF f x := by subst e; exact h
/-- The number that bytes mean, freely read. -/
def feF (l : List UInt8) : F := fn (leN (first l 32) % 57896044618658097711785492504343953926634992332820282019728792003956564819968)
theorem faddM {f g : Nat → Nat} {x y : F} (hf : FF f x) (hg : FF g y) (w : World) :
    Calls Try.prog 41 #[.agg #[.int .u64 (f 0 : Nat), .int .u64 (f 1 : Nat), .int .u64 (f 2 : Nat), .int .u64 (f 3 : Nat), .int .u64 (f 4 : Nat)], .agg #[.int .u64 (g 0 : Nat), .int .u64 (g 1 : Nat), .int .u64 (g 2 : Nat), .int .u64 (g 3 : Nat), .int .u64 (g 4 : Nat)]] w fun e w' => ∃ h, e = .returned (.agg #[.int .u64 (h 0 : Nat), .int .u64 (h 1 : Nat), .int .u64 (h 2 : Nat), .int .u64 (h 3 : Nat), .int .u64 (h 4 : Nat)]) ∧ FF h (x + y) ∧ Below w.heap.size w w' := feadd_any hf hg w
theorem fsub_val (x y : F) : (x.val + (Pq - y.val)) % Pq = (x - y).val := by rw [Fin.sub_def, Nat.add_comm]
theorem fsubM {f g : Nat → Nat} {x y : F} (hf : FF f x) (hg : FF g y) (w : World) :
    Calls Try.prog 39 #[.agg #[.int .u64 (f 0 : Nat), .int .u64 (f 1 : Nat), .int .u64 (f 2 : Nat), .int .u64 (f 3 : Nat), .int .u64 (f 4 : Nat)], .agg #[.int .u64 (g 0 : Nat), .int .u64 (g 1 : Nat), .int .u64 (g 2 : Nat), .int .u64 (g 3 : Nat), .int .u64 (g 4 : Nat)]] w fun e w' => ∃ h, e = .returned (.agg #[.int .u64 (h 0 : Nat), .int .u64 (h 1 : Nat), .int .u64 (h 2 : Nat), .int .u64 (h 3 : Nat), .int .u64 (h 4 : Nat)]) ∧ FF h (x - y) ∧ Below w.heap.size w w' := by
  refine (fesub_any hf hg w).mono ?_
  rintro e w' ⟨h, rfl, hh, hb⟩
  exact ⟨h, rfl, FF.mk hh (fsub_val x y), hb⟩
theorem fnegM {f : Nat → Nat} {x : F} (hf : FF f x) (w : World) :
    Calls Try.prog 47 #[.agg #[.int .u64 (f 0 : Nat), .int .u64 (f 1 : Nat), .int .u64 (f 2 : Nat), .int .u64 (f 3 : Nat), .int .u64 (f 4 : Nat)]] w fun e w' => ∃ h, e = .returned (.agg #[.int .u64 (h 0 : Nat), .int .u64 (h 1 : Nat), .int .u64 (h 2 : Nat), .int .u64 (h 3 : Nat), .int .u64 (h 4 : Nat)]) ∧ FF h (-x) ∧ Below w.heap.size w w' := feneg_any hf w
theorem fmulM {f g : Nat → Nat} {x y : F} (hf : FF f x) (hg : FF g y) (w : World) :
    Calls Try.prog 38 #[.agg #[.int .u64 (f 0 : Nat), .int .u64 (f 1 : Nat), .int .u64 (f 2 : Nat), .int .u64 (f 3 : Nat), .int .u64 (f 4 : Nat)], .agg #[.int .u64 (g 0 : Nat), .int .u64 (g 1 : Nat), .int .u64 (g 2 : Nat), .int .u64 (g 3 : Nat), .int .u64 (g 4 : Nat)]] w fun e w' => ∃ h, e = .returned (.agg #[.int .u64 (h 0 : Nat), .int .u64 (h 1 : Nat), .int .u64 (h 2 : Nat), .int .u64 (h 3 : Nat), .int .u64 (h 4 : Nat)]) ∧ FF h (x * y) ∧ Below w.heap.size w w' := femul_any hf hg w
theorem finvM {f : Nat → Nat} {x : F} (hf : FF f x) (w : World) :
    Calls Try.prog 42 #[.agg #[.int .u64 (f 0 : Nat), .int .u64 (f 1 : Nat), .int .u64 (f 2 : Nat), .int .u64 (f 3 : Nat), .int .u64 (f 4 : Nat)]] w fun e w' => ∃ h, e = .returned (.agg #[.int .u64 (h 0 : Nat), .int .u64 (h 1 : Nat), .int .u64 (h 2 : Nat), .int .u64 (h 3 : Nat), .int .u64 (h 4 : Nat)]) ∧ FF h (finv x) ∧ Below w.heap.size w w' := feinv_any hf w
theorem fsmallM {n : Nat} (hn : n < 18446744073709551616) (w : World) :
    Calls Try.prog 37 #[.int .u64 n] w fun e w' => ∃ h, e = .returned (.agg #[.int .u64 (h 0 : Nat), .int .u64 (h 1 : Nat), .int .u64 (h 2 : Nat), .int .u64 (h 3 : Nat), .int .u64 (h 4 : Nat)]) ∧ FF h (fn n) ∧ Below w.heap.size w w' := by
  refine (fesmall_any hn w).mono ?_
  rintro e w' ⟨rfl, hb⟩
  exact ⟨_, rfl, FF.mk (FE.small hn) (by rw [fn_val, Nat.mod_eq_of_lt]; unfold Pq; omega), hb⟩
theorem fofM {a : Option Addr} {n cap : Nat} {l : List UInt8} (w : World) (h : RdB w a n cap l) :
    Calls Try.prog 81 #[.slice a n cap] w fun e w' => ∃ h, e = .returned (.agg #[.int .u64 (h 0 : Nat), .int .u64 (h 1 : Nat), .int .u64 (h 2 : Nat), .int .u64 (h 3 : Nat), .int .u64 (h 4 : Nat)]) ∧ FF h (feF l) ∧ Below w.heap.size w w' := by
  refine (feof_any w h).mono ?_
  rintro e w' ⟨rfl, hb⟩
  exact ⟨_, rfl, FE.of _, hb⟩
theorem fsameM {f g : Nat → Nat} {x y : F} (hf : FF f x) (hg : FF g y) (w : World) :
    Calls Try.prog 44 #[.agg #[.int .u64 (f 0 : Nat), .int .u64 (f 1 : Nat), .int .u64 (f 2 : Nat), .int .u64 (f 3 : Nat), .int .u64 (f 4 : Nat)], .agg #[.int .u64 (g 0 : Nat), .int .u64 (g 1 : Nat), .int .u64 (g 2 : Nat), .int .u64 (g 3 : Nat), .int .u64 (g 4 : Nat)]] w fun e w' => e = .returned (.bool (decide (x = y))) ∧ Below w.heap.size w w' := by
  refine (fesame_any hf hg w).mono ?_
  rintro e w' ⟨rfl, hb⟩
  exact ⟨ret_bool (by by_cases h : x = y <;> simp [h, Fin.val_inj]), hb⟩
theorem fsameT {f g : Nat → Nat} {x y : F} (hf : FF f x) (hg : FF g y) (h : x = y) (w : World) :
    Calls Try.prog 44 #[.agg #[.int .u64 (f 0 : Nat), .int .u64 (f 1 : Nat), .int .u64 (f 2 : Nat), .int .u64 (f 3 : Nat), .int .u64 (f 4 : Nat)], .agg #[.int .u64 (g 0 : Nat), .int .u64 (g 1 : Nat), .int .u64 (g 2 : Nat), .int .u64 (g 3 : Nat), .int .u64 (g 4 : Nat)]] w fun e w' => e = .returned (.bool true) ∧ Below w.heap.size w w' := by
  refine (fsameM hf hg w).mono ?_
  rintro e w' ⟨rfl, hb⟩
  exact ⟨ret_bool (by simp [h]), hb⟩
theorem fsameF {f g : Nat → Nat} {x y : F} (hf : FF f x) (hg : FF g y) (h : x ≠ y) (w : World) :
    Calls Try.prog 44 #[.agg #[.int .u64 (f 0 : Nat), .int .u64 (f 1 : Nat), .int .u64 (f 2 : Nat), .int .u64 (f 3 : Nat), .int .u64 (f 4 : Nat)], .agg #[.int .u64 (g 0 : Nat), .int .u64 (g 1 : Nat), .int .u64 (g 2 : Nat), .int .u64 (g 3 : Nat), .int .u64 (g 4 : Nat)]] w fun e w' => e = .returned (.bool false) ∧ Below w.heap.size w w' := by
  refine (fsameM hf hg w).mono ?_
  rintro e w' ⟨rfl, hb⟩
  exact ⟨ret_bool (by simp [h]), hb⟩
theorem foddM {f : Nat → Nat} {x : F} (hf : FF f x) (w : World) :
    Calls Try.prog 61 #[.agg #[.int .u64 (f 0 : Nat), .int .u64 (f 1 : Nat), .int .u64 (f 2 : Nat), .int .u64 (f 3 : Nat), .int .u64 (f 4 : Nat)]] w fun e w' => e = .returned (.bool (decide (x.val % 2 = 1))) ∧ Below w.heap.size w w' := feodd_any hf w
theorem fbytesM {f : Nat → Nat} {x : F} (hf : FF f x) (w : World) :
    Calls Try.prog 60 #[.agg #[.int .u64 (f 0 : Nat), .int .u64 (f 1 : Nat), .int .u64 (f 2 : Nat), .int .u64 (f 3 : Nat), .int .u64 (f 4 : Nat)]] w fun e w' => ∃ g cap r, e = .returned (.slice (some ⟨g, 0, none⟩) 32 cap) ∧ w.heap.size ≤ g ∧ Blk w' g ((leB 32 x.val).map bV ++ r) 5 ∧ 32 ≤ cap ∧ cap ≤ maxLen ∧ Below w.heap.size w w' := febytes_any hf w
theorem fpowM {f : Nat → Nat} {x : F} (N T : Nat) (hT1 : T ≤ 256) (hT2 : 256 ≤ T) (hN : N < 2 ^ T) (hf : FF f x) (w : World) :
    Calls Try.prog 85 #[.agg #[.int .u64 (f 0 : Nat), .int .u64 (f 1 : Nat), .int .u64 (f 2 : Nat), .int .u64 (f 3 : Nat), .int .u64 (f 4 : Nat)], .agg #[.int .u64 (lw N 0 : Nat), .int .u64 (lw N 1 : Nat), .int .u64 (lw N 2 : Nat), .int .u64 (lw N 3 : Nat)]] w fun e w' => ∃ h, e = .returned (.agg #[.int .u64 (h 0 : Nat), .int .u64 (h 1 : Nat), .int .u64 (h 2 : Nat), .int .u64 (h 3 : Nat), .int .u64 (h 4 : Nat)]) ∧ FF h (fpow x N) ∧ Below w.heap.size w w' := power_any N T hT1 hT2 hN hf w
/-- 32 bytes, below p. -/
def feOk (l : List UInt8) : Bool := decide (l.length = 32) && decide (leN l < Pq)
theorem feF_ok {l : List UInt8} (h : feOk l = true) : (feF l).val = leN l := by
  simp only [feOk, Bool.and_eq_true, decide_eq_true_eq] at h
  have h2 := h.2
  unfold feF
  rw [fn_val, leN_first, List.take_of_length_le (by omega)]
  unfold Pq at *
  omega
theorem feOk_back (l : List UInt8) : decide (leB 32 (feF l).val = l) = feOk l := by
  by_cases h : feOk l = true
  · rw [h, feF_ok h]
    simp only [feOk, Bool.and_eq_true, decide_eq_true_eq] at h
    rw [← h.1, leB_leN]; simp
  · rw [Bool.not_eq_true] at h
    rw [h, decide_eq_false]
    intro e
    have h1 : l.length = 32 := by rw [← e, leB_len]
    have h2 : leN l < Pq := by
      rw [← e, leN_leB]
      exact Nat.lt_of_le_of_lt (Nat.mod_le _ _) (feF l).isLt
    simp [feOk, h1, h2] at h
set_option maxHeartbeats 1000000 in
theorem fstrict_yes {a : Option Addr} {n cap : Nat} {l : List UInt8} (w : World) (h : RdB w a n cap l) (hok : feOk l = true) :
    Calls Try.prog 36 #[.slice a n cap] w fun e w' => ∃ h, e = .returned (.tuple #[.agg #[.int .u64 (h 0 : Nat), .int .u64 (h 1 : Nat), .int .u64 (h 2 : Nat), .int .u64 (h 3 : Nat), .int .u64 (h 4 : Nat)], .int .i64 0]) ∧ FF h (feF l) ∧ Below w.heap.size w w' := by
  have HQ : Hid (decide (leB 32 (feF l).val = l) = true) := Lib.hid (by rw [feOk_back, hok])
  clear hok
  go_enter Try.func36, Try.ntmps36
  go_wp2_with (first | (go_at_call 81; go_must (refine (fofM _ (h.below (by repeat (first | (with_reducible refine Below.alloc' ?_ _) | (with_reducible refine Below.drew ?_) | (with_reducible refine below_drewN ?_ _) | ((with_reducible refine Below.setCell ?_ ?_ _); rotate_left; (focus (first | exact Nat.le_refl _ | (simp; done) | (simp; omega)))) | (with_reducible assumption) | (with_reducible exact Below.refl _ _))))).mono ?_; rintro e w1 ⟨f, rfl, hf, hb1⟩; have hO1 := (Blk.new w _ _).below' hb1; have oc := hO1.cell; have of := hO1.frozen; have hbel1 : Below w.heap.size w w1 := Below.call (by repeat (first | (with_reducible refine Below.alloc' ?_ _) | (with_reducible refine Below.drew ?_) | (with_reducible refine below_drewN ?_ _) | ((with_reducible refine Below.setCell ?_ ?_ _); rotate_left; (focus (first | exact Nat.le_refl _ | (simp; done) | (simp; omega)))) | (with_reducible assumption) | (with_reducible exact Below.refl _ _))) hb1; clear hb1))     | (go_at_call 60; go_must (refine (fbytesM hf _).mono ?_; rintro e w2 ⟨g, gc, r, rfl, hg, hB, hc1, hc2, hb2⟩; have hR := RdB.blk r hB (leB_len _ _) hc1 hc2; have hS2 := (Blk.new w1 _ _).below' hb2; have hO2 := (hO1.alloc _).below' hb2; have hbel2 := Below.call (show Below w.heap.size w _ from (by repeat (first | (with_reducible refine Below.alloc' ?_ _) | (with_reducible refine Below.drew ?_) | (with_reducible refine below_drewN ?_ _) | ((with_reducible refine Below.setCell ?_ ?_ _); rotate_left; (focus (first | exact Nat.le_refl _ | (simp; done) | (simp; omega)))) | (with_reducible assumption) | (with_reducible exact Below.refl _ _)))) hb2; clear hb2 hO1 hbel1 hB))     | (go_at_call 82; go_must (refine (equal_any _ hR (h.below hbel2)).mono ?_; rintro e w3 ⟨rfl, hb3⟩; rw [HQ.out]; have hO3 := hO2.below' hb3; have hS3 := hS2.below' hb3; have hbel3 := Below.call hbel2 hb3; clear oc of hO2 hS2 hbel2 hb3 hR; have oc := hO3.cell; have of := hO3.frozen; have sc := hS3.cell)))
  exact bodyPost_ret (v := .tuple #[.agg #[.int .u64 (f 0 : Nat), .int .u64 (f 1 : Nat), .int .u64 (f 2 : Nat), .int .u64 (f 3 : Nat), .int .u64 (f 4 : Nat)], .int .i64 0]) (by simp [results, Try.results36, go_sem, oc]) rfl ⟨f, rfl, hf, (by repeat (first | (with_reducible refine Below.alloc' ?_ _) | (with_reducible refine Below.drew ?_) | (with_reducible refine below_drewN ?_ _) | ((with_reducible refine Below.setCell ?_ ?_ _); rotate_left; (focus (first | exact Nat.le_refl _ | (simp; done) | (simp; omega)))) | (with_reducible assumption) | (with_reducible exact Below.refl _ _)))⟩
theorem FF.zero : FF (fun _ => 0) 0 := FE.zero
set_option maxHeartbeats 1000000 in
theorem fstrict_no {a : Option Addr} {n cap : Nat} {l : List UInt8} (w : World) (h : RdB w a n cap l) (hok : feOk l = false) :
    Calls Try.prog 36 #[.slice a n cap] w fun e w' => ∃ h, e = .returned (.tuple #[.agg #[.int .u64 (h 0 : Nat), .int .u64 (h 1 : Nat), .int .u64 (h 2 : Nat), .int .u64 (h 3 : Nat), .int .u64 (h 4 : Nat)], .int .i64 2]) ∧ FF h 0 ∧ Below w.heap.size w w' := by
  have HQ : Hid (decide (leB 32 (feF l).val = l) = false) := Lib.hid (by rw [feOk_back, hok])
  have hbE := buildE
  clear hok
  go_enter Try.func36, Try.ntmps36
  go_wp2_with (first | (go_at_call 81; go_must (refine (fofM _ (h.below (by repeat (first | (with_reducible refine Below.alloc' ?_ _) | (with_reducible refine Below.drew ?_) | (with_reducible refine below_drewN ?_ _) | ((with_reducible refine Below.setCell ?_ ?_ _); rotate_left; (focus (first | exact Nat.le_refl _ | (simp; done) | (simp; omega)))) | (with_reducible assumption) | (with_reducible exact Below.refl _ _))))).mono ?_; rintro e w1 ⟨f, rfl, hf, hb1⟩; have hO1 := (Blk.new w _ _).below' hb1; have oc := hO1.cell; have of := hO1.frozen; have hbel1 : Below w.heap.size w w1 := Below.call (by repeat (first | (with_reducible refine Below.alloc' ?_ _) | (with_reducible refine Below.drew ?_) | (with_reducible refine below_drewN ?_ _) | ((with_reducible refine Below.setCell ?_ ?_ _); rotate_left; (focus (first | exact Nat.le_refl _ | (simp; done) | (simp; omega)))) | (with_reducible assumption) | (with_reducible exact Below.refl _ _))) hb1; clear hb1))     | (go_at_call 60; go_must (refine (fbytesM hf _).mono ?_; rintro e w2 ⟨g, gc, r, rfl, hg, hB, hc1, hc2, hb2⟩; have hR := RdB.blk r hB (leB_len _ _) hc1 hc2; have hS2 := (Blk.new w1 _ _).below' hb2; have hO2 := (hO1.alloc _).below' hb2; have hbel2 := Below.call (show Below w.heap.size w _ from (by repeat (first | (with_reducible refine Below.alloc' ?_ _) | (with_reducible refine Below.drew ?_) | (with_reducible refine below_drewN ?_ _) | ((with_reducible refine Below.setCell ?_ ?_ _); rotate_left; (focus (first | exact Nat.le_refl _ | (simp; done) | (simp; omega)))) | (with_reducible assumption) | (with_reducible exact Below.refl _ _)))) hb2; clear hb2 hO1 hbel1 hB))     | (go_at_call 82; go_must (refine (equal_any _ hR (h.below hbel2)).mono ?_; rintro e w3 ⟨rfl, hb3⟩; rw [HQ.out]; have hO3 := hO2.below' hb3; have hS3 := hS2.below' hb3; have hbel3 := Below.call hbel2 hb3; clear oc of hO2 hS2 hbel2 hb3 hR; have oc := hO3.cell; have of := hO3.frozen; have sc := hS3.cell)))
  exact bodyPost_ret (v := .tuple #[.agg #[.int .u64 0, .int .u64 0, .int .u64 0, .int .u64 0, .int .u64 0], .int .i64 2]) (by simp [results, Try.results36, go_sem, oc]) rfl ⟨fun _ => 0, rfl, FF.zero, (by repeat (first | (with_reducible refine Below.alloc' ?_ _) | (with_reducible refine Below.drew ?_) | (with_reducible refine below_drewN ?_ _) | ((with_reducible refine Below.setCell ?_ ?_ _); rotate_left; (focus (first | exact Nat.le_refl _ | (simp; done) | (simp; omega)))) | (with_reducible assumption) | (with_reducible exact Below.refl _ _)))⟩
end Go.Proofs.Ytjchdhpijopikaa
namespace Go.Proofs.Ytjchdhpijopikaa
open Go Go.RowKit
def repE (x : F) (cs : List Value) : Prop := ∃ h, FF h x ∧ cs = [.int .u64 (h 0 : Nat), .int .u64 (h 1 : Nat), .int .u64 (h 2 : Nat), .int .u64 (h 3 : Nat), .int .u64 (h 4 : Nat)]
def rE : Rp F where
  n := 5
  rep := repE
  pos := by omega
  len := fun _ _ h => by obtain ⟨h, _, rfl⟩ := h; rfl
  one := fun _ _ h v hv => by
    obtain ⟨h, _, rfl⟩ := h
    simp at hv
    rcases hv with rfl | rfl | rfl | rfl | rfl <;> rfl
theorem isE {f : Nat → Nat} {x : F} (h : FF f x) : IsFs rE (.agg #[.int .u64 (f 0 : Nat), .int .u64 (f 1 : Nat), .int .u64 (f 2 : Nat), .int .u64 (f 3 : Nat), .int .u64 (f 4 : Nat)]) [x] := ⟨_, rfl, Lims.single (R := rE) ⟨f, h, rfl⟩⟩
theorem of_isE {v : Value} {x : F} (h : IsFs rE v [x]) : ∃ f, v = .agg #[.int .u64 (f 0 : Nat), .int .u64 (f 1 : Nat), .int .u64 (f 2 : Nat), .int .u64 (f 3 : Nat), .int .u64 (f 4 : Nat)] ∧ FF f x := by
  obtain ⟨cs, rfl, hc⟩ := h
  obtain ⟨f, hf, rfl⟩ := Lims.of_single hc
  exact ⟨f, rfl, hf⟩
theorem cAdd {v v' : Value} {x y : F} (h : IsFs rE v [x]) (h' : IsFs rE v' [y]) (w : World) :
    Calls Try.prog 41 #[v, v'] w fun e w' => ∃ r, e = .returned r ∧ IsFs rE r [x + y] ∧ Below w.heap.size w w' := by
  obtain ⟨f, rfl, hf⟩ := of_isE h; obtain ⟨g, rfl, hg⟩ := of_isE h'
  exact (faddM hf hg w).mono fun e w' ⟨k, he, hk, hb⟩ => ⟨_, he, isE hk, hb⟩
theorem cSub {v v' : Value} {x y : F} (h : IsFs rE v [x]) (h' : IsFs rE v' [y]) (w : World) :
    Calls Try.prog 39 #[v, v'] w fun e w' => ∃ r, e = .returned r ∧ IsFs rE r [x - y] ∧ Below w.heap.size w w' := by
  obtain ⟨f, rfl, hf⟩ := of_isE h; obtain ⟨g, rfl, hg⟩ := of_isE h'
  exact (fsubM hf hg w).mono fun e w' ⟨k, he, hk, hb⟩ => ⟨_, he, isE hk, hb⟩
theorem cMul {v v' : Value} {x y : F} (h : IsFs rE v [x]) (h' : IsFs rE v' [y]) (w : World) :
    Calls Try.prog 38 #[v, v'] w fun e w' => ∃ r, e = .returned r ∧ IsFs rE r [x * y] ∧ Below w.heap.size w w' := by
  obtain ⟨f, rfl, hf⟩ := of_isE h; obtain ⟨g, rfl, hg⟩ := of_isE h'
  exact (fmulM hf hg w).mono fun e w' ⟨k, he, hk, hb⟩ => ⟨_, he, isE hk, hb⟩
theorem cNeg {v : Value} {x : F} (h : IsFs rE v [x]) (w : World) :
    Calls Try.prog 47 #[v] w fun e w' => ∃ r, e = .returned r ∧ IsFs rE r [-x] ∧ Below w.heap.size w w' := by
  obtain ⟨f, rfl, hf⟩ := of_isE h
  exact (fnegM hf w).mono fun e w' ⟨k, he, hk, hb⟩ => ⟨_, he, isE hk, hb⟩
theorem cInv {v : Value} {x : F} (h : IsFs rE v [x]) (w : World) :
    Calls Try.prog 42 #[v] w fun e w' => ∃ r, e = .returned r ∧ IsFs rE r [finv x] ∧ Below w.heap.size w w' := by
  obtain ⟨f, rfl, hf⟩ := of_isE h
  exact (finvM hf w).mono fun e w' ⟨k, he, hk, hb⟩ => ⟨_, he, isE hk, hb⟩
theorem cSmall {n : Nat} (hn : n < 18446744073709551616) (w : World) :
    Calls Try.prog 37 #[.int .u64 n] w fun e w' => ∃ r, e = .returned r ∧ IsFs rE r [fn n] ∧ Below w.heap.size w w' :=
  (fsmallM hn w).mono fun _ _ ⟨_, he, hk, hb⟩ => ⟨_, he, isE hk, hb⟩
theorem cSmallI {n : Nat} {z : Int} (hz : z = (n : Nat)) (hn : n < 18446744073709551616) (w : World) :
    Calls Try.prog 37 #[.int .u64 z] w fun e w' => ∃ r, e = .returned r ∧ IsFs rE r [fn n] ∧ Below w.heap.size w w' := by subst hz; exact cSmall hn w
theorem buildE0 (w : World) : ∃ r, (Instr.build 27 #[]).run Try.prog w = .ok r w ∧ IsFs rE r [0] :=
  ⟨_, by kernel_rfl, isE (f := fun _ => 0) FF.zero⟩
theorem cOf {a : Option Addr} {n cap : Nat} {l : List UInt8} {w : World} (h : RdB w a n cap l) :
    Calls Try.prog 81 #[.slice a n cap] w fun e w' => ∃ r, e = .returned r ∧ IsFs rE r [feF l] ∧ Below w.heap.size w w' :=
  (fofM w h).mono fun _ _ ⟨_, he, hk, hb⟩ => ⟨_, he, isE hk, hb⟩
theorem cBytes {v : Value} {x : F} (h : IsFs rE v [x]) (w : World) :
    Calls Try.prog 60 #[v] w fun e w' => ∃ g n cap r, e = .returned (.slice (some ⟨g, 0, none⟩) n cap) ∧ w.heap.size ≤ g ∧ Blk w' g ((leB 32 x.val).map bV ++ r) 5 ∧ (leB 32 x.val).length = n ∧ n ≤ cap ∧ cap ≤ maxLen ∧ Below w.heap.size w w' := by
  obtain ⟨f, rfl, hf⟩ := of_isE h
  exact (fbytesM hf w).mono fun _ _ ⟨g, cap, r, he, hg, hB, h1, h2, hb⟩ => ⟨g, 32, cap, r, he, hg, hB, leB_len _ _, h1, h2, hb⟩
theorem tyE : TyOk rE 27 1 := ⟨⟨_, Try.underlying27, rfl⟩, by kernel_rfl⟩
theorem allocE (w : World) : (Instr.alloc 27 true (.tuple #[])).run Try.prog w = .ok (.pointer (some ⟨w.heap.size, 0, none⟩)) (w.alloc (.cells #[.int .u64 0, .int .u64 0, .int .u64 0, .int .u64 0, .int .u64 0] 27)) := by kernel_rfl
end Go.Proofs.Ytjchdhpijopikaa
namespace Go.Proofs.Ytjchdhpijopikaa
open Go.RowKit
def turnF (i : Nat) : Nat := if i = 0 then 1718705420411056 else if i = 1 then 234908883556509 else if i = 2 then 2233514472574048 else if i = 3 then 2117202627021982 else 765476049583133
theorem FF.turn : FF turnF sqm1 := ⟨⟨by decide, by decide, by decide, by decide, by decide⟩, by decide +kernel⟩
theorem fturnM (w : World) : Calls Try.prog 86 #[] w fun e w' => ∃ h, e = .returned (.agg #[.int .u64 (h 0 : Nat), .int .u64 (h 1 : Nat), .int .u64 (h 2 : Nat), .int .u64 (h 3 : Nat), .int .u64 (h 4 : Nat)]) ∧ FF h sqm1 ∧ Below w.heap.size w w' := by
  go_enter Try.func86, Try.ntmps86
  go_wp2
  exact bodyPost_ret (v := .agg #[.int .u64 1718705420411056, .int .u64 234908883556509, .int .u64 2233514472574048, .int .u64 2117202627021982, .int .u64 765476049583133]) (by simp [results, Try.results86, go_sem]) rfl ⟨turnF, rfl, FF.turn, (by repeat (first | (with_reducible refine Below.alloc' ?_ _) | (with_reducible refine Below.drew ?_) | (with_reducible refine below_drewN ?_ _) | ((with_reducible refine Below.setCell ?_ ?_ _); rotate_left; (focus (first | exact Nat.le_refl _ | (simp; done) | (simp; omega)))) | (with_reducible assumption) | (with_reducible exact Below.refl _ _)))⟩
theorem fpow8 {f : Nat → Nat} {x : F} (hf : FF f x) (w : World) :
    Calls Try.prog 85 #[.agg #[.int .u64 (f 0 : Nat), .int .u64 (f 1 : Nat), .int .u64 (f 2 : Nat), .int .u64 (f 3 : Nat), .int .u64 (f 4 : Nat)], .agg #[.int .u64 18446744073709551614, .int .u64 18446744073709551615, .int .u64 18446744073709551615, .int .u64 1152921504606846975]] w fun e w' => ∃ h, e = .returned (.agg #[.int .u64 (h 0 : Nat), .int .u64 (h 1 : Nat), .int .u64 (h 2 : Nat), .int .u64 (h 3 : Nat), .int .u64 (h 4 : Nat)]) ∧ FF h (fpow x exp8) ∧ Below w.heap.size w w' := by
  have hP := fpowM exp8 (8 * 32) (by omega) (by omega) (by decide +kernel) hf w
  rw [show lw exp8 0 = 18446744073709551614 from by decide +kernel, show lw exp8 1 = 18446744073709551615 from by decide +kernel, show lw exp8 2 = 18446744073709551615 from by decide +kernel, show lw exp8 3 = 1152921504606846975 from by decide +kernel] at hP
  exact hP
/-- What the walk of Root keeps: the number, the candidate, the answer's place. -/
theorem root_keep {f r : Nat → Nat} {A g o : Nat} {w : World} : ∀ W W' : World, ((W.cell? ⟨A, 0, none⟩ = some (.int .u64 (f 0 : Nat)) ∧ W.cell? ⟨A, 1, none⟩ = some (.int .u64 (f 1 : Nat)) ∧ W.cell? ⟨A, 2, none⟩ = some (.int .u64 (f 2 : Nat)) ∧ W.cell? ⟨A, 3, none⟩ = some (.int .u64 (f 3 : Nat)) ∧ W.cell? ⟨A, 4, none⟩ = some (.int .u64 (f 4 : Nat))) ∧ (W.cell? ⟨g, 0, none⟩ = some (.int .u64 (r 0 : Nat)) ∧ W.cell? ⟨g, 1, none⟩ = some (.int .u64 (r 1 : Nat)) ∧ W.cell? ⟨g, 2, none⟩ = some (.int .u64 (r 2 : Nat)) ∧ W.cell? ⟨g, 3, none⟩ = some (.int .u64 (r 3 : Nat)) ∧ W.cell? ⟨g, 4, none⟩ = some (.int .u64 (r 4 : Nat))) ∧ Blk W A [.int .u64 (f 0 : Nat), .int .u64 (f 1 : Nat), .int .u64 (f 2 : Nat), .int .u64 (f 3 : Nat), .int .u64 (f 4 : Nat)] 27 ∧ Blk W g [.int .u64 (r 0 : Nat), .int .u64 (r 1 : Nat), .int .u64 (r 2 : Nat), .int .u64 (r 3 : Nat), .int .u64 (r 4 : Nat)] 27 ∧ Blk W (o) [.int .u64 0, .int .u64 0, .int .u64 0, .int .u64 0, .int .u64 0] 27 ∧ Below w.heap.size w W) → Below W.heap.size W W' → ((W'.cell? ⟨A, 0, none⟩ = some (.int .u64 (f 0 : Nat)) ∧ W'.cell? ⟨A, 1, none⟩ = some (.int .u64 (f 1 : Nat)) ∧ W'.cell? ⟨A, 2, none⟩ = some (.int .u64 (f 2 : Nat)) ∧ W'.cell? ⟨A, 3, none⟩ = some (.int .u64 (f 3 : Nat)) ∧ W'.cell? ⟨A, 4, none⟩ = some (.int .u64 (f 4 : Nat))) ∧ (W'.cell? ⟨g, 0, none⟩ = some (.int .u64 (r 0 : Nat)) ∧ W'.cell? ⟨g, 1, none⟩ = some (.int .u64 (r 1 : Nat)) ∧ W'.cell? ⟨g, 2, none⟩ = some (.int .u64 (r 2 : Nat)) ∧ W'.cell? ⟨g, 3, none⟩ = some (.int .u64 (r 3 : Nat)) ∧ W'.cell? ⟨g, 4, none⟩ = some (.int .u64 (r 4 : Nat))) ∧ Blk W' A [.int .u64 (f 0 : Nat), .int .u64 (f 1 : Nat), .int .u64 (f 2 : Nat), .int .u64 (f 3 : Nat), .int .u64 (f 4 : Nat)] 27 ∧ Blk W' g [.int .u64 (r 0 : Nat), .int .u64 (r 1 : Nat), .int .u64 (r 2 : Nat), .int .u64 (r 3 : Nat), .int .u64 (r 4 : Nat)] 27 ∧ Blk W' (o) [.int .u64 0, .int .u64 0, .int .u64 0, .int .u64 0, .int .u64 0] 27 ∧ Below w.heap.size w W') := by
  rintro W W' ⟨h1, h2, h3, h4, h5, h6⟩ hb
  exact ⟨keep5 _ _ h1 hb, keep5 _ _ h2 hb, h3.below' hb, h4.below' hb, h5.below' hb, Below.call h6 hb⟩
theorem root_drew {f r : Nat → Nat} {A g o : Nat} {w W : World} (h : ((W.cell? ⟨A, 0, none⟩ = some (.int .u64 (f 0 : Nat)) ∧ W.cell? ⟨A, 1, none⟩ = some (.int .u64 (f 1 : Nat)) ∧ W.cell? ⟨A, 2, none⟩ = some (.int .u64 (f 2 : Nat)) ∧ W.cell? ⟨A, 3, none⟩ = some (.int .u64 (f 3 : Nat)) ∧ W.cell? ⟨A, 4, none⟩ = some (.int .u64 (f 4 : Nat))) ∧ (W.cell? ⟨g, 0, none⟩ = some (.int .u64 (r 0 : Nat)) ∧ W.cell? ⟨g, 1, none⟩ = some (.int .u64 (r 1 : Nat)) ∧ W.cell? ⟨g, 2, none⟩ = some (.int .u64 (r 2 : Nat)) ∧ W.cell? ⟨g, 3, none⟩ = some (.int .u64 (r 3 : Nat)) ∧ W.cell? ⟨g, 4, none⟩ = some (.int .u64 (r 4 : Nat))) ∧ Blk W A [.int .u64 (f 0 : Nat), .int .u64 (f 1 : Nat), .int .u64 (f 2 : Nat), .int .u64 (f 3 : Nat), .int .u64 (f 4 : Nat)] 27 ∧ Blk W g [.int .u64 (r 0 : Nat), .int .u64 (r 1 : Nat), .int .u64 (r 2 : Nat), .int .u64 (r 3 : Nat), .int .u64 (r 4 : Nat)] 27 ∧ Blk W (o) [.int .u64 0, .int .u64 0, .int .u64 0, .int .u64 0, .int .u64 0] 27 ∧ Below w.heap.size w W)) : ((W.drew.cell? ⟨A, 0, none⟩ = some (.int .u64 (f 0 : Nat)) ∧ W.drew.cell? ⟨A, 1, none⟩ = some (.int .u64 (f 1 : Nat)) ∧ W.drew.cell? ⟨A, 2, none⟩ = some (.int .u64 (f 2 : Nat)) ∧ W.drew.cell? ⟨A, 3, none⟩ = some (.int .u64 (f 3 : Nat)) ∧ W.drew.cell? ⟨A, 4, none⟩ = some (.int .u64 (f 4 : Nat))) ∧ (W.drew.cell? ⟨g, 0, none⟩ = some (.int .u64 (r 0 : Nat)) ∧ W.drew.cell? ⟨g, 1, none⟩ = some (.int .u64 (r 1 : Nat)) ∧ W.drew.cell? ⟨g, 2, none⟩ = some (.int .u64 (r 2 : Nat)) ∧ W.drew.cell? ⟨g, 3, none⟩ = some (.int .u64 (r 3 : Nat)) ∧ W.drew.cell? ⟨g, 4, none⟩ = some (.int .u64 (r 4 : Nat))) ∧ Blk W.drew A [.int .u64 (f 0 : Nat), .int .u64 (f 1 : Nat), .int .u64 (f 2 : Nat), .int .u64 (f 3 : Nat), .int .u64 (f 4 : Nat)] 27 ∧ Blk W.drew g [.int .u64 (r 0 : Nat), .int .u64 (r 1 : Nat), .int .u64 (r 2 : Nat), .int .u64 (r 3 : Nat), .int .u64 (r 4 : Nat)] 27 ∧ Blk W.drew (o) [.int .u64 0, .int .u64 0, .int .u64 0, .int .u64 0, .int .u64 0] 27 ∧ Below w.heap.size w W.drew) := root_keep _ _ h (Below.drew (Below.refl _ _))
theorem root_mk {f r : Nat → Nat} {A g o : Nat} {w W : World} (h3 : Blk W A [.int .u64 (f 0 : Nat), .int .u64 (f 1 : Nat), .int .u64 (f 2 : Nat), .int .u64 (f 3 : Nat), .int .u64 (f 4 : Nat)] 27) (h4 : Blk W g [.int .u64 (r 0 : Nat), .int .u64 (r 1 : Nat), .int .u64 (r 2 : Nat), .int .u64 (r 3 : Nat), .int .u64 (r 4 : Nat)] 27) (h5 : Blk W o [.int .u64 0, .int .u64 0, .int .u64 0, .int .u64 0, .int .u64 0] 27) (h6 : Below w.heap.size w W) : ((W.cell? ⟨A, 0, none⟩ = some (.int .u64 (f 0 : Nat)) ∧ W.cell? ⟨A, 1, none⟩ = some (.int .u64 (f 1 : Nat)) ∧ W.cell? ⟨A, 2, none⟩ = some (.int .u64 (f 2 : Nat)) ∧ W.cell? ⟨A, 3, none⟩ = some (.int .u64 (f 3 : Nat)) ∧ W.cell? ⟨A, 4, none⟩ = some (.int .u64 (f 4 : Nat))) ∧ (W.cell? ⟨g, 0, none⟩ = some (.int .u64 (r 0 : Nat)) ∧ W.cell? ⟨g, 1, none⟩ = some (.int .u64 (r 1 : Nat)) ∧ W.cell? ⟨g, 2, none⟩ = some (.int .u64 (r 2 : Nat)) ∧ W.cell? ⟨g, 3, none⟩ = some (.int .u64 (r 3 : Nat)) ∧ W.cell? ⟨g, 4, none⟩ = some (.int .u64 (r 4 : Nat))) ∧ Blk W A [.int .u64 (f 0 : Nat), .int .u64 (f 1 : Nat), .int .u64 (f 2 : Nat), .int .u64 (f 3 : Nat), .int .u64 (f 4 : Nat)] 27 ∧ Blk W g [.int .u64 (r 0 : Nat), .int .u64 (r 1 : Nat), .int .u64 (r 2 : Nat), .int .u64 (r 3 : Nat), .int .u64 (r 4 : Nat)] 27 ∧ Blk W (o) [.int .u64 0, .int .u64 0, .int .u64 0, .int .u64 0, .int .u64 0] 27 ∧ Below w.heap.size w W) :=
  ⟨⟨h3.cell 0, h3.cell 1, h3.cell 2, h3.cell 3, h3.cell 4⟩, ⟨h4.cell 0, h4.cell 1, h4.cell 2, h4.cell 3, h4.cell 4⟩, h3, h4, h5, h6⟩
set_option maxHeartbeats 1000000 in
theorem rootM {f : Nat → Nat} {x : F} (hf : FF f x) (w : World) :
    Calls Try.prog 43 #[.agg #[.int .u64 (f 0 : Nat), .int .u64 (f 1 : Nat), .int .u64 (f 2 : Nat), .int .u64 (f 3 : Nat), .int .u64 (f 4 : Nat)]] w fun e w' => ∃ h, e = .returned (.tuple #[.agg #[.int .u64 (h 0 : Nat), .int .u64 (h 1 : Nat), .int .u64 (h 2 : Nat), .int .u64 (h 3 : Nat), .int .u64 (h 4 : Nat)], .int .i64 (rootC x)]) ∧ FF h (rootV x) ∧ Below w.heap.size w w' := by
  have hbE := buildE
  go_enter Try.func43, Try.ntmps43
  go_upto_region 2 with (go_at_call 85; go_must (refine (fpow8 hf _).mono ?_; rintro e w1 ⟨r, rfl, hr, hb⟩; have hA := ((Blk.new w #[.int .u64 (f 0 : Nat),.int .u64 (f 1 : Nat),.int .u64 (f 2 : Nat),.int .u64 (f 3 : Nat),.int .u64 (f 4 : Nat)] 27).alloc _).below' hb; have hO := (show Blk _ (w.heap.size + 1) [.int .u64 0, .int .u64 0, .int .u64 0, .int .u64 0, .int .u64 0] 27 from (by repeat (first | (with_reducible refine Blk.drew ?_) | exact Blk.new' (by simp) | (with_reducible refine Blk.alloc ?_ _)))).below' hb; have hbel : Below w.heap.size w w1 := Below.call (by repeat (first | (with_reducible refine Below.alloc' ?_ _) | (with_reducible refine Below.drew ?_) | (with_reducible refine below_drewN ?_ _) | ((with_reducible refine Below.setCell ?_ ?_ _); rotate_left; (focus (first | exact Nat.le_refl _ | (simp; done) | (simp; omega)))) | (with_reducible assumption) | (with_reducible exact Below.refl _ _))) hb; clear hb))
  refine wp_gen (fun W => ((W.cell? ⟨w.heap.size, 0, none⟩ = some (.int .u64 (f 0 : Nat)) ∧ W.cell? ⟨w.heap.size, 1, none⟩ = some (.int .u64 (f 1 : Nat)) ∧ W.cell? ⟨w.heap.size, 2, none⟩ = some (.int .u64 (f 2 : Nat)) ∧ W.cell? ⟨w.heap.size, 3, none⟩ = some (.int .u64 (f 3 : Nat)) ∧ W.cell? ⟨w.heap.size, 4, none⟩ = some (.int .u64 (f 4 : Nat))) ∧ (W.cell? ⟨w1.heap.size, 0, none⟩ = some (.int .u64 (r 0 : Nat)) ∧ W.cell? ⟨w1.heap.size, 1, none⟩ = some (.int .u64 (r 1 : Nat)) ∧ W.cell? ⟨w1.heap.size, 2, none⟩ = some (.int .u64 (r 2 : Nat)) ∧ W.cell? ⟨w1.heap.size, 3, none⟩ = some (.int .u64 (r 3 : Nat)) ∧ W.cell? ⟨w1.heap.size, 4, none⟩ = some (.int .u64 (r 4 : Nat))) ∧ Blk W w.heap.size [.int .u64 (f 0 : Nat), .int .u64 (f 1 : Nat), .int .u64 (f 2 : Nat), .int .u64 (f 3 : Nat), .int .u64 (f 4 : Nat)] 27 ∧ Blk W w1.heap.size [.int .u64 (r 0 : Nat), .int .u64 (r 1 : Nat), .int .u64 (r 2 : Nat), .int .u64 (r 3 : Nat), .int .u64 (r 4 : Nat)] 27 ∧ Blk W (w.heap.size + 1) [.int .u64 0, .int .u64 0, .int .u64 0, .int .u64 0, .int .u64 0] 27 ∧ Below w.heap.size w W)) ?_ (fun W0 hW => ?_)
  · exact root_mk (hA.alloc _) (Blk.new w1 _ _) (hO.alloc _) (Below.alloc' hbel _)
  have hg1 : w.heap.size + 1 < w1.heap.size := hO.lt
  clear hA hO hbel
  generalize w1.heap.size = g at *
  clear w1
  have hst1 := Lib.hid (root_keep (f := f) (r := r) (A := w.heap.size) (g := g) (o := w.heap.size + 1) (w := w))
  have HS1 := Lib.hid (root_drew hW)
  clear hW
  have hst := hst1
  by_cases e1 : fpow x exp8 * fpow x exp8 = x
  · have E1 := Lib.hid e1
    have HC : Hid (cand x = fpow x exp8) := Lib.hid (by unfold cand; rw [if_pos e1])
    have HR : Hid (rootC x = 0) := Lib.hid (by unfold rootC; rw [HC.out, if_pos e1])
    have E2 := E1
    clear e1
    generalize fpow x exp8 = y at *
    go_region_held3 (fun W => ((W.cell? ⟨w.heap.size, 0, none⟩ = some (.int .u64 (f 0 : Nat)) ∧ W.cell? ⟨w.heap.size, 1, none⟩ = some (.int .u64 (f 1 : Nat)) ∧ W.cell? ⟨w.heap.size, 2, none⟩ = some (.int .u64 (f 2 : Nat)) ∧ W.cell? ⟨w.heap.size, 3, none⟩ = some (.int .u64 (f 3 : Nat)) ∧ W.cell? ⟨w.heap.size, 4, none⟩ = some (.int .u64 (f 4 : Nat))) ∧ (W.cell? ⟨g, 0, none⟩ = some (.int .u64 (r 0 : Nat)) ∧ W.cell? ⟨g, 1, none⟩ = some (.int .u64 (r 1 : Nat)) ∧ W.cell? ⟨g, 2, none⟩ = some (.int .u64 (r 2 : Nat)) ∧ W.cell? ⟨g, 3, none⟩ = some (.int .u64 (r 3 : Nat)) ∧ W.cell? ⟨g, 4, none⟩ = some (.int .u64 (r 4 : Nat))) ∧ Blk W w.heap.size [.int .u64 (f 0 : Nat), .int .u64 (f 1 : Nat), .int .u64 (f 2 : Nat), .int .u64 (f 3 : Nat), .int .u64 (f 4 : Nat)] 27 ∧ Blk W g [.int .u64 (r 0 : Nat), .int .u64 (r 1 : Nat), .int .u64 (r 2 : Nat), .int .u64 (r 3 : Nat), .int .u64 (r 4 : Nat)] 27 ∧ Blk W (w.heap.size + 1) [.int .u64 0, .int .u64 0, .int .u64 0, .int .u64 0, .int .u64 0] 27 ∧ Below w.heap.size w W)) (first | (exact HS1.out) | (first | assumption | (refine hst.out _ _ ?_ hb; assumption) | (refine hst.out _ _ ?_ (Below.alloc' (Below.refl _ _) _); assumption) | (refine hst.out _ _ ?_ (Below.drew (Below.refl _ _)); assumption))) ((first | (go_at_call 38; (with_reducible refine (fmulM hr hr _).mono ?_); rintro e wm ⟨m1, rfl, hm1, hb⟩) | (go_at_call 44; (with_reducible refine (fsameT hm1 hf E1.out _).mono ?_); rintro e ws ⟨rfl, hb⟩)))
    rename_i hh
    have HS2 := Lib.hid (root_drew hh)
    clear hh HS1 hst1
    go_wp2
    go_region_held3 (fun W => ((W.cell? ⟨w.heap.size, 0, none⟩ = some (.int .u64 (f 0 : Nat)) ∧ W.cell? ⟨w.heap.size, 1, none⟩ = some (.int .u64 (f 1 : Nat)) ∧ W.cell? ⟨w.heap.size, 2, none⟩ = some (.int .u64 (f 2 : Nat)) ∧ W.cell? ⟨w.heap.size, 3, none⟩ = some (.int .u64 (f 3 : Nat)) ∧ W.cell? ⟨w.heap.size, 4, none⟩ = some (.int .u64 (f 4 : Nat))) ∧ (W.cell? ⟨g, 0, none⟩ = some (.int .u64 (r 0 : Nat)) ∧ W.cell? ⟨g, 1, none⟩ = some (.int .u64 (r 1 : Nat)) ∧ W.cell? ⟨g, 2, none⟩ = some (.int .u64 (r 2 : Nat)) ∧ W.cell? ⟨g, 3, none⟩ = some (.int .u64 (r 3 : Nat)) ∧ W.cell? ⟨g, 4, none⟩ = some (.int .u64 (r 4 : Nat))) ∧ Blk W w.heap.size [.int .u64 (f 0 : Nat), .int .u64 (f 1 : Nat), .int .u64 (f 2 : Nat), .int .u64 (f 3 : Nat), .int .u64 (f 4 : Nat)] 27 ∧ Blk W g [.int .u64 (r 0 : Nat), .int .u64 (r 1 : Nat), .int .u64 (r 2 : Nat), .int .u64 (r 3 : Nat), .int .u64 (r 4 : Nat)] 27 ∧ Blk W (w.heap.size + 1) [.int .u64 0, .int .u64 0, .int .u64 0, .int .u64 0, .int .u64 0] 27 ∧ Below w.heap.size w W)) (first | (exact HS2.out) | (first | assumption | (refine hst.out _ _ ?_ hb; assumption) | (refine hst.out _ _ ?_ (Below.alloc' (Below.refl _ _) _); assumption) | (refine hst.out _ _ ?_ (Below.drew (Below.refl _ _)); assumption))) ((first | (go_at_call 38; (with_reducible refine (fmulM hr hr _).mono ?_); rintro e wm ⟨m2, rfl, hm2, hb⟩) | (go_at_call 44; (with_reducible refine (fsameT hm2 hf E2.out _).mono ?_); rintro e ws ⟨rfl, hb⟩)))
    rename_i hh
    have hhH := Lib.hid hh
    clear hh hst HS2
    by_cases hp : y.val % 2 = 1
    · have HV : Hid (rootV x = -y) := Lib.hid (by unfold rootV; rw [HC.out, if_pos E2.out, if_pos hp])
      have HP : Hid (decide (y.val % 2 = 1) = true) := Lib.hid (decide_eq_true hp)
      clear hp
      have c0 := hhH.out.2.1.1; have c1 := hhH.out.2.1.2.1; have c2 := hhH.out.2.1.2.2.1; have c3 := hhH.out.2.1.2.2.2.1; have c4 := hhH.out.2.1.2.2.2.2
      have hne : ¬ g = w.heap.size + 1 := by omega
      have hne2 : ¬ w.heap.size + 1 = g := by omega
      go_wp2_with (first | (go_at_call 61; go_must (refine (foddM hr _).mono ?_; rintro e w2 ⟨rfl, hb⟩; rw [HP.out]; have h2 := Lib.hid (root_keep _ _ hhH.out hb); clear c0 c1 c2 c3 c4 hb; have c0 := h2.out.2.1.1; have c1 := h2.out.2.1.2.1; have c2 := h2.out.2.1.2.2.1; have c3 := h2.out.2.1.2.2.2.1; have c4 := h2.out.2.1.2.2.2.2; have rf := h2.out.2.2.2.1.frozen))         | (go_at_call 47; go_must (refine (fnegM hr _).mono ?_; rintro e w3 ⟨q, rfl, hq, hb⟩; have h3 := root_keep _ _ h2.out hb; have hG := h3.2.2.2.1.frozen; have gc := h3.2.2.2.1.cell; have oc := h3.2.2.2.2.1.cell; have of := h3.2.2.2.2.1.frozen; have hbel := h3.2.2.2.2.2; clear c0 c1 c2 c3 c4 rf hb h2 h3)))
      exact bodyPost_ret (v := .tuple #[.agg #[.int .u64 (q 0 : Nat), .int .u64 (q 1 : Nat), .int .u64 (q 2 : Nat), .int .u64 (q 3 : Nat), .int .u64 (q 4 : Nat)], .int .i64 0]) (by simp [results, Try.results43, go_sem, oc]) rfl ⟨q, by rw [HR.out], by rw [HV.out]; exact hq, (by repeat (first | (with_reducible refine Below.alloc' ?_ _) | (with_reducible refine Below.drew ?_) | (with_reducible refine below_drewN ?_ _) | ((with_reducible refine Below.setCell ?_ ?_ _); rotate_left; (focus (first | exact Nat.le_refl _ | (simp; done) | (simp; omega)))) | (with_reducible assumption) | (with_reducible exact Below.refl _ _)))⟩
    · have HV : Hid (rootV x = y) := Lib.hid (by unfold rootV; rw [HC.out, if_pos E2.out, if_neg hp])
      have HP : Hid (decide (y.val % 2 = 1) = false) := Lib.hid (decide_eq_false hp)
      clear hp
      have c0 := hhH.out.2.1.1; have c1 := hhH.out.2.1.2.1; have c2 := hhH.out.2.1.2.2.1; have c3 := hhH.out.2.1.2.2.2.1; have c4 := hhH.out.2.1.2.2.2.2
      have hne : ¬ g = w.heap.size + 1 := by omega
      have hne2 : ¬ w.heap.size + 1 = g := by omega
      go_wp2_with (first | (go_at_call 61; go_must (refine (foddM hr _).mono ?_; rintro e w2 ⟨rfl, hb⟩; rw [HP.out]; have h2 := root_keep _ _ hhH.out hb; clear c0 c1 c2 c3 c4 hb; have gc := h2.2.2.2.1.cell; have oc := h2.2.2.2.2.1.cell; have of := h2.2.2.2.2.1.frozen; have hbel := h2.2.2.2.2.2; clear h2)))
      exact bodyPost_ret (v := .tuple #[.agg #[.int .u64 (r 0 : Nat), .int .u64 (r 1 : Nat), .int .u64 (r 2 : Nat), .int .u64 (r 3 : Nat), .int .u64 (r 4 : Nat)], .int .i64 0]) (by simp [results, Try.results43, go_sem, oc]) rfl ⟨r, by rw [HR.out], by rw [HV.out]; exact hr, (by repeat (first | (with_reducible refine Below.alloc' ?_ _) | (with_reducible refine Below.drew ?_) | (with_reducible refine below_drewN ?_ _) | ((with_reducible refine Below.setCell ?_ ?_ _); rotate_left; (focus (first | exact Nat.le_refl _ | (simp; done) | (simp; omega)))) | (with_reducible assumption) | (with_reducible exact Below.refl _ _)))⟩
  · have E1 := Lib.hid e1
    have HC : Hid (cand x = fpow x exp8 * sqm1) := Lib.hid (by unfold cand; rw [if_neg e1])
    clear e1
    go_region_held3 (fun W => ((W.cell? ⟨w.heap.size, 0, none⟩ = some (.int .u64 (f 0 : Nat)) ∧ W.cell? ⟨w.heap.size, 1, none⟩ = some (.int .u64 (f 1 : Nat)) ∧ W.cell? ⟨w.heap.size, 2, none⟩ = some (.int .u64 (f 2 : Nat)) ∧ W.cell? ⟨w.heap.size, 3, none⟩ = some (.int .u64 (f 3 : Nat)) ∧ W.cell? ⟨w.heap.size, 4, none⟩ = some (.int .u64 (f 4 : Nat))) ∧ (W.cell? ⟨g, 0, none⟩ = some (.int .u64 (r 0 : Nat)) ∧ W.cell? ⟨g, 1, none⟩ = some (.int .u64 (r 1 : Nat)) ∧ W.cell? ⟨g, 2, none⟩ = some (.int .u64 (r 2 : Nat)) ∧ W.cell? ⟨g, 3, none⟩ = some (.int .u64 (r 3 : Nat)) ∧ W.cell? ⟨g, 4, none⟩ = some (.int .u64 (r 4 : Nat))) ∧ Blk W w.heap.size [.int .u64 (f 0 : Nat), .int .u64 (f 1 : Nat), .int .u64 (f 2 : Nat), .int .u64 (f 3 : Nat), .int .u64 (f 4 : Nat)] 27 ∧ Blk W g [.int .u64 (r 0 : Nat), .int .u64 (r 1 : Nat), .int .u64 (r 2 : Nat), .int .u64 (r 3 : Nat), .int .u64 (r 4 : Nat)] 27 ∧ Blk W (w.heap.size + 1) [.int .u64 0, .int .u64 0, .int .u64 0, .int .u64 0, .int .u64 0] 27 ∧ Below w.heap.size w W)) (first | (exact HS1.out) | (first | assumption | (refine hst.out _ _ ?_ hb; assumption) | (refine hst.out _ _ ?_ (Below.alloc' (Below.refl _ _) _); assumption) | (refine hst.out _ _ ?_ (Below.drew (Below.refl _ _)); assumption))) ((first | (go_at_call 38; (with_reducible refine (fmulM hr hr _).mono ?_); rintro e wm ⟨m1, rfl, hm1, hb⟩) | (go_at_call 44; (with_reducible refine (fsameF hm1 hf E1.out _).mono ?_); rintro e ws ⟨rfl, hb⟩)))
    rename_i hh
    have HS2 := Lib.hid (root_drew hh)
    have hh' := Lib.hid hh
    clear hh HS1 hst1 HS2
    have c0 := hh'.out.2.1.1; have c1 := hh'.out.2.1.2.1; have c2 := hh'.out.2.1.2.2.1; have c3 := hh'.out.2.1.2.2.2.1; have c4 := hh'.out.2.1.2.2.2.2
    go_wp2
    go_region_with ((first | (go_at_call 86; (with_reducible refine (fturnM _).mono ?_); rintro e wt ⟨t, rfl, ht, hb⟩; have h2 := Lib.hid (root_keep _ _ (root_drew hh'.out) hb); clear c0 c1 c2 c3 c4 hb; have c0 := h2.out.2.1.1; have c1 := h2.out.2.1.2.1; have c2 := h2.out.2.1.2.2.1; have c3 := h2.out.2.1.2.2.2.1; have c4 := h2.out.2.1.2.2.2.2) | (go_at_call 38; (with_reducible refine (fmulM hr ht _).mono ?_); rintro e wm ⟨q, rfl, hq, hb⟩; have h3 := Lib.hid (root_keep _ _ h2.out hb); clear c0 c1 c2 c3 c4 hb; have c0 := h3.out.2.1.1; have c1 := h3.out.2.1.2.1; have c2 := h3.out.2.1.2.2.1; have c3 := h3.out.2.1.2.2.2.1; have c4 := h3.out.2.1.2.2.2.2; have rf := h3.out.2.2.2.1.frozen)))
    all_goals
      go_wp2
      refine wp_gen (fun W => ((W.cell? ⟨w.heap.size, 0, none⟩ = some (.int .u64 (f 0 : Nat)) ∧ W.cell? ⟨w.heap.size, 1, none⟩ = some (.int .u64 (f 1 : Nat)) ∧ W.cell? ⟨w.heap.size, 2, none⟩ = some (.int .u64 (f 2 : Nat)) ∧ W.cell? ⟨w.heap.size, 3, none⟩ = some (.int .u64 (f 3 : Nat)) ∧ W.cell? ⟨w.heap.size, 4, none⟩ = some (.int .u64 (f 4 : Nat))) ∧ (W.cell? ⟨g, 0, none⟩ = some (.int .u64 (q 0 : Nat)) ∧ W.cell? ⟨g, 1, none⟩ = some (.int .u64 (q 1 : Nat)) ∧ W.cell? ⟨g, 2, none⟩ = some (.int .u64 (q 2 : Nat)) ∧ W.cell? ⟨g, 3, none⟩ = some (.int .u64 (q 3 : Nat)) ∧ W.cell? ⟨g, 4, none⟩ = some (.int .u64 (q 4 : Nat))) ∧ Blk W w.heap.size [.int .u64 (f 0 : Nat), .int .u64 (f 1 : Nat), .int .u64 (f 2 : Nat), .int .u64 (f 3 : Nat), .int .u64 (f 4 : Nat)] 27 ∧ Blk W g [.int .u64 (q 0 : Nat), .int .u64 (q 1 : Nat), .int .u64 (q 2 : Nat), .int .u64 (q 3 : Nat), .int .u64 (q 4 : Nat)] 27 ∧ Blk W (w.heap.size + 1) [.int .u64 0, .int .u64 0, .int .u64 0, .int .u64 0, .int .u64 0] 27 ∧ Below w.heap.size w W)) ?_ (fun W hW => ?_)
      · have hbel := h3.out.2.2.2.2.2
        exact root_mk (((((h3.out.2.2.1.other ⟨g, 0, none⟩ (by simp; omega) (.int .u64 (q 0 : Nat))).other ⟨g, 1, none⟩ (by simp; omega) (.int .u64 (q 1 : Nat))).other ⟨g, 2, none⟩ (by simp; omega) (.int .u64 (q 2 : Nat))).other ⟨g, 3, none⟩ (by simp; omega) (.int .u64 (q 3 : Nat))).other ⟨g, 4, none⟩ (by simp; omega) (.int .u64 (q 4 : Nat))) (((((h3.out.2.2.2.1.set 0 (.int .u64 (q 0 : Nat))).set 1 (.int .u64 (q 1 : Nat))).set 2 (.int .u64 (q 2 : Nat))).set 3 (.int .u64 (q 3 : Nat))).set 4 (.int .u64 (q 4 : Nat))) (((((h3.out.2.2.2.2.1.other ⟨g, 0, none⟩ (by simp; omega) (.int .u64 (q 0 : Nat))).other ⟨g, 1, none⟩ (by simp; omega) (.int .u64 (q 1 : Nat))).other ⟨g, 2, none⟩ (by simp; omega) (.int .u64 (q 2 : Nat))).other ⟨g, 3, none⟩ (by simp; omega) (.int .u64 (q 3 : Nat))).other ⟨g, 4, none⟩ (by simp; omega) (.int .u64 (q 4 : Nat))) (by exact (by repeat (first | (with_reducible refine Below.alloc' ?_ _) | (with_reducible refine Below.drew ?_) | (with_reducible refine below_drewN ?_ _) | ((with_reducible refine Below.setCell ?_ ?_ _); rotate_left; (focus (first | exact Nat.le_refl _ | (simp; done) | (simp; omega)))) | (with_reducible assumption) | (with_reducible exact Below.refl _ _))))
      clear h2 h3 hh' c0 c1 c2 c3 c4 rf hst
      have HS2 := Lib.hid (root_drew hW)
      clear hW
      have hst1 := Lib.hid (root_keep (f := f) (r := q) (A := w.heap.size) (g := g) (o := w.heap.size + 1) (w := w))
      have hst := hst1
      by_cases e2 : (fpow x exp8 * sqm1) * (fpow x exp8 * sqm1) = x
      · have E2 := Lib.hid e2
        have HR : Hid (rootC x = 0) := Lib.hid (by unfold rootC; rw [HC.out, if_pos e2])
        clear e2
        generalize fpow x exp8 * sqm1 = y at *
        clear hst1
        go_region_held3 (fun W => ((W.cell? ⟨w.heap.size, 0, none⟩ = some (.int .u64 (f 0 : Nat)) ∧ W.cell? ⟨w.heap.size, 1, none⟩ = some (.int .u64 (f 1 : Nat)) ∧ W.cell? ⟨w.heap.size, 2, none⟩ = some (.int .u64 (f 2 : Nat)) ∧ W.cell? ⟨w.heap.size, 3, none⟩ = some (.int .u64 (f 3 : Nat)) ∧ W.cell? ⟨w.heap.size, 4, none⟩ = some (.int .u64 (f 4 : Nat))) ∧ (W.cell? ⟨g, 0, none⟩ = some (.int .u64 (q 0 : Nat)) ∧ W.cell? ⟨g, 1, none⟩ = some (.int .u64 (q 1 : Nat)) ∧ W.cell? ⟨g, 2, none⟩ = some (.int .u64 (q 2 : Nat)) ∧ W.cell? ⟨g, 3, none⟩ = some (.int .u64 (q 3 : Nat)) ∧ W.cell? ⟨g, 4, none⟩ = some (.int .u64 (q 4 : Nat))) ∧ Blk W w.heap.size [.int .u64 (f 0 : Nat), .int .u64 (f 1 : Nat), .int .u64 (f 2 : Nat), .int .u64 (f 3 : Nat), .int .u64 (f 4 : Nat)] 27 ∧ Blk W g [.int .u64 (q 0 : Nat), .int .u64 (q 1 : Nat), .int .u64 (q 2 : Nat), .int .u64 (q 3 : Nat), .int .u64 (q 4 : Nat)] 27 ∧ Blk W (w.heap.size + 1) [.int .u64 0, .int .u64 0, .int .u64 0, .int .u64 0, .int .u64 0] 27 ∧ Below w.heap.size w W)) (first | (exact HS2.out) | (first | assumption | (refine hst.out _ _ ?_ hb; assumption) | (refine hst.out _ _ ?_ (Below.alloc' (Below.refl _ _) _); assumption) | (refine hst.out _ _ ?_ (Below.drew (Below.refl _ _)); assumption))) ((first | (go_at_call 38; (with_reducible refine (fmulM hq hq _).mono ?_); rintro e wm ⟨m2, rfl, hm2, hb⟩) | (go_at_call 44; (with_reducible refine (fsameT hm2 hf E2.out _).mono ?_); rintro e ws ⟨rfl, hb⟩)))
        rename_i hh
        have hhH := Lib.hid hh
        clear hh hst HS2
        by_cases hp : y.val % 2 = 1
        · have HV : Hid (rootV x = -y) := Lib.hid (by unfold rootV; rw [HC.out, if_pos E2.out, if_pos hp])
          have HP : Hid (decide (y.val % 2 = 1) = true) := Lib.hid (decide_eq_true hp)
          clear hp
          have c0 := hhH.out.2.1.1; have c1 := hhH.out.2.1.2.1; have c2 := hhH.out.2.1.2.2.1; have c3 := hhH.out.2.1.2.2.2.1; have c4 := hhH.out.2.1.2.2.2.2
          have hne : ¬ g = w.heap.size + 1 := by omega
          have hne2 : ¬ w.heap.size + 1 = g := by omega
          go_wp2_with (first | (go_at_call 61; go_must (refine (foddM hq _).mono ?_; rintro e w2 ⟨rfl, hb⟩; rw [HP.out]; have h2 := Lib.hid (root_keep _ _ hhH.out hb); clear c0 c1 c2 c3 c4 hb; have c0 := h2.out.2.1.1; have c1 := h2.out.2.1.2.1; have c2 := h2.out.2.1.2.2.1; have c3 := h2.out.2.1.2.2.2.1; have c4 := h2.out.2.1.2.2.2.2; have rf := h2.out.2.2.2.1.frozen))             | (go_at_call 47; go_must (refine (fnegM hq _).mono ?_; rintro e w3 ⟨z, rfl, hz, hb⟩; have h3 := root_keep _ _ h2.out hb; have hG := h3.2.2.2.1.frozen; have gc := h3.2.2.2.1.cell; have oc := h3.2.2.2.2.1.cell; have of := h3.2.2.2.2.1.frozen; have hbel := h3.2.2.2.2.2; clear c0 c1 c2 c3 c4 rf hb h2 h3)))
          exact bodyPost_ret (v := .tuple #[.agg #[.int .u64 (z 0 : Nat), .int .u64 (z 1 : Nat), .int .u64 (z 2 : Nat), .int .u64 (z 3 : Nat), .int .u64 (z 4 : Nat)], .int .i64 0]) (by simp [results, Try.results43, go_sem, oc]) rfl ⟨z, by rw [HR.out], by rw [HV.out]; exact hz, (by repeat (first | (with_reducible refine Below.alloc' ?_ _) | (with_reducible refine Below.drew ?_) | (with_reducible refine below_drewN ?_ _) | ((with_reducible refine Below.setCell ?_ ?_ _); rotate_left; (focus (first | exact Nat.le_refl _ | (simp; done) | (simp; omega)))) | (with_reducible assumption) | (with_reducible exact Below.refl _ _)))⟩
        · have HV : Hid (rootV x = y) := Lib.hid (by unfold rootV; rw [HC.out, if_pos E2.out, if_neg hp])
          have HP : Hid (decide (y.val % 2 = 1) = false) := Lib.hid (decide_eq_false hp)
          clear hp
          have c0 := hhH.out.2.1.1; have c1 := hhH.out.2.1.2.1; have c2 := hhH.out.2.1.2.2.1; have c3 := hhH.out.2.1.2.2.2.1; have c4 := hhH.out.2.1.2.2.2.2
          have hne : ¬ g = w.heap.size + 1 := by omega
          have hne2 : ¬ w.heap.size + 1 = g := by omega
          go_wp2_with (first | (go_at_call 61; go_must (refine (foddM hq _).mono ?_; rintro e w2 ⟨rfl, hb⟩; rw [HP.out]; have h2 := root_keep _ _ hhH.out hb; clear c0 c1 c2 c3 c4 hb; have gc := h2.2.2.2.1.cell; have oc := h2.2.2.2.2.1.cell; have of := h2.2.2.2.2.1.frozen; have hbel := h2.2.2.2.2.2; clear h2)))
          exact bodyPost_ret (v := .tuple #[.agg #[.int .u64 (q 0 : Nat), .int .u64 (q 1 : Nat), .int .u64 (q 2 : Nat), .int .u64 (q 3 : Nat), .int .u64 (q 4 : Nat)], .int .i64 0]) (by simp [results, Try.results43, go_sem, oc]) rfl ⟨q, by rw [HR.out], by rw [HV.out]; exact hq, (by repeat (first | (with_reducible refine Below.alloc' ?_ _) | (with_reducible refine Below.drew ?_) | (with_reducible refine below_drewN ?_ _) | ((with_reducible refine Below.setCell ?_ ?_ _); rotate_left; (focus (first | exact Nat.le_refl _ | (simp; done) | (simp; omega)))) | (with_reducible assumption) | (with_reducible exact Below.refl _ _)))⟩
      · have E2 := Lib.hid e2
        have HR : Hid (rootC x = 7) := Lib.hid (by unfold rootC; rw [HC.out, if_neg e2])
        have HV : Hid (rootV x = 0) := Lib.hid (by unfold rootV; rw [HC.out, if_neg e2])
        clear e2 hst1
        generalize fpow x exp8 * sqm1 = y at *
        go_region_held3 (fun W => ((W.cell? ⟨w.heap.size, 0, none⟩ = some (.int .u64 (f 0 : Nat)) ∧ W.cell? ⟨w.heap.size, 1, none⟩ = some (.int .u64 (f 1 : Nat)) ∧ W.cell? ⟨w.heap.size, 2, none⟩ = some (.int .u64 (f 2 : Nat)) ∧ W.cell? ⟨w.heap.size, 3, none⟩ = some (.int .u64 (f 3 : Nat)) ∧ W.cell? ⟨w.heap.size, 4, none⟩ = some (.int .u64 (f 4 : Nat))) ∧ (W.cell? ⟨g, 0, none⟩ = some (.int .u64 (q 0 : Nat)) ∧ W.cell? ⟨g, 1, none⟩ = some (.int .u64 (q 1 : Nat)) ∧ W.cell? ⟨g, 2, none⟩ = some (.int .u64 (q 2 : Nat)) ∧ W.cell? ⟨g, 3, none⟩ = some (.int .u64 (q 3 : Nat)) ∧ W.cell? ⟨g, 4, none⟩ = some (.int .u64 (q 4 : Nat))) ∧ Blk W w.heap.size [.int .u64 (f 0 : Nat), .int .u64 (f 1 : Nat), .int .u64 (f 2 : Nat), .int .u64 (f 3 : Nat), .int .u64 (f 4 : Nat)] 27 ∧ Blk W g [.int .u64 (q 0 : Nat), .int .u64 (q 1 : Nat), .int .u64 (q 2 : Nat), .int .u64 (q 3 : Nat), .int .u64 (q 4 : Nat)] 27 ∧ Blk W (w.heap.size + 1) [.int .u64 0, .int .u64 0, .int .u64 0, .int .u64 0, .int .u64 0] 27 ∧ Below w.heap.size w W)) (first | (exact HS2.out) | (first | assumption | (refine hst.out _ _ ?_ hb; assumption) | (refine hst.out _ _ ?_ (Below.alloc' (Below.refl _ _) _); assumption) | (refine hst.out _ _ ?_ (Below.drew (Below.refl _ _)); assumption))) ((first | (go_at_call 38; (with_reducible refine (fmulM hq hq _).mono ?_); rintro e wm ⟨m2, rfl, hm2, hb⟩) | (go_at_call 44; (with_reducible refine (fsameF hm2 hf E2.out _).mono ?_); rintro e ws ⟨rfl, hb⟩)))
        rename_i hh
        have oc := hh.2.2.2.2.1.cell; have of := hh.2.2.2.2.1.frozen; have hbel := hh.2.2.2.2.2
        clear hh HS2 hst
        go_wp2
        exact bodyPost_ret (v := .tuple #[.agg #[.int .u64 0, .int .u64 0, .int .u64 0, .int .u64 0, .int .u64 0], .int .i64 7]) (by simp [results, Try.results43, go_sem, oc]) rfl ⟨fun _ => 0, by rw [HR.out]; rfl, by rw [HV.out]; exact FF.zero, (by repeat (first | (with_reducible refine Below.alloc' ?_ _) | (with_reducible refine Below.drew ?_) | (with_reducible refine below_drewN ?_ _) | ((with_reducible refine Below.setCell ?_ ?_ _); rotate_left; (focus (first | exact Nat.le_refl _ | (simp; done) | (simp; omega)))) | (with_reducible assumption) | (with_reducible exact Below.refl _ _)))⟩
end Go.Proofs.Ytjchdhpijopikaa
namespace Go.Proofs.Ytjchdhpijopikaa
open Go Go.RowKit
theorem cSame {v v' : Value} {x y : F} {b : Bool} (hq : decide (x = y) = b) (h : IsFs rE v [x]) (h' : IsFs rE v' [y]) (w : World) :
    Calls Try.prog 44 #[v, v'] w fun e w' => e = .returned (.bool b) ∧ Below w.heap.size w w' := by
  obtain ⟨f, rfl, hf⟩ := of_isE h; obtain ⟨g, rfl, hg⟩ := of_isE h'
  subst hq
  exact fsameM hf hg w
theorem cOdd {v : Value} {x : F} {b : Bool} (hq : decide (x.val % 2 = 1) = b) (h : IsFs rE v [x]) (w : World) :
    Calls Try.prog 61 #[v] w fun e w' => e = .returned (.bool b) ∧ Below w.heap.size w w' := by
  obtain ⟨f, rfl, hf⟩ := of_isE h
  subst hq
  exact foddM hf w
theorem cPick {v v' : Value} {x y z : F} {b : Bool} (hz : (if b then x else y) = z) (h : IsFs rE v [x]) (h' : IsFs rE v' [y]) (w : World) :
    Calls Try.prog 46 #[.bool b, v, v'] w fun e w' => ∃ r, e = .returned r ∧ IsFs rE r [z] ∧ Below w.heap.size w w' := by
  subst hz
  obtain ⟨f, rfl, hf⟩ := of_isE h; obtain ⟨g, rfl, hg⟩ := of_isE h'
  refine (fepick_any b f g w).mono ?_
  rintro e w' ⟨rfl, hb⟩
  cases b
  · exact ⟨_, rfl, isE hg, hb⟩
  · exact ⟨_, rfl, isE hf, hb⟩
/-- What reading strictly makes of bytes, and what it tells. -/
def stV (l : List UInt8) : F := if feOk l then feF l else 0
def stC (l : List UInt8) : Int := if feOk l then 0 else 2
theorem cStrict {a : Option Addr} {n cap : Nat} {l : List UInt8} {w : World} (h : RdB w a n cap l) :
    Calls Try.prog 36 #[.slice a n cap] w fun e w' => ∃ r, e = .returned (.tuple #[r, .int .i64 (stC l)]) ∧ IsFs rE r [stV l] ∧ Below w.heap.size w w' := by
  by_cases hok : feOk l = true
  · refine (fstrict_yes w h hok).mono ?_
    rintro e w' ⟨f, rfl, hf, hb⟩
    rw [stC, stV, if_pos hok, if_pos hok]
    exact ⟨_, rfl, isE hf, hb⟩
  · refine (fstrict_no w h (by simpa using hok)).mono ?_
    rintro e w' ⟨f, rfl, hf, hb⟩
    rw [stC, stV, if_neg hok, if_neg hok]
    exact ⟨_, rfl, isE hf, hb⟩
theorem cRoot {v : Value} {x : F} (h : IsFs rE v [x]) (w : World) :
    Calls Try.prog 43 #[v] w fun e w' => ∃ r, e = .returned (.tuple #[r, .int .i64 (rootC x)]) ∧ IsFs rE r [rootV x] ∧ Below w.heap.size w w' := by
  obtain ⟨f, rfl, hf⟩ := of_isE h
  refine (rootM hf w).mono ?_
  rintro e w' ⟨g, rfl, hg, hb⟩
  exact ⟨_, rfl, isE hg, hb⟩
theorem cOf' {a : Option Addr} {n cap : Nat} {l : List UInt8} {x : F} {w : World} (hx : feF l = x) (h : RdB w a n cap l) :
    Calls Try.prog 81 #[.slice a n cap] w fun e w' => ∃ r, e = .returned r ∧ IsFs rE r [x] ∧ Below w.heap.size w w' := by subst hx; exact cOf h
theorem cStrict' {a : Option Addr} {n cap : Nat} {l : List UInt8} {x : F} {c : Int} {w : World} (hx : stV l = x) (hc : stC l = c) (h : RdB w a n cap l) :
    Calls Try.prog 36 #[.slice a n cap] w fun e w' => ∃ r, e = .returned (.tuple #[r, .int .i64 c]) ∧ IsFs rE r [x] ∧ Below w.heap.size w w' := by subst hx hc; exact cStrict h
end Go.Proofs.Ytjchdhpijopikaa
namespace Go.Proofs.Ytjchdhpijopikaa
/-- The number that n limbs mean. -/
def v16 (f : Nat → Nat) : Nat → Nat
  | 0 => 0
  | n + 1 => v16 f n + f n * 65536 ^ n
/-- The carries of a row, none coming in; the limbs then. -/
def cr16 (f : Nat → Nat) : Nat → Nat
  | 0 => 0
  | i + 1 => (f i + cr16 f i) / 65536
theorem v16_lt (f : Nat → Nat) (h : ∀ i, f i < 65536) : ∀ n, v16 f n < 65536 ^ n
  | 0 => by simp [v16]
  | n + 1 => by
    have ih := v16_lt f h n
    have h1 := h n
    have h2 : f n * 65536 ^ n ≤ 65535 * 65536 ^ n := Nat.mul_le_mul_right _ (by omega)
    simp only [v16, Nat.pow_succ]
    omega
theorem v16_congr {f g : Nat → Nat} : ∀ n, (∀ i, i < n → f i = g i) → v16 f n = v16 g n
  | 0, _ => rfl
  | n + 1, h => by simp only [v16]; rw [v16_congr n (fun i hi => h i (by omega)), h n (by omega)]
/-- Limbs below 2^16, but for the first; the last below 2^15. -/
structure Nr (f : Nat → Nat) (B : Nat) : Prop where
  z : f 0 ≤ B
  r : ∀ i, 0 < i → f i < 65536
  t : f 15 < 32768
theorem Nr.cr {f : Nat → Nat} {B : Nat} (h : Nr f B) (hB : B < 4294967296 * 32768) : cr16 f 16 ≤ 1 := by
  have h1 : cr16 f 1 ≤ 2147483648 := by have := h.z; simp only [cr16]; omega
  have h2 : cr16 f 2 ≤ 32768 := by have := h.r 1 (by omega); rw [cr16]; omega
  have h3 : cr16 f 3 ≤ 1 := by have := h.r 2 (by omega); rw [cr16]; omega
  have key : ∀ i, cr16 f (i + 3) ≤ 1 := by
    intro i
    induction i with
    | zero => exact h3
    | succ i ih => have := h.r (i + 3) (by omega); rw [cr16]; omega
  exact key 13
/-- Limbs in their one form, of a number below 2^255. -/
structure Cn (f : Nat → Nat) : Prop where
  r : ∀ i, f i < 65536
  t : f 15 < 32768
theorem Cn.lt {f : Nat → Nat} (h : Cn f) : v16 f 16 < 57896044618658097711785492504343953926634992332820282019728792003956564819968 := by
  have h1 := v16_lt f h.r 15
  have h2 := h.t
  have h3 : f 15 * 65536 ^ 15 ≤ 32767 * 65536 ^ 15 := Nat.mul_le_mul_right _ (by omega)
  have e : v16 f 16 = v16 f 15 + f 15 * 65536 ^ 15 := rfl
  rw [e, show (57896044618658097711785492504343953926634992332820282019728792003956564819968 : Nat) = 32768 * 65536 ^ 15 from by decide +kernel]
  generalize 65536 ^ 15 = X at *
  omega
end Go.Proofs.Ytjchdhpijopikaa
namespace Go.Proofs.Ytjchdhpijopikaa
open Go.RowKit
end Go.Proofs.Ytjchdhpijopikaa
namespace Go.Proofs.Ytjchdhpijopikaa
open Go.RowKit
end Go.Proofs.Ytjchdhpijopikaa
namespace Go.Proofs.Ytjchdhpijopikaa
open Go.RowKit
end Go.Proofs.Ytjchdhpijopikaa
namespace Go.Proofs.Ytjchdhpijopikaa
open Go.RowKit
end Go.Proofs.Ytjchdhpijopikaa
namespace Go.Proofs.Ytjchdhpijopikaa
open Go.RowKit
def two (f : Nat → Nat) (i : Nat) : Nat := f (2 * i) + 256 * f (2 * i + 1)
end Go.Proofs.Ytjchdhpijopikaa
namespace Go.Proofs.Ytjchdhpijopikaa
open Go.RowKit
end Go.Proofs.Ytjchdhpijopikaa
namespace Go.Proofs.Ytjchdhpijopikaa
open Go.RowKit
end Go.Proofs.Ytjchdhpijopikaa
namespace Go.Proofs.Ytjchdhpijopikaa
open Go.RowKit
/-- A row, one limb written. -/
def updF (c : Nat → Nat) (m v i : Nat) : Nat := if i = m then v else c i
theorem v16_upd (c : Nat → Nat) (m a : Nat) : ∀ n, m < n → v16 (updF c m (c m + a)) n = v16 c n + a * 65536 ^ m
  | 0, h => by omega
  | n + 1, h => by
    by_cases e : m = n
    · subst e
      have h1 : v16 (updF c m (c m + a)) m = v16 c m := v16_congr m fun i hi => by unfold updF; rw [if_neg (by omega)]
      simp only [v16]
      rw [h1]
      simp only [updF, if_true]
      rw [Nat.add_mul]; omega
    · have ih := v16_upd c m a n (by omega)
      simp only [v16]
      rw [ih]
      simp only [updF, if_neg (fun x : n = m => e x.symm)]
      omega
theorem v16_succ (f : Nat → Nat) (n : Nat) : v16 f (n + 1) = v16 f n + f n * 65536 ^ n := rfl
def MM : Nat := 4294836225
/-- What the inner loop keeps. -/
structure MulIn (f g c : Nat → Nat) (i k : Nat) : Prop where
  lo : ∀ j, c j ≤ (i + 1) * MM
  hi : ∀ j, i + k ≤ j → c j ≤ i * MM
  v : v16 c 32 = v16 f i * v16 g 16 + f i * 65536 ^ i * v16 g k
structure MulOut (f g c : Nat → Nat) (i : Nat) : Prop where
  lo : ∀ j, c j ≤ i * MM
  v : v16 c 32 = v16 f i * v16 g 16
theorem MulOut.start (f g : Nat → Nat) : MulOut f g (fun _ => 0) 0 := ⟨fun _ => by omega, by rw [show v16 f 0 = 0 from rfl, Nat.zero_mul]; rfl⟩
theorem MulOut.into {f g c : Nat → Nat} {i : Nat} (h : MulOut f g c i) : MulIn f g c i 0 :=
  ⟨fun j => Nat.le_trans (h.lo j) (Nat.mul_le_mul_right _ (by omega)), fun j _ => h.lo j, by rw [h.v, show v16 g 0 = 0 from rfl, Nat.mul_zero, Nat.add_zero]⟩
theorem MulIn.step {f g c : Nat → Nat} {i k : Nat} (h : MulIn f g c i k) (hk : k < 16) (hi : i < 16) (hp : f i * g k ≤ MM) : MulIn f g (updF c (i + k) (c (i + k) + f i * g k)) i (k + 1) := by
  have e : (i + 1) * MM = i * MM + MM := by rw [Nat.add_mul, Nat.one_mul]
  refine ⟨fun j => ?_, fun j hj => ?_, ?_⟩
  · unfold updF
    split
    · have := h.hi (i + k) (Nat.le_refl _); omega
    · exact h.lo j
  · unfold updF
    rw [if_neg (by omega)]
    exact h.hi j (by omega)
  · rw [v16_upd _ _ _ _ (by omega), h.v, v16_succ g k, Nat.pow_add]
    generalize v16 f i * v16 g 16 = A
    generalize v16 g k = B
    generalize 65536 ^ i = C
    generalize 65536 ^ k = D
    rw [Nat.mul_add, Nat.add_assoc]
    congr 2
    grind
theorem MulIn.out {f g c : Nat → Nat} {i : Nat} (h : MulIn f g c i 16) : MulOut f g c (i + 1) :=
  ⟨h.lo, by rw [h.v, v16_succ f i, Nat.add_mul]⟩
end Go.Proofs.Ytjchdhpijopikaa
namespace Go.Proofs.Ytjchdhpijopikaa
open Go.RowKit
end Go.Proofs.Ytjchdhpijopikaa
namespace Go.Proofs.Ytjchdhpijopikaa
open Go.RowKit
end Go.Proofs.Ytjchdhpijopikaa
namespace Go.Proofs.Ytjchdhpijopikaa
open Go.RowKit
end Go.Proofs.Ytjchdhpijopikaa
namespace Go.Proofs.Ytjchdhpijopikaa
open Go.RowKit
end Go.Proofs.Ytjchdhpijopikaa
namespace Go.Proofs.Ytjchdhpijopikaa
open Go.RowKit
theorem Blk.there {w : World} {g E n : Nat} {cs : List Value} (h : Blk w g cs E) (hn : cs.length = n) : w.there g 0 n := fun j hj => by
  rw [Nat.zero_add]
  exact ⟨by rw [h.cell, List.getElem?_eq_getElem (by omega)]; rfl, h.frozen j⟩
end Go.Proofs.Ytjchdhpijopikaa
namespace Go.Proofs.Ytjchdhpijopikaa
open Go.RowKit
end Go.Proofs.Ytjchdhpijopikaa
namespace Go.Proofs.Ytjchdhpijopikaa
open Go Go.RowKit
end Go.Proofs.Ytjchdhpijopikaa
namespace Go.Proofs.Ytjchdhpijopikaa
open Go Go.RowKit
end Go.Proofs.Ytjchdhpijopikaa
namespace Go.Proofs.Ytjchdhpijopikaa
open Go Go.RowKit
end Go.Proofs.Ytjchdhpijopikaa
namespace Go.Proofs.Ytjchdhpijopikaa
open Go Go.RowKit
/-- The program's, ready. -/
def rPr : Rp EP where
  n := 20
  rep := fun P cs => ∃ x y z t, Lims rE [x, y, z, t] cs ∧ Pext P x y z t
  pos := by omega
  len := fun _ _ ⟨_, _, _, _, h, _⟩ => h.len
  one := fun _ _ ⟨_, _, _, _, h, _⟩ => h.one
/-- The program's: a zero one is the neutral one, too. -/
def rP : Rp EP where
  n := 20
  rep := fun P cs => ∃ x y z t, Lims rE [x, y, z, t] cs ∧ (Pext P x y z t ∨ (z = 0 ∧ P = Cp.zero))
  pos := by omega
  len := fun _ _ ⟨_, _, _, _, h, _⟩ => h.len
  one := fun _ _ ⟨_, _, _, _, h, _⟩ => h.one
theorem isPr {v : Value} {P : EP} {x y z t : F} (h : IsFs rE v [x, y, z, t]) (hp : Pext P x y z t) : IsFs rPr v [P] := by
  obtain ⟨cs, rfl, hc⟩ := h
  exact ⟨cs, rfl, Lims.single (R := rPr) ⟨x, y, z, t, hc, hp⟩⟩
theorem of_isPr {v : Value} {P : EP} (h : IsFs rPr v [P]) : ∃ x y z t, IsFs rE v [x, y, z, t] ∧ Pext P x y z t := by
  obtain ⟨cs, rfl, hc⟩ := h
  obtain ⟨x, y, z, t, h, hp⟩ := Lims.of_single hc
  exact ⟨x, y, z, t, ⟨cs, rfl, h⟩, hp⟩
theorem of_hasPr {w : World} {g : Nat} {P : EP} (h : HasFs rPr w g 0 [P]) : ∃ x y z t, HasFs rE w g 0 [x, y, z, t] ∧ Pext P x y z t := by
  obtain ⟨cs, hc, hr⟩ := h
  obtain ⟨x, y, z, t, h, hp⟩ := Lims.of_single hc
  exact ⟨x, y, z, t, ⟨cs, h, hr⟩, hp⟩
theorem of_isP {v : Value} {P : EP} (h : IsFs rP v [P]) : ∃ x y z t, IsFs rE v [x, y, z, t] ∧ (Pext P x y z t ∨ (z = 0 ∧ P = Cp.zero)) := by
  obtain ⟨cs, rfl, hc⟩ := h
  obtain ⟨x, y, z, t, h, hp⟩ := Lims.of_single hc
  exact ⟨x, y, z, t, ⟨cs, rfl, h⟩, hp⟩
theorem toP {v : Value} {P : EP} (h : IsFs rPr v [P]) : IsFs rP v [P] := by
  obtain ⟨cs, rfl, hc⟩ := h
  obtain ⟨x, y, z, t, h, hp⟩ := Lims.of_single hc
  exact ⟨cs, rfl, Lims.single (R := rP) ⟨x, y, z, t, h, .inl hp⟩⟩
theorem isZ {v : Value} {x y t : F} (h : IsFs rE v [x, y, 0, t]) : IsFs rP v [Cp.zero] := by
  obtain ⟨cs, rfl, hc⟩ := h
  exact ⟨cs, rfl, Lims.single (R := rP) ⟨x, y, 0, t, hc, .inr ⟨rfl, rfl⟩⟩⟩
theorem tyP4 : TyOk rE 29 4 := ⟨⟨_, Try.underlying29, rfl⟩, by kernel_rfl⟩
theorem tyP : TyOk rP 29 1 := ⟨⟨_, Try.underlying29, rfl⟩, by kernel_rfl⟩
theorem tyPr : TyOk rPr 29 1 := ⟨⟨_, Try.underlying29, rfl⟩, by kernel_rfl⟩
theorem allocP (w : World) : (Instr.alloc 29 true (.tuple #[])).run Try.prog w = .ok (.pointer (some ⟨w.heap.size, 0, none⟩)) (w.alloc (.cells #[.int .u64 0,.int .u64 0,.int .u64 0,.int .u64 0,.int .u64 0,.int .u64 0,.int .u64 0,.int .u64 0,.int .u64 0,.int .u64 0,.int .u64 0,.int .u64 0,.int .u64 0,.int .u64 0,.int .u64 0,.int .u64 0,.int .u64 0,.int .u64 0,.int .u64 0,.int .u64 0] 29)) := by kernel_rfl
theorem field_P0 (b : Nat) (w : World) : (Instr.fieldAt 29 (.pointer (some ⟨b, 0, none⟩)) 0).run Try.prog w = .ok (.pointer (some ⟨b, 0, none⟩)) w := by kernel_rfl
theorem field_P1 (b : Nat) (w : World) : (Instr.fieldAt 29 (.pointer (some ⟨b, 0, none⟩)) 1).run Try.prog w = .ok (.pointer (some ⟨b, 5, none⟩)) w := by kernel_rfl
theorem field_P2 (b : Nat) (w : World) : (Instr.fieldAt 29 (.pointer (some ⟨b, 0, none⟩)) 2).run Try.prog w = .ok (.pointer (some ⟨b, 10, none⟩)) w := by kernel_rfl
theorem field_P3 (b : Nat) (w : World) : (Instr.fieldAt 29 (.pointer (some ⟨b, 0, none⟩)) 3).run Try.prog w = .ok (.pointer (some ⟨b, 15, none⟩)) w := by kernel_rfl
theorem build_P {u0 u1 u2 u3 : Value} {x y z t : F} (h0 : IsFs rE u0 [x]) (h1 : IsFs rE u1 [y]) (h2 : IsFs rE u2 [z]) (h3 : IsFs rE u3 [t]) (w : World) :
    ∃ r, (Instr.build 29 #[(0, u0), (1, u1), (2, u2), (3, u3)]).run Try.prog w = .ok r w ∧ IsFs rE r [x, y, z, t] := by
  obtain ⟨f, rfl, hf⟩ := of_isE h0; obtain ⟨g, rfl, hg⟩ := of_isE h1; obtain ⟨p, rfl, hp⟩ := of_isE h2; obtain ⟨q, rfl, hq⟩ := of_isE h3
  exact ⟨.agg #[.int .u64 (f 0 : Nat),.int .u64 (f 1 : Nat),.int .u64 (f 2 : Nat),.int .u64 (f 3 : Nat),.int .u64 (f 4 : Nat), .int .u64 (g 0 : Nat),.int .u64 (g 1 : Nat),.int .u64 (g 2 : Nat),.int .u64 (g 3 : Nat),.int .u64 (g 4 : Nat), .int .u64 (p 0 : Nat),.int .u64 (p 1 : Nat),.int .u64 (p 2 : Nat),.int .u64 (p 3 : Nat),.int .u64 (p 4 : Nat), .int .u64 (q 0 : Nat),.int .u64 (q 1 : Nat),.int .u64 (q 2 : Nat),.int .u64 (q 3 : Nat),.int .u64 (q 4 : Nat)], by kernel_rfl, _, rfl, _, _, ⟨f, hf, rfl⟩, rfl, _, _, ⟨g, hg, rfl⟩, rfl, _, _, ⟨p, hp, rfl⟩, rfl, _, _, ⟨q, hq, rfl⟩, rfl, rfl⟩
theorem zero_lims : Lims rE [0, 0, 0, 0] [.int .u64 0,.int .u64 0,.int .u64 0,.int .u64 0,.int .u64 0,.int .u64 0,.int .u64 0,.int .u64 0,.int .u64 0,.int .u64 0,.int .u64 0,.int .u64 0,.int .u64 0,.int .u64 0,.int .u64 0,.int .u64 0,.int .u64 0,.int .u64 0,.int .u64 0,.int .u64 0] :=
  ⟨_, _, ⟨fun _ => 0, FF.zero, rfl⟩, rfl, _, _, ⟨fun _ => 0, FF.zero, rfl⟩, rfl, _, _, ⟨fun _ => 0, FF.zero, rfl⟩, rfl, _, _, ⟨fun _ => 0, FF.zero, rfl⟩, rfl, rfl⟩
theorem zero_P : Lims rP [Cp.zero] [.int .u64 0,.int .u64 0,.int .u64 0,.int .u64 0,.int .u64 0,.int .u64 0,.int .u64 0,.int .u64 0,.int .u64 0,.int .u64 0,.int .u64 0,.int .u64 0,.int .u64 0,.int .u64 0,.int .u64 0,.int .u64 0,.int .u64 0,.int .u64 0,.int .u64 0,.int .u64 0] := Lims.single (R := rP) ⟨0, 0, 0, 0, zero_lims, .inr ⟨rfl, rfl⟩⟩
theorem build_P0 (w : World) : ∃ r, (Instr.build 29 #[]).run Try.prog w = .ok r w ∧ IsFs rP r [Cp.zero] :=
  ⟨.agg #[.int .u64 0,.int .u64 0,.int .u64 0,.int .u64 0,.int .u64 0,.int .u64 0,.int .u64 0,.int .u64 0,.int .u64 0,.int .u64 0,.int .u64 0,.int .u64 0,.int .u64 0,.int .u64 0,.int .u64 0,.int .u64 0,.int .u64 0,.int .u64 0,.int .u64 0,.int .u64 0], by kernel_rfl, isZ (x := 0) (y := 0) (t := 0) ⟨_, rfl, zero_lims⟩⟩
/-- 32 bytes in an array. -/
def rB32 : Rp (List UInt8) where
  n := 32
  rep := fun l cs => l.length = 32 ∧ cs = l.map bV
  pos := by omega
  len := fun l _ ⟨h, e⟩ => by rw [e, List.length_map, h]
  one := fun l _ ⟨_, e⟩ v hv => by
    rw [e, List.mem_map] at hv
    obtain ⟨c, _, rfl⟩ := hv
    rfl
theorem HasFs.rdb {w : World} {g : Nat} {l : List UInt8} (h : HasFs rB32 w g 0 [l]) : RdB w (some ⟨g, 0, none⟩) 32 32 l := by
  obtain ⟨cs, hc, hr⟩ := h
  obtain ⟨hl, rfl⟩ := Lims.of_single hc
  refine ⟨hl, Nat.le_refl _, by unfold maxLen; omega, fun i hi => ⟨g, 0, rfl, ?_⟩, fun h => by cases h⟩
  have := hr i (bV l[i]) (by simp [List.getElem?_map, List.getElem?_eq_getElem hi])
  exact this
theorem tya32 : TyOk rB32 52 1 := ⟨⟨_, Try.underlying52, rfl⟩, by kernel_rfl⟩
theorem alloca32 (w : World) : (Instr.alloc 52 true (.tuple #[])).run Try.prog w = .ok (.pointer (some ⟨w.heap.size, 0, none⟩)) (w.alloc (.cells #[.int .u8 0,.int .u8 0,.int .u8 0,.int .u8 0,.int .u8 0,.int .u8 0,.int .u8 0,.int .u8 0,.int .u8 0,.int .u8 0,.int .u8 0,.int .u8 0,.int .u8 0,.int .u8 0,.int .u8 0,.int .u8 0,.int .u8 0,.int .u8 0,.int .u8 0,.int .u8 0,.int .u8 0,.int .u8 0,.int .u8 0,.int .u8 0,.int .u8 0,.int .u8 0,.int .u8 0,.int .u8 0,.int .u8 0,.int .u8 0,.int .u8 0,.int .u8 0] 52)) := by kernel_rfl
end Go.Proofs.Ytjchdhpijopikaa
