/- The walks of the document's own field, tenth part: exponents as bytes, powers. -/
import Derived.Test.YtmoggjbnlimepaaRfl
namespace Go.Proofs.Ytmoggjbnlimepaa
open Go.RowKit

theorem make32 (w : World) : (Instr.makeSlice 22 (.int .i64 32) (.int .i64 32)).run Try.prog w = .ok (.slice (some ⟨w.heap.size, 0, none⟩) 32 32) (w.alloc (.cells (row 32 (uV fun _ => 0)).toArray 5)) := by kernel_rfl
def ffF (j i : Nat) : Nat := if i < j then 255 else 0
theorem ff_step (j : Nat) : (row 32 (uV (ffF j))).set j (.int .u8 255) = row 32 (uV (ffF (j + 1))) := by
  refine row_set j _ (by simp [uV, ffF]) (fun i _ hi => ?_)
  unfold uV ffF
  by_cases h : i < j
  · rw [if_pos h, if_pos (by omega)]
  · rw [if_neg h, if_neg (by omega)]
def pwF (a b i : Nat) : Nat := if i = 31 then b else if i = 0 then a else 255
theorem pw_row (a b : Nat) : ((row 32 (uV (ffF 32))).set 0 (.int .u8 (a : Nat))).set 31 (.int .u8 (b : Nat)) = row 32 (uV (pwF a b)) := by
  rw [row_set (g := fun i => if i = 0 then .int .u8 (a : Nat) else uV (ffF 32) i) 0 _ (by simp) (fun i _ hi => by simp [hi])]
  refine row_set 31 _ (by simp [uV, pwF]) (fun i hi h31 => ?_)
  unfold uV pwF
  rw [if_neg h31]
  by_cases h : i = 0
  · simp [h]
  · simp [h, ffF, hi]
set_option maxHeartbeats 1000000 in
theorem rpower_any (a b : Nat) (w : World) :
    Calls Try.prog 49 #[.int .u8 (a : Nat), .int .u8 (b : Nat)] w fun e w' => e = .returned (.slice (some ⟨w.heap.size, 0, none⟩) 32 32) ∧ Blk w' w.heap.size (row 32 (uV (pwF a b))) 5 ∧ Below w.heap.size w w' := by
  obtain ⟨ai, hai⟩ : ∃ ai : Int, ai = (a : Nat) := ⟨_, rfl⟩
  obtain ⟨bi, hbi⟩ : ∃ bi : Int, bi = (b : Nat) := ⟨_, rfl⟩
  have HR := Lib.hid (pw_row a b)
  rw [← hai, ← hbi] at *
  clear hai hbi
  have hmk := make32
  go_enter Try.func49, Try.ntmps49
  go_wp2
  clear hmk
  go_loopw [6] (fun i wr => ∃ j : Nat, j ≤ 32 ∧ i = .int .i64 j ∧ Blk wr w.heap.size (row 32 (uV (ffF j))) 5 ∧ Below w.heap.size w wr) (fun i _ => 32 - (intOf i).toNat)
  case atStart => exact ⟨0, by omega, rfl, Blk.new w _ _, (by repeat (first | (with_reducible refine Below.alloc' ?_ _) | (with_reducible refine Below.drew ?_) | (with_reducible refine below_drewN ?_ _) | ((with_reducible refine Below.setCell ?_ ?_ _); rotate_left; (focus (first | exact Nat.le_refl _ | (simp; done) | (simp; omega)))) | (with_reducible assumption) | (with_reducible exact Below.refl _ _)))⟩
  case round =>
    obtain ⟨j, hj, rfl, hA, hbel⟩ := hrel
    by_cases hlj : j < 32
    · have hcell := hA.at hlj
      have hfr := hA.frozen j
      have hA2 := hA.set j (.int .u8 255)
      rw [ff_step] at hA2
      have HA := Lib.hid hA2
      clear hA hA2
      go_wp2
      go_roundw
      case rel => exact ⟨j + 1, by omega, by go_num, HA.out, (by repeat (first | (with_reducible refine Below.alloc' ?_ _) | (with_reducible refine Below.drew ?_) | (with_reducible refine below_drewN ?_ _) | ((with_reducible refine Below.setCell ?_ ?_ _); rotate_left; (focus (first | exact Nat.le_refl _ | (simp; done) | (simp; omega)))) | (with_reducible assumption) | (with_reducible exact Below.refl _ _)))⟩
      case measure => simp [intOf]; omega
    · obtain rfl : j = 32 := by omega
      have c0 : wr.cell? ⟨w.heap.size, 0, none⟩ = some (.int .u8 255) := hA.at (by omega)
      have c31 : wr.cell? ⟨w.heap.size, 31, none⟩ = some (.int .u8 255) := hA.at (by omega)
      have f0 := hA.frozen 0
      have f31 := hA.frozen 31
      have hA2 := (hA.set 0 (.int .u8 ai)).set 31 (.int .u8 bi)
      rw [HR.out] at hA2
      have HA := Lib.hid hA2
      clear hA hA2 hlj hj
      go_wp2
      go_ret
      exact ⟨rfl, HA.out, (by repeat (first | (with_reducible refine Below.alloc' ?_ _) | (with_reducible refine Below.drew ?_) | (with_reducible refine below_drewN ?_ _) | ((with_reducible refine Below.setCell ?_ ?_ _); rotate_left; (focus (first | exact Nat.le_refl _ | (simp; done) | (simp; omega)))) | (with_reducible assumption) | (with_reducible exact Below.refl _ _)))⟩
/-- The number that bytes mean, the greatest first. -/
def beF (f : Nat → Nat) : Nat → Nat
  | 0 => 0
  | n + 1 => beF f n * 256 + f n
/-- What stands behind so many digits of a byte. -/
def pwN (N b j : Nat) : Nat := N * 2 ^ (8 - j) + b / 2 ^ j
theorem pwN_top (N b : Nat) (hb : b < 256) : pwN N b 8 = N := by simp [pwN, Nat.div_eq_of_lt hb]
theorem pwN_low (N b : Nat) : pwN N b 0 = N * 256 + b := by simp [pwN]
theorem pwN_step (N b j : Nat) (hj : j < 8) : pwN N b j = pwN N b (j + 1) + pwN N b (j + 1) + b / 2 ^ j % 2 := by
  unfold pwN
  rw [show 8 - j = 8 - (j + 1) + 1 from by omega, Nat.pow_succ, Nat.pow_succ, ← Nat.div_div_eq_div_mul, ← Nat.mul_assoc]
  generalize N * 2 ^ (8 - (j + 1)) = A
  generalize b / 2 ^ j = B
  omega
theorem fpow_dbl (x : F) (m : Nat) : fpow x m * fpow x m = fpow x (m + m) := (fpow_add x m m).symm
theorem fpow_dbl1 (x : F) (m : Nat) : fpow x m * fpow x m * x = fpow x (m + m + 1) := by rw [fpow_add x (m + m) 1, fpow_add, fpow_one]
theorem bit8 (b j : Nat) (hb : b < 256) : bits BinOp.and IntKind.u8 ((b : Int) / 2 ^ j) 1 = ((b / 2 ^ j % 2 : Nat) : Int) := by
  have h1 : b / 2 ^ j < 256 := Nat.lt_of_le_of_lt (Nat.div_le_self _ _) hb
  rw [show (b : Int) / 2 ^ j = ((b / 2 ^ j : Nat) : Int) from by simp]
  generalize b / 2 ^ j = q at *
  revert h1; revert q; decide +kernel
theorem F1 : (fn 1 : F) = 1 := by decide +kernel
end Go.Proofs.Ytmoggjbnlimepaa
