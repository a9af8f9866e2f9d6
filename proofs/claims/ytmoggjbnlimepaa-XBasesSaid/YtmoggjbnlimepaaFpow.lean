/- The walks of package field, fourth part: powers, inverses. -/
import Derived.Test.YtmoggjbnlimepaaFmul
import Derived.Deep.DeepCutAuto
namespace Go.Proofs.Ytmoggjbnlimepaa
open Go.RowKit

theorem pow_step (x N j : Nat) : (x ^ (N / 2 ^ (j + 1)) % Pq) * (x ^ (N / 2 ^ (j + 1)) % Pq) % Pq = x ^ (2 * (N / 2 ^ (j + 1))) % Pq := by
  rw [← Nat.mul_mod, ← Nat.pow_add]; congr 2; omega
theorem half_step (N j : Nat) : N / 2 ^ j = 2 * (N / 2 ^ (j + 1)) + N / 2 ^ j % 2 := by
  rw [Nat.pow_succ, ← Nat.div_div_eq_div_mul]; omega
/-- The exponent's digit, as the walk tests it. -/
theorem dig_test (N j : Nat) (x : Int) (hx : x = (lw N (j / 64) : Nat)) : (bits BinOp.and IntKind.u64 (x / 2 ^ (j % 64)) 1 == 1) = decide (N / 2 ^ j % 2 = 1) := by
  subst hx
  have hq : lw N (j / 64) / 2 ^ (j % 64) < 18446744073709551616 := Nat.lt_of_le_of_lt (Nat.div_le_self _ _) (lw_lt _ _)
  rw [show ((lw N (j / 64) : Nat) : Int) / 2 ^ (j % 64) = ((lw N (j / 64) / 2 ^ (j % 64) : Nat) : Int) from by simp, show (1 : Int) = ((1 : Nat) : Int) from rfl, u64_and_nat _ 1 hq (by omega), Nat.and_one_is_mod, lw_bit]
  generalize N / 2 ^ j % 2 = b
  by_cases hb : b = 1
  · subst hb; simp
  · rw [decide_eq_false hb, beq_eq_false_iff_ne]; omega
theorem pow_odd (x N j : Nat) (h : N / 2 ^ j % 2 = 1) : x ^ (N / 2 ^ j) % Pq = (x ^ (N / 2 ^ (j + 1)) % Pq) * (x ^ (N / 2 ^ (j + 1)) % Pq) % Pq * x % Pq := by
  have e : N / 2 ^ j = 2 * (N / 2 ^ (j + 1)) + 1 := by have := half_step N j; omega
  rw [pow_step, e, Nat.pow_succ]
  generalize x ^ (2 * (N / 2 ^ (j + 1))) = y
  rw [Nat.mul_mod (y % Pq), Nat.mod_mod, ← Nat.mul_mod]
set_option maxHeartbeats 1000000 in
theorem power_any {f : Nat → Nat} {x : Nat} (N T : Nat) (hT1 : T ≤ 256) (hT2 : 256 ≤ T) (hN : N < 2 ^ T) (hf : FE f x) (w : World) :
    Calls Try.prog 42 #[.agg #[.int .u64 (f 0 : Nat), .int .u64 (f 1 : Nat), .int .u64 (f 2 : Nat), .int .u64 (f 3 : Nat), .int .u64 (f 4 : Nat)], .agg #[.int .u64 (lw N 0 : Nat), .int .u64 (lw N 1 : Nat), .int .u64 (lw N 2 : Nat), .int .u64 (lw N 3 : Nat)]] w fun e w' => ∃ h, e = .returned (.agg #[.int .u64 (h 0 : Nat), .int .u64 (h 1 : Nat), .int .u64 (h 2 : Nat), .int .u64 (h 3 : Nat), .int .u64 (h 4 : Nat)]) ∧ FE h (x ^ N % Pq) ∧ Below w.heap.size w w' := by
  have HN := Lib.hid hN; have HF := Lib.hid hf
  clear hN hf
  go_enter Try.func42, Try.ntmps42
  go_upto_region 2 with (go_at_call 22; go_must (refine (fesmall_any (n := 1) (by omega) _).mono ?_; rintro e w1 ⟨rfl, hb⟩))
  refine wp_gen (fun W => Blk W w.heap.size [.int .u64 (f 0 : Nat),.int .u64 (f 1 : Nat),.int .u64 (f 2 : Nat),.int .u64 (f 3 : Nat),.int .u64 (f 4 : Nat)] 41 ∧ Blk W (w.heap.size + 1) (row 4 (wV N)) 59 ∧ Blk W (w.heap.size + 1 + 1) [.int .u64 0, .int .u64 0, .int .u64 0, .int .u64 0, .int .u64 0] 41 ∧ (∃ h, FE h (x ^ (N / 2 ^ T) % Pq) ∧ Blk W w1.heap.size [.int .u64 (h 0 : Nat),.int .u64 (h 1 : Nat),.int .u64 (h 2 : Nat),.int .u64 (h 3 : Nat),.int .u64 (h 4 : Nat)] 41) ∧ Below w.heap.size w W) ?_ (fun W hW => ?_)
  · refine ⟨(((Blk.new w _ _).alloc _).alloc _ |>.below' hb).alloc _, (((Blk.new' (by simp)).alloc _).below' hb).alloc _, ((Blk.new' (by simp)).below' hb).alloc _, ⟨smallF 1, ?_, Blk.new w1 _ _⟩, Below.alloc' (Below.call (by repeat (first | (with_reducible refine Below.alloc' ?_ _) | (with_reducible refine Below.drew ?_) | (with_reducible refine below_drewN ?_ _) | ((with_reducible refine Below.setCell ?_ ?_ _); rotate_left; (focus (first | exact Nat.le_refl _ | (simp; done) | (simp; omega)))) | (with_reducible assumption) | (with_reducible exact Below.refl _ _))) hb) _⟩
    rw [Nat.div_eq_of_lt HN.out, Nat.pow_zero]
    exact FE.small (by omega)
  have hs1 : w.heap.size + 1 + 1 < w1.heap.size := by have := hb.size; simp at this; omega
  obtain ⟨hA, hK, hO, hH, hbel⟩ := hW
  clear hb
  generalize w1.heap.size = g at *
  clear w1
  go_wp2
  go_loopw [6] (fun i wr => ∃ k : Nat, k ≤ 256 ∧ i = .int .i64 ((k : Int) - 1) ∧ Blk wr w.heap.size [.int .u64 (f 0 : Nat),.int .u64 (f 1 : Nat),.int .u64 (f 2 : Nat),.int .u64 (f 3 : Nat),.int .u64 (f 4 : Nat)] 41 ∧ Blk wr (w.heap.size + 1) (row 4 (wV N)) 59 ∧ Blk wr (w.heap.size + 1 + 1) [.int .u64 0, .int .u64 0, .int .u64 0, .int .u64 0, .int .u64 0] 41 ∧ (∃ h, FE h (x ^ (N / 2 ^ k) % Pq) ∧ Blk wr g [.int .u64 (h 0 : Nat),.int .u64 (h 1 : Nat),.int .u64 (h 2 : Nat),.int .u64 (h 3 : Nat),.int .u64 (h 4 : Nat)] 41) ∧ Below w.heap.size w wr) (fun i _ => (intOf i + 1).toNat)
  case atStart => exact ⟨T, by omega, by congr 1; omega, hA, hK, hO, hH, hbel⟩
  case round =>
    clear hA hK hO hH hbel W
    obtain ⟨k, hk, rfl, hA, hK, hO, ⟨h, hh, hH⟩, hbel⟩ := hrel
    by_cases hk0 : k = 0
    · subst hk0
      rw [Nat.pow_zero, Nat.div_one] at hh
      have hHc := hH.cell; have hOc := hO.cell; have hOf := hO.frozen
      rw [show (((0 : Nat) : Int) - 1) = -1 from rfl]
      clear hA hK hO hH hk
      go_wp2
      exact bodyPost_ret (v := .agg #[.int .u64 (h 0 : Nat), .int .u64 (h 1 : Nat), .int .u64 (h 2 : Nat), .int .u64 (h 3 : Nat), .int .u64 (h 4 : Nat)]) (by simp [results, Try.results42, go_sem, hOc]) rfl ⟨_, rfl, hh, (by repeat (first | (with_reducible refine Below.alloc' ?_ _) | (with_reducible refine Below.drew ?_) | (with_reducible refine below_drewN ?_ _) | ((with_reducible refine Below.setCell ?_ ?_ _); rotate_left; (focus (first | exact Nat.le_refl _ | (simp; done) | (simp; omega)))) | (with_reducible assumption) | (with_reducible exact Below.refl _ _)))⟩
    · obtain ⟨j, rfl⟩ : ∃ j, k = j + 1 := ⟨k - 1, by omega⟩
      rw [show (((j + 1 : Nat) : Int) - 1) = (j : Int) from by omega]
      have hj4 : j / 64 < 4 := by omega
      obtain ⟨xi, hxi⟩ : ∃ xi : Int, xi = (lw N (j / 64) : Nat) := ⟨_, rfl⟩
      have HD := Lib.hid (dig_test N j xi hxi)
      have hx0 : 0 ≤ xi := by omega
      have hx1 : xi < 18446744073709551616 := by have := lw_lt N (j / 64); omega
      have HK := Lib.hid (show ∀ W, Blk W (w.heap.size + 1) (row 4 (wV N)) 59 → W.cell? ⟨w.heap.size + 1, j / 64, none⟩ = some (.int .u64 xi) from fun W h => by rw [h.at hj4, hxi]; rfl)
      have hHc := hH.cell
      have HA0 := Lib.hid hA; have HK0 := Lib.hid hK; have HO0 := Lib.hid hO; have HH0 := Lib.hid hH
      clear hxi hA hK hO hH hk0
      by_cases hb : N / 2 ^ j % 2 = 1
      · have hd : (bits BinOp.and IntKind.u64 (xi / 2 ^ (j % 64)) 1 == 1) = true := by rw [HD.out, decide_eq_true hb]
        have HB := Lib.hid hb
        clear hb
        go_wp2_with (go_at_call 25; first | ((with_reducible refine (femul_any hh hh _).mono ?_); rintro e w1 ⟨h1, rfl, hh1, hb1⟩; have hH1 := HH0.out.below' hb1; have hHf := hH1.frozen; have hHc1 := hH1.cell; have kc := HK.out _ (HK0.out.below' hb1); have ac := (HA0.out.below' hb1).cell; have hg1 : ¬ g = w.heap.size + 1 := (by omega); have hg2 : ¬ g = w.heap.size := (by omega); have hg3 : ¬ w.heap.size + 1 = g := (by omega); have hg4 : ¬ w.heap.size = g := (by omega); have HA1 := Lib.hid (HA0.out.below' hb1); have HK1 := Lib.hid (HK0.out.below' hb1); have HO1 := Lib.hid (HO0.out.below' hb1); have HH1 := Lib.hid hH1; have hbel1 := Below.call hbel hb1; clear hb1 hH1 hHc HA0 HK0 HO0 HH0 hbel) | ((with_reducible refine (femul_any hh1 HF.out _).mono ?_); rintro e w2 ⟨h2, rfl, hh2, hb2⟩; have hH2 := (((((HH1.out.set 0 (.int .u64 (h1 0 : Nat))).set 1 (.int .u64 (h1 1 : Nat))).set 2 (.int .u64 (h1 2 : Nat))).set 3 (.int .u64 (h1 3 : Nat))).set 4 (.int .u64 (h1 4 : Nat))).below' hb2; have hHf2 := hH2.frozen; have hHc2 := hH2.cell; have HH2 := Lib.hid hH2; have HA2 := Lib.hid ((((((HA1.out.other ⟨g, 0, none⟩ (by simp; omega) (.int .u64 (h1 0 : Nat))).other ⟨g, 1, none⟩ (by simp; omega) (.int .u64 (h1 1 : Nat))).other ⟨g, 2, none⟩ (by simp; omega) (.int .u64 (h1 2 : Nat))).other ⟨g, 3, none⟩ (by simp; omega) (.int .u64 (h1 3 : Nat))).other ⟨g, 4, none⟩ (by simp; omega) (.int .u64 (h1 4 : Nat))).below' hb2); have HK2 := Lib.hid ((((((HK1.out.other ⟨g, 0, none⟩ (by simp; omega) (.int .u64 (h1 0 : Nat))).other ⟨g, 1, none⟩ (by simp; omega) (.int .u64 (h1 1 : Nat))).other ⟨g, 2, none⟩ (by simp; omega) (.int .u64 (h1 2 : Nat))).other ⟨g, 3, none⟩ (by simp; omega) (.int .u64 (h1 3 : Nat))).other ⟨g, 4, none⟩ (by simp; omega) (.int .u64 (h1 4 : Nat))).below' hb2); have HO2 := Lib.hid ((((((HO1.out.other ⟨g, 0, none⟩ (by simp; omega) (.int .u64 (h1 0 : Nat))).other ⟨g, 1, none⟩ (by simp; omega) (.int .u64 (h1 1 : Nat))).other ⟨g, 2, none⟩ (by simp; omega) (.int .u64 (h1 2 : Nat))).other ⟨g, 3, none⟩ (by simp; omega) (.int .u64 (h1 3 : Nat))).other ⟨g, 4, none⟩ (by simp; omega) (.int .u64 (h1 4 : Nat))).below' hb2); have hbel2 := Below.call (show Below w.heap.size w _ from (by repeat (first | (with_reducible refine Below.alloc' ?_ _) | (with_reducible refine Below.drew ?_) | (with_reducible refine below_drewN ?_ _) | ((with_reducible refine Below.setCell ?_ ?_ _); rotate_left; (focus (first | exact Nat.le_refl _ | (simp; done) | (simp; omega)))) | (with_reducible assumption) | (with_reducible exact Below.refl _ _)))) hb2; clear hb2 hH2 hHc1 hHf kc ac HA1 HK1 HO1 HH1 hbel1))
        go_roundw
        case rel => exact ⟨j, by omega, rfl, (((((HA2.out.other ⟨g, 0, none⟩ (by simp; omega) (.int .u64 (h2 0 : Nat))).other ⟨g, 1, none⟩ (by simp; omega) (.int .u64 (h2 1 : Nat))).other ⟨g, 2, none⟩ (by simp; omega) (.int .u64 (h2 2 : Nat))).other ⟨g, 3, none⟩ (by simp; omega) (.int .u64 (h2 3 : Nat))).other ⟨g, 4, none⟩ (by simp; omega) (.int .u64 (h2 4 : Nat))), (((((HK2.out.other ⟨g, 0, none⟩ (by simp; omega) (.int .u64 (h2 0 : Nat))).other ⟨g, 1, none⟩ (by simp; omega) (.int .u64 (h2 1 : Nat))).other ⟨g, 2, none⟩ (by simp; omega) (.int .u64 (h2 2 : Nat))).other ⟨g, 3, none⟩ (by simp; omega) (.int .u64 (h2 3 : Nat))).other ⟨g, 4, none⟩ (by simp; omega) (.int .u64 (h2 4 : Nat))), (((((HO2.out.other ⟨g, 0, none⟩ (by simp; omega) (.int .u64 (h2 0 : Nat))).other ⟨g, 1, none⟩ (by simp; omega) (.int .u64 (h2 1 : Nat))).other ⟨g, 2, none⟩ (by simp; omega) (.int .u64 (h2 2 : Nat))).other ⟨g, 3, none⟩ (by simp; omega) (.int .u64 (h2 3 : Nat))).other ⟨g, 4, none⟩ (by simp; omega) (.int .u64 (h2 4 : Nat))), ⟨h2, by rw [pow_odd x N j HB.out]; exact hh2, (((((HH2.out.set 0 (.int .u64 (h2 0 : Nat))).set 1 (.int .u64 (h2 1 : Nat))).set 2 (.int .u64 (h2 2 : Nat))).set 3 (.int .u64 (h2 3 : Nat))).set 4 (.int .u64 (h2 4 : Nat)))⟩, (by repeat (first | (with_reducible refine Below.alloc' ?_ _) | (with_reducible refine Below.drew ?_) | (with_reducible refine below_drewN ?_ _) | ((with_reducible refine Below.setCell ?_ ?_ _); rotate_left; (focus (first | exact Nat.le_refl _ | (simp; done) | (simp; omega)))) | (with_reducible assumption) | (with_reducible exact Below.refl _ _)))⟩
        case measure => simp [intOf] <;> omega
      · have hd : (bits BinOp.and IntKind.u64 (xi / 2 ^ (j % 64)) 1 == 1) = false := by rw [HD.out, decide_eq_false hb]
        have HB : Hid (N / 2 ^ j % 2 = 0) := Lib.hid (by omega)
        clear hb
        go_wp2_with (go_at_call 25; first | ((with_reducible refine (femul_any hh hh _).mono ?_); rintro e w1 ⟨h1, rfl, hh1, hb1⟩; have hH1 := HH0.out.below' hb1; have hHf := hH1.frozen; have hHc1 := hH1.cell; have kc := HK.out _ (HK0.out.below' hb1); have ac := (HA0.out.below' hb1).cell; have hg1 : ¬ g = w.heap.size + 1 := (by omega); have hg2 : ¬ g = w.heap.size := (by omega); have hg3 : ¬ w.heap.size + 1 = g := (by omega); have hg4 : ¬ w.heap.size = g := (by omega); have HA1 := Lib.hid (HA0.out.below' hb1); have HK1 := Lib.hid (HK0.out.below' hb1); have HO1 := Lib.hid (HO0.out.below' hb1); have HH1 := Lib.hid hH1; have hbel1 := Below.call hbel hb1; clear hb1 hH1 hHc HA0 HK0 HO0 HH0 hbel))
        go_roundw
        case rel => exact ⟨j, by omega, rfl, (((((HA1.out.other ⟨g, 0, none⟩ (by simp; omega) (.int .u64 (h1 0 : Nat))).other ⟨g, 1, none⟩ (by simp; omega) (.int .u64 (h1 1 : Nat))).other ⟨g, 2, none⟩ (by simp; omega) (.int .u64 (h1 2 : Nat))).other ⟨g, 3, none⟩ (by simp; omega) (.int .u64 (h1 3 : Nat))).other ⟨g, 4, none⟩ (by simp; omega) (.int .u64 (h1 4 : Nat))), (((((HK1.out.other ⟨g, 0, none⟩ (by simp; omega) (.int .u64 (h1 0 : Nat))).other ⟨g, 1, none⟩ (by simp; omega) (.int .u64 (h1 1 : Nat))).other ⟨g, 2, none⟩ (by simp; omega) (.int .u64 (h1 2 : Nat))).other ⟨g, 3, none⟩ (by simp; omega) (.int .u64 (h1 3 : Nat))).other ⟨g, 4, none⟩ (by simp; omega) (.int .u64 (h1 4 : Nat))), (((((HO1.out.other ⟨g, 0, none⟩ (by simp; omega) (.int .u64 (h1 0 : Nat))).other ⟨g, 1, none⟩ (by simp; omega) (.int .u64 (h1 1 : Nat))).other ⟨g, 2, none⟩ (by simp; omega) (.int .u64 (h1 2 : Nat))).other ⟨g, 3, none⟩ (by simp; omega) (.int .u64 (h1 3 : Nat))).other ⟨g, 4, none⟩ (by simp; omega) (.int .u64 (h1 4 : Nat))), ⟨h1, by rw [half_step, HB.out, Nat.add_zero, ← pow_step]; exact hh1, (((((HH1.out.set 0 (.int .u64 (h1 0 : Nat))).set 1 (.int .u64 (h1 1 : Nat))).set 2 (.int .u64 (h1 2 : Nat))).set 3 (.int .u64 (h1 3 : Nat))).set 4 (.int .u64 (h1 4 : Nat)))⟩, (by repeat (first | (with_reducible refine Below.alloc' ?_ _) | (with_reducible refine Below.drew ?_) | (with_reducible refine below_drewN ?_ _) | ((with_reducible refine Below.setCell ?_ ?_ _); rotate_left; (focus (first | exact Nat.le_refl _ | (simp; done) | (simp; omega)))) | (with_reducible assumption) | (with_reducible exact Below.refl _ _)))⟩
        case measure => simp [intOf] <;> omega
set_option maxHeartbeats 1000000 in
theorem feinv_any {f : Nat → Nat} {x : Nat} (hf : FE f x) (w : World) :
    Calls Try.prog 26 #[.agg #[.int .u64 (f 0 : Nat), .int .u64 (f 1 : Nat), .int .u64 (f 2 : Nat), .int .u64 (f 3 : Nat), .int .u64 (f 4 : Nat)]] w fun e w' => ∃ h, e = .returned (.agg #[.int .u64 (h 0 : Nat), .int .u64 (h 1 : Nat), .int .u64 (h 2 : Nat), .int .u64 (h 3 : Nat), .int .u64 (h 4 : Nat)]) ∧ FE h (x ^ expInv % Pq) ∧ Below w.heap.size w w' := by
  have hP := fun W => power_any expInv (8 * 32) (by omega) (by omega) (by decide +kernel) hf W
  rw [show lw expInv 0 = 18446744073709551595 from by decide +kernel, show lw expInv 1 = 18446744073709551615 from by decide +kernel, show lw expInv 2 = 18446744073709551615 from by decide +kernel, show lw expInv 3 = 9223372036854775807 from by decide +kernel] at hP
  have HP := Lib.hid hP
  clear hP
  go_enter Try.func26, Try.ntmps26
  go_wp2_with (go_at_call 42; go_must (refine (HP.out _).mono ?_; rintro e w1 ⟨h, rfl, hr, hb⟩; have hO := (show Blk _ (w.heap.size + 1) [.int .u64 0, .int .u64 0, .int .u64 0, .int .u64 0, .int .u64 0] 41 from (by repeat (first | (with_reducible refine Blk.drew ?_) | exact Blk.new' (by simp) | (with_reducible refine Blk.alloc ?_ _)))).below' hb; have hOc := hO.cell; have hOf := hO.frozen; have hbel : Below w.heap.size w w1 := Below.call (by repeat (first | (with_reducible refine Below.alloc' ?_ _) | (with_reducible refine Below.drew ?_) | (with_reducible refine below_drewN ?_ _) | ((with_reducible refine Below.setCell ?_ ?_ _); rotate_left; (focus (first | exact Nat.le_refl _ | (simp; done) | (simp; omega)))) | (with_reducible assumption) | (with_reducible exact Below.refl _ _))) hb; clear hb hO))
  exact bodyPost_ret (v := .agg #[.int .u64 (h 0 : Nat), .int .u64 (h 1 : Nat), .int .u64 (h 2 : Nat), .int .u64 (h 3 : Nat), .int .u64 (h 4 : Nat)]) (by simp [results, Try.results26, go_sem, hOc]) rfl ⟨_, rfl, hr, (by repeat (first | (with_reducible refine Below.alloc' ?_ _) | (with_reducible refine Below.drew ?_) | (with_reducible refine below_drewN ?_ _) | ((with_reducible refine Below.setCell ?_ ?_ _); rotate_left; (focus (first | exact Nat.le_refl _ | (simp; done) | (simp; omega)))) | (with_reducible assumption) | (with_reducible exact Below.refl _ _)))⟩
end Go.Proofs.Ytmoggjbnlimepaa
