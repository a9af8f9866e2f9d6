/- The walks of package scalar, fourth part: products; reading strictly. -/
import Derived.Test.YtbgfokdchpcifaaScc
namespace Go.Proofs.Ytbgfokdchpcifaa
open Go.RowKit

/-- One step of a product: x y + c + z in two words. -/
theorem mac_num (x y c z : Nat) (hx : x < 18446744073709551616) (hy : y < 18446744073709551616) (hc : c < 18446744073709551616) (hz : z < 18446744073709551616) :
    adds (z : Int) (adds (mlo x y) c 0) 0 = ((x * y + c + z) % 18446744073709551616 : Nat) ∧
    IntKind.u64.wrap (IntKind.u64.wrap (mhi x y + addc (mlo x y) c 0) + addc (z : Int) (adds (mlo x y) c 0) 0) = ((x * y + c + z) / 18446744073709551616 : Nat) := by
  have h5 : x * y ≤ 18446744073709551615 * 18446744073709551615 := Nat.mul_le_mul (by omega) (by omega)
  unfold adds addc mlo mhi
  rw [wrapU, wrapU]
  rw [show (x : Int) * (y : Int) = ((x * y : Nat) : Int) from by simp]
  generalize x * y = p at *
  constructor
  · omega
  · omega
/-- The words of a product on its way. -/
def prV (a b i j : Nat) (q : Nat) : Value := if q < i + j then wV (prA a b i + prS a b i j) q else wV (prA a b i) q
theorem prV_at (a b i j : Nat) : prV a b i j (i + j) = .int .u64 (lw (prA a b i) (i + j) : Nat) := by unfold prV; rw [if_neg (by omega)]; rfl
theorem prV_set (a b i j : Nat) : (row 8 (prV a b i j)).set (i + j) (.int .u64 (lw (prA a b i + prS a b i (j + 1)) (i + j) : Nat)) = row 8 (prV a b i (j + 1)) :=
  row_set _ _ (by unfold prV; rw [if_pos (by omega)]; rfl) (fun q _ h => by
    unfold prV
    by_cases h1 : q < i + j
    · rw [if_pos h1, if_pos (by omega)]; unfold wV; rw [pr_low a b i j q h1]
    · rw [if_neg h1, if_neg (by omega)])
theorem prV_zero (a b i : Nat) : row 8 (prV a b i 0) = row 8 (wV (prA a b i)) := row_ext fun q _ => by
  unfold prV
  rw [show prS a b i 0 = 0 from by unfold prS; rw [Nat.mul_zero, Nat.pow_zero, Nat.mod_one, Nat.mul_zero], Nat.add_zero]
  split <;> rfl
theorem prV_top (a b i : Nat) (hb : b < 2 ^ 256) : (row 8 (prV a b i 4)).set (i + 4) (.int .u64 (prC a b i 4 : Nat)) = row 8 (wV (prA a b (i + 1))) :=
  row_set _ _ (by unfold wV; rw [pr_top a b i hb]) (fun q _ h => by
    unfold prV
    by_cases h1 : q < i + 4
    · rw [if_pos h1, prA_succ a b i hb]
    · rw [if_neg h1]; unfold wV
      rw [lw_high (prA_lt a b i hb) (by omega), lw_high (prA_lt a b (i + 1) hb) (by omega)])
set_option maxHeartbeats 2000000 in
theorem scmul_any (a b : Nat) (ha : a < 2 ^ 256) (hb : b < 2 ^ 256) (w : World) :
    Calls Try.prog 21 #[.agg #[.int .u64 (lw a 0 : Nat), .int .u64 (lw a 1 : Nat), .int .u64 (lw a 2 : Nat), .int .u64 (lw a 3 : Nat)], .agg #[.int .u64 (lw b 0 : Nat), .int .u64 (lw b 1 : Nat), .int .u64 (lw b 2 : Nat), .int .u64 (lw b 3 : Nat)]] w fun e w' => e = .returned (.agg #[.int .u64 (lw (a * b % Lq) 0 : Nat), .int .u64 (lw (a * b % Lq) 1 : Nat), .int .u64 (lw (a * b % Lq) 2 : Nat), .int .u64 (lw (a * b % Lq) 3 : Nat)]) ∧ Below w.heap.size w w' := by
  have HB := Lib.hid hb; have HA := Lib.hid ha
  clear ha hb
  go_enter Try.func21, Try.ntmps21
  go_wp2
  refine wp_gen (fun W => Blk W (w.heap.size + 1) (row 4 (wV b)) 27 ∧ Blk W (w.heap.size + 1 + 1 + 1) (row 8 (wV (prA a b 0))) 55 ∧ Blk W (w.heap.size + 1 + 1) (row 4 (wV 0)) 27 ∧ Below w.heap.size w W) ?_ (fun W hW => ?_)
  · refine ⟨((Blk.new' (by simp)).alloc _).alloc _, ?_, ?_, (by repeat (first | (with_reducible refine Below.alloc' ?_ _) | (with_reducible refine Below.drew ?_) | (with_reducible refine below_drewN ?_ _) | ((with_reducible refine Below.setCell ?_ ?_ _); rotate_left; (focus (first | exact Nat.le_refl _ | (simp; done) | (simp; omega)))) | (with_reducible assumption) | (with_reducible exact Below.refl _ _)))⟩
    · rw [show prA a b 0 = 0 from by unfold prA; rw [Nat.mul_zero, Nat.pow_zero, Nat.mod_one, Nat.zero_mul], row8_zero]
      exact Blk.new' (by simp)
    · simp only [row4, wV0]
      exact (Blk.new' (by simp)).alloc _
  obtain ⟨hb1, hw1, ho1, hbl1⟩ := hW
  go_loopw [16] (fun i wr => ∃ k : Nat, k ≤ 4 ∧ i = .int .i64 k ∧ Blk wr (w.heap.size + 1) (row 4 (wV b)) 27 ∧ Blk wr (w.heap.size + 1 + 1 + 1) (row 8 (wV (prA a b k))) 55 ∧ Blk wr (w.heap.size + 1 + 1) (row 4 (wV 0)) 27 ∧ Below w.heap.size w wr) (fun i _ => 4 - (intOf i).toNat)
  case atStart => exact ⟨0, by omega, rfl, hb1, hw1, ho1, hbl1⟩
  case round =>
    clear hb1 hw1 ho1 hbl1 W
    obtain ⟨i, hi, rfl, hbB, hwB, hoB, hbl⟩ := hrel
    obtain ⟨wo, hwo⟩ : ∃ wo : World, wo = wr := ⟨_, rfl⟩
    by_cases hlt : i < 4
    · have hx := ix4 a i hlt
      have hdd : decide ((i : Int) < 4) = true := by simp; omega
      have hbc := hbB.cell
      rw [row4] at hbc
      unfold wV at hbc
      go_wp2
      clear hx hbc
      go_loopw [8, 22] (fun c j wr => ∃ k : Nat, k ≤ 4 ∧ j = .int .i64 k ∧ c = .int .u64 (prC a b i k : Nat) ∧ Blk wr (w.heap.size + 1) (row 4 (wV b)) 27 ∧ Blk wr (w.heap.size + 1 + 1 + 1) (row 8 (prV a b i k)) 55 ∧ Blk wr (w.heap.size + 1 + 1) (row 4 (wV 0)) 27 ∧ Below w.heap.size w wr) (fun _ j _ => 4 - (intOf j).toNat)
      case atStart => exact ⟨0, by omega, rfl, by rw [prC_zero]; rfl, hbB, by rw [prV_zero]; exact hwB, hoB, hbl⟩
      case round =>
        subst hwo
        clear hbB hwB hoB hbl
        obtain ⟨j, hj, rfl, rfl, hbB, hwB, hoB, hbl⟩ := hrel
        by_cases hlt' : j < 4
        · have hy := ix4 b j hlt'
          have hij : i + j < 8 := by omega
          have cw := hwB.at hij
          rw [prV_at] at cw
          have cf := hwB.frozen (i + j)
          have hzl := lw_lt (prA a b i) (i + j)
          have hm := mac_num (lw a i) (lw b j) (prC a b i j) (lw (prA a b i) (i + j)) (lw_lt _ _) (lw_lt _ _) (prC_lt _ _ _ _) hzl
          rw [← (pr_word a b i j).1, ← (pr_word a b i j).2] at hm
          have h1 := fun w => add64 (mlo_wd (lw a i : Nat) (lw b j : Nat)) (y := (prC a b i j : Nat)) ⟨by omega, by have := prC_lt a b i j; omega⟩ Cy.zero w
          have h2 := fun w => add64 (x := (lw (prA a b i) (i + j) : Nat)) ⟨by omega, by omega⟩ (adds_wd (mlo (lw a i : Nat) (lw b j : Nat)) (prC a b i j : Nat) 0) Cy.zero w
          rw [hm.1] at h2
          have HM := Lib.hid hm.2
          have HBb := Lib.hid hbB; have HWb := Lib.hid hwB; have HOb := Lib.hid hoB
          clear hm hzl hbB hwB hoB
          have HW2 := Lib.hid (HWb.out.set (i + j) (.int .u64 (lw (prA a b i + prS a b i (j + 1)) (i + j) : Nat)))
          have HB2 := Lib.hid (HBb.out.other ⟨w.heap.size + 1 + 1 + 1, i + j, none⟩ (by simp; omega) (.int .u64 (lw (prA a b i + prS a b i (j + 1)) (i + j) : Nat)))
          have HO2 := Lib.hid (HOb.out.other ⟨w.heap.size + 1 + 1 + 1, i + j, none⟩ (by simp) (.int .u64 (lw (prA a b i + prS a b i (j + 1)) (i + j) : Nat)))
          clear HWb HBb HOb
          go_wp2_with (go_at_call 38; go_must (refine (mul64_o (Wd.lw a i) (Wd.lw b j) _).mono ?_; rintro e w1 ⟨rfl, rfl⟩))
          go_roundw
          case rel => exact ⟨j + 1, by omega, by go_num, by rw [HM.out], HB2.out, by have := HW2.out; rw [prV_set] at this; exact this, HO2.out, (by repeat (first | (with_reducible refine Below.alloc' ?_ _) | (with_reducible refine Below.drew ?_) | (with_reducible refine below_drewN ?_ _) | ((with_reducible refine Below.setCell ?_ ?_ _); rotate_left; (focus (first | exact Nat.le_refl _ | (simp; done) | (simp; omega)))) | (with_reducible assumption) | (with_reducible exact Below.refl _ _)))⟩
          case measure => simp [intOf]; omega
        · obtain rfl : j = 4 := by omega
          have hi4 : i + 4 < 8 := by omega
          have cw : ∃ v, wr.cell? ⟨w.heap.size + 1 + 1 + 1, i + 4, none⟩ = some v := ⟨_, hwB.at hi4⟩
          obtain ⟨v, cw⟩ := cw
          have cf := hwB.frozen (i + 4)
          have HWb := Lib.hid (hwB.set (i + 4) (.int .u64 (prC a b i 4 : Nat)))
          have HBb := Lib.hid (hbB.other ⟨w.heap.size + 1 + 1 + 1, i + 4, none⟩ (by simp; omega) (.int .u64 (prC a b i 4 : Nat)))
          have HOb := Lib.hid (hoB.other ⟨w.heap.size + 1 + 1 + 1, i + 4, none⟩ (by simp) (.int .u64 (prC a b i 4 : Nat)))
          clear hbB hwB hoB
          go_wp2
          go_roundw
          case rel => exact ⟨i + 1, by omega, by go_num, HBb.out, by have := HWb.out; rw [prV_top a b i HB.out] at this; exact this, HOb.out, (by repeat (first | (with_reducible refine Below.alloc' ?_ _) | (with_reducible refine Below.drew ?_) | (with_reducible refine below_drewN ?_ _) | ((with_reducible refine Below.setCell ?_ ?_ _); rotate_left; (focus (first | exact Nat.le_refl _ | (simp; done) | (simp; omega)))) | (with_reducible assumption) | (with_reducible exact Below.refl _ _)))⟩
          case measure => simp [intOf]; omega
    · obtain rfl : i = 4 := by omega
      clear hwo
      rw [show prA a b 4 = a * b from by unfold prA; rw [Nat.mod_eq_of_lt (show a < 2 ^ (64 * 4) from HA.out)]] at hwB
      have HN := Lib.hid (lt_pow_mul HA.out HB.out)
      rw [row4] at hoB
      simp only [wV0] at hoB
      clear hbB hlt hi
      have g0 : wr.cell? ⟨w.heap.size + 1 + 1 + 1, 0, none⟩ = some (.int .u64 (lw (a * b) 0 : Nat)) := hwB.at (by omega); have g1 : wr.cell? ⟨w.heap.size + 1 + 1 + 1, 1, none⟩ = some (.int .u64 (lw (a * b) 1 : Nat)) := hwB.at (by omega); have g2 : wr.cell? ⟨w.heap.size + 1 + 1 + 1, 2, none⟩ = some (.int .u64 (lw (a * b) 2 : Nat)) := hwB.at (by omega); have g3 : wr.cell? ⟨w.heap.size + 1 + 1 + 1, 3, none⟩ = some (.int .u64 (lw (a * b) 3 : Nat)) := hwB.at (by omega); have g4 : wr.cell? ⟨w.heap.size + 1 + 1 + 1, 4, none⟩ = some (.int .u64 (lw (a * b) 4 : Nat)) := hwB.at (by omega); have g5 : wr.cell? ⟨w.heap.size + 1 + 1 + 1, 5, none⟩ = some (.int .u64 (lw (a * b) 5 : Nat)) := hwB.at (by omega); have g6 : wr.cell? ⟨w.heap.size + 1 + 1 + 1, 6, none⟩ = some (.int .u64 (lw (a * b) 6 : Nat)) := hwB.at (by omega); have g7 : wr.cell? ⟨w.heap.size + 1 + 1 + 1, 7, none⟩ = some (.int .u64 (lw (a * b) 7 : Nat)) := hwB.at (by omega)
      go_wp2_with (go_at_call 28; go_must (refine (reduced_any (a * b) (256 + 256) (by omega) (by omega) HN.out _).mono ?_; rintro e w2 ⟨rfl, hb⟩; have hO2 := hoB.below' hb; have oc := hO2.cell; have of := hO2.frozen; have hbel2 := Below.call hbl hb; clear hb hO2))
      exact bodyPost_ret (v := .agg #[.int .u64 (lw (a * b % Lq) 0 : Nat), .int .u64 (lw (a * b % Lq) 1 : Nat), .int .u64 (lw (a * b % Lq) 2 : Nat), .int .u64 (lw (a * b % Lq) 3 : Nat)]) (by simp [results, Try.results21, go_sem, oc]) rfl ⟨rfl, (by repeat (first | (with_reducible refine Below.alloc' ?_ _) | (with_reducible refine Below.drew ?_) | (with_reducible refine below_drewN ?_ _) | ((with_reducible refine Below.setCell ?_ ?_ _); rotate_left; (focus (first | exact Nat.le_refl _ | (simp; done) | (simp; omega)))) | (with_reducible assumption) | (with_reducible exact Below.refl _ _)))⟩
/-- What is read strictly: its number, if there are 32 bytes, and it is below L. -/
def scOk (l : List UInt8) : Bool := decide (l.length = 32) && decide (leN l < Lq)
theorem sc_back (l : List UInt8) (h : l.length = 32) : (leB 32 (leN l % Lq) = l) ↔ leN l < Lq := by
  have hL : Lq < 2 ^ (8 * 32) := Lq_lt
  have h1 : leN l < 2 ^ (8 * 32) := by have := leN_lt l; rw [h, p256] at this; exact this
  have h2 := leB_leN l
  rw [h] at h2
  have hm := Nat.mod_lt (leN l) (show 0 < Lq by unfold Lq; omega)
  constructor
  · intro e
    have e2 : leN l % Lq = leN l := leB_inj (Nat.lt_trans hm hL) h1 (e.trans h2.symm)
    rw [← e2]; exact hm
  · intro e; rw [Nat.mod_eq_of_lt e]; exact h2
theorem buildS (w : World) : (Instr.build 27 #[]).run Try.prog w = .ok (.agg #[.int .u64 0, .int .u64 0, .int .u64 0, .int .u64 0]) w := by kernel_rfl
set_option maxHeartbeats 1000000 in
theorem strict_yes {a : Option Addr} {n cap : Nat} {l : List UInt8} (w : World) (h : RdB w a n cap l) (hok : scOk l = true) :
    Calls Try.prog 11 #[.slice a n cap] w fun e w' => e = .returned (.tuple #[.agg #[.int .u64 (lw (leN l) 0 : Nat), .int .u64 (lw (leN l) 1 : Nat), .int .u64 (lw (leN l) 2 : Nat), .int .u64 (lw (leN l) 3 : Nat)], .int .i64 0]) ∧ Below w.heap.size w w' := by
  simp only [scOk, Bool.and_eq_true, decide_eq_true_eq] at hok
  obtain ⟨h32, hlt⟩ := hok
  have hn := h.hlen
  obtain rfl : n = 32 := by omega
  have HQ : Hid (decide (leB 32 (leN l % Lq) = l) = true) := Lib.hid (by simpa using (sc_back l h32).2 hlt)
  have e1 : leN (first l 64) % Lq = leN l := by rw [leN_first, List.take_of_length_le (by omega), Nat.mod_eq_of_lt hlt]
  have hW := fun w h => wide_any (a := a) (n := 32) (cap := cap) (l := l) w h
  rw [e1] at hW
  rw [Nat.mod_eq_of_lt hlt] at HQ
  have HW := Lib.hid hW
  clear hn e1 hW h32 hlt
  go_enter Try.func11, Try.ntmps11
  go_wp2_with (first | (go_at_call 9; go_must (refine (HW.out _ (h.below (by repeat (first | (with_reducible refine Below.alloc' ?_ _) | (with_reducible refine Below.drew ?_) | (with_reducible refine below_drewN ?_ _) | ((with_reducible refine Below.setCell ?_ ?_ _); rotate_left; (focus (first | exact Nat.le_refl _ | (simp; done) | (simp; omega)))) | (with_reducible assumption) | (with_reducible exact Below.refl _ _))))).mono ?_; rintro e w1 ⟨rfl, hb1⟩; have hO1 := (Blk.new w _ _).below' hb1; have oc := hO1.cell; have of := hO1.frozen; have hbel1 : Below w.heap.size w w1 := Below.call (by repeat (first | (with_reducible refine Below.alloc' ?_ _) | (with_reducible refine Below.drew ?_) | (with_reducible refine below_drewN ?_ _) | ((with_reducible refine Below.setCell ?_ ?_ _); rotate_left; (focus (first | exact Nat.le_refl _ | (simp; done) | (simp; omega)))) | (with_reducible assumption) | (with_reducible exact Below.refl _ _))) hb1; clear hb1))     | (go_at_call 10; go_must (refine (bytes_any (leN l) _).mono ?_; rintro e w2 ⟨g, gc, rfl, hg, hR, hb2⟩; have hS2 := (Blk.new w1 _ _).below' hb2; have hO2 := (hO1.alloc _).below' hb2; have hbel2 := Below.call (show Below w.heap.size w _ from (by repeat (first | (with_reducible refine Below.alloc' ?_ _) | (with_reducible refine Below.drew ?_) | (with_reducible refine below_drewN ?_ _) | ((with_reducible refine Below.setCell ?_ ?_ _); rotate_left; (focus (first | exact Nat.le_refl _ | (simp; done) | (simp; omega)))) | (with_reducible assumption) | (with_reducible exact Below.refl _ _)))) hb2; clear hb2 hO1 hbel1))     | (go_at_call 30; go_must (refine (equal_any _ hR (h.below hbel2)).mono ?_; rintro e w3 ⟨rfl, hb3⟩; rw [HQ.out]; have hO3 := hO2.below' hb3; have hS3 := hS2.below' hb3; have hbel3 := Below.call hbel2 hb3; clear oc of hO2 hS2 hbel2 hb3 hR; have oc := hO3.cell; have of := hO3.frozen; have sc := hS3.cell)))
  exact bodyPost_ret (v := .tuple #[.agg #[.int .u64 (lw (leN l) 0 : Nat), .int .u64 (lw (leN l) 1 : Nat), .int .u64 (lw (leN l) 2 : Nat), .int .u64 (lw (leN l) 3 : Nat)], .int .i64 0]) (by simp [results, Try.results11, go_sem, oc]) rfl ⟨rfl, (by repeat (first | (with_reducible refine Below.alloc' ?_ _) | (with_reducible refine Below.drew ?_) | (with_reducible refine below_drewN ?_ _) | ((with_reducible refine Below.setCell ?_ ?_ _); rotate_left; (focus (first | exact Nat.le_refl _ | (simp; done) | (simp; omega)))) | (with_reducible assumption) | (with_reducible exact Below.refl _ _)))⟩
set_option maxHeartbeats 1000000 in
theorem strict_no {a : Option Addr} {n cap : Nat} {l : List UInt8} (w : World) (h : RdB w a n cap l) (hok : scOk l = false) :
    Calls Try.prog 11 #[.slice a n cap] w fun e w' => e = .returned (.tuple #[.agg #[.int .u64 (lw 0 0 : Nat), .int .u64 (lw 0 1 : Nat), .int .u64 (lw 0 2 : Nat), .int .u64 (lw 0 3 : Nat)], .int .i64 2]) ∧ Below w.heap.size w w' := by
  have hz : ∀ i, lw 0 i = 0 := fun i => by unfold lw; rw [Nat.zero_div]
  rw [hz, hz, hz, hz]
  clear hz
  have hbS := buildS
  by_cases h32 : l.length = 32
  · have hlt : ¬ leN l < Lq := by
      intro hh; simp only [scOk, h32, hh, decide_true, Bool.and_self] at hok; cases hok
    have hn := h.hlen
    obtain rfl : n = 32 := by omega
    have HQ : Hid (decide (leB 32 (leN l % Lq) = l) = false) := Lib.hid (by simpa using fun e => hlt ((sc_back l h32).1 e))
    have e1 : leN (first l 64) % Lq = leN l % Lq := by rw [leN_first, List.take_of_length_le (by omega)]
    have hW := fun w h => wide_any (a := a) (n := 32) (cap := cap) (l := l) w h
    rw [e1] at hW
    generalize leN l % Lq = x at *
    have HW := Lib.hid hW
    clear hn e1 hW h32 hlt
    go_enter Try.func11, Try.ntmps11
    go_wp2_with (first | (go_at_call 9; go_must (refine (HW.out _ (h.below (by repeat (first | (with_reducible refine Below.alloc' ?_ _) | (with_reducible refine Below.drew ?_) | (with_reducible refine below_drewN ?_ _) | ((with_reducible refine Below.setCell ?_ ?_ _); rotate_left; (focus (first | exact Nat.le_refl _ | (simp; done) | (simp; omega)))) | (with_reducible assumption) | (with_reducible exact Below.refl _ _))))).mono ?_; rintro e w1 ⟨rfl, hb1⟩; have hO1 := (Blk.new w _ _).below' hb1; have oc := hO1.cell; have of := hO1.frozen; have hbel1 : Below w.heap.size w w1 := Below.call (by repeat (first | (with_reducible refine Below.alloc' ?_ _) | (with_reducible refine Below.drew ?_) | (with_reducible refine below_drewN ?_ _) | ((with_reducible refine Below.setCell ?_ ?_ _); rotate_left; (focus (first | exact Nat.le_refl _ | (simp; done) | (simp; omega)))) | (with_reducible assumption) | (with_reducible exact Below.refl _ _))) hb1; clear hb1))       | (go_at_call 10; go_must (refine (bytes_any x _).mono ?_; rintro e w2 ⟨g, gc, rfl, hg, hR, hb2⟩; have hS2 := (Blk.new w1 _ _).below' hb2; have hO2 := (hO1.alloc _).below' hb2; have hbel2 := Below.call (show Below w.heap.size w _ from (by repeat (first | (with_reducible refine Below.alloc' ?_ _) | (with_reducible refine Below.drew ?_) | (with_reducible refine below_drewN ?_ _) | ((with_reducible refine Below.setCell ?_ ?_ _); rotate_left; (focus (first | exact Nat.le_refl _ | (simp; done) | (simp; omega)))) | (with_reducible assumption) | (with_reducible exact Below.refl _ _)))) hb2; clear hb2 hO1 hbel1))       | (go_at_call 30; go_must (refine (equal_any _ hR (h.below hbel2)).mono ?_; rintro e w3 ⟨rfl, hb3⟩; rw [HQ.out]; have hO3 := hO2.below' hb3; have hS3 := hS2.below' hb3; have hbel3 := Below.call hbel2 hb3; clear oc of hO2 hS2 hbel2 hb3 hR; have oc := hO3.cell; have of := hO3.frozen; have sc := hS3.cell)))
    exact bodyPost_ret (v := .tuple #[.agg #[.int .u64 0, .int .u64 0, .int .u64 0, .int .u64 0], .int .i64 2]) (by simp [results, Try.results11, go_sem, oc]) rfl ⟨rfl, (by repeat (first | (with_reducible refine Below.alloc' ?_ _) | (with_reducible refine Below.drew ?_) | (with_reducible refine below_drewN ?_ _) | ((with_reducible refine Below.setCell ?_ ?_ _); rotate_left; (focus (first | exact Nat.le_refl _ | (simp; done) | (simp; omega)))) | (with_reducible assumption) | (with_reducible exact Below.refl _ _)))⟩
  · have hne : ((n : Int) != 32) = true := by have := h.hlen; simp; omega
    clear h
    go_enter Try.func11, Try.ntmps11
    go_wp2
    exact bodyPost_ret (v := .tuple #[.agg #[.int .u64 0, .int .u64 0, .int .u64 0, .int .u64 0], .int .i64 2]) (by simp [results, Try.results11, go_sem]) rfl ⟨rfl, (by repeat (first | (with_reducible refine Below.alloc' ?_ _) | (with_reducible refine Below.drew ?_) | (with_reducible refine below_drewN ?_ _) | ((with_reducible refine Below.setCell ?_ ?_ _); rotate_left; (focus (first | exact Nat.le_refl _ | (simp; done) | (simp; omega)))) | (with_reducible assumption) | (with_reducible exact Below.refl _ _)))⟩
end Go.Proofs.Ytbgfokdchpcifaa
