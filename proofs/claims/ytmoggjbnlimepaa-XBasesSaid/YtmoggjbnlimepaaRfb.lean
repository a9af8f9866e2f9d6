/- The walks of the document's own field, second part: which is less. -/
import Derived.Test.YtmoggjbnlimepaaRfa
import Derived.Deep.DeepCutAuto
namespace Go.Proofs.Ytmoggjbnlimepaa
open Go.RowKit

theorem top16 (x : Nat) (h : x < 65536 ^ 16) : x / 65536 ^ 16 = Pq / 65536 ^ 16 := by
  rw [Nat.div_eq_of_lt h, Nat.div_eq_of_lt (by decide +kernel)]
set_option maxHeartbeats 1000000 in
theorem rleast_any (x : Nat) (hx : x < 65536 ^ 16) (w : World) : Calls Try.prog 53 #[.agg #[.int .u64 (d16 x 0 : Nat), .int .u64 (d16 x 1 : Nat), .int .u64 (d16 x 2 : Nat), .int .u64 (d16 x 3 : Nat), .int .u64 (d16 x 4 : Nat), .int .u64 (d16 x 5 : Nat), .int .u64 (d16 x 6 : Nat), .int .u64 (d16 x 7 : Nat), .int .u64 (d16 x 8 : Nat), .int .u64 (d16 x 9 : Nat), .int .u64 (d16 x 10 : Nat), .int .u64 (d16 x 11 : Nat), .int .u64 (d16 x 12 : Nat), .int .u64 (d16 x 13 : Nat), .int .u64 (d16 x 14 : Nat), .int .u64 (d16 x 15 : Nat)]] w fun e w' => e = .returned (.bool (decide (x < Pq))) ∧ Below w.heap.size w w' := by
  have HT := Lib.hid (top16 x hx)
  clear hx
  go_enter Try.func53, Try.ntmps53
  go_upto_region 2 with (go_at_call 47; go_must (refine (rprime_any _).mono ?_; rintro e w1 ⟨rfl, hb⟩; have hA := (Blk.new w #[.int .u64 (d16 x 0 : Nat),.int .u64 (d16 x 1 : Nat),.int .u64 (d16 x 2 : Nat),.int .u64 (d16 x 3 : Nat),.int .u64 (d16 x 4 : Nat),.int .u64 (d16 x 5 : Nat),.int .u64 (d16 x 6 : Nat),.int .u64 (d16 x 7 : Nat),.int .u64 (d16 x 8 : Nat),.int .u64 (d16 x 9 : Nat),.int .u64 (d16 x 10 : Nat),.int .u64 (d16 x 11 : Nat),.int .u64 (d16 x 12 : Nat),.int .u64 (d16 x 13 : Nat),.int .u64 (d16 x 14 : Nat),.int .u64 (d16 x 15 : Nat)] 54).below' hb; have hbel : Below w.heap.size w w1 := Below.call (by repeat (first | (with_reducible refine Below.alloc' ?_ _) | (with_reducible refine Below.drew ?_) | (with_reducible refine below_drewN ?_ _) | ((with_reducible refine Below.setCell ?_ ?_ _); rotate_left; (focus (first | exact Nat.le_refl _ | (simp; done) | (simp; omega)))) | (with_reducible assumption) | (with_reducible exact Below.refl _ _))) hb; clear hb))
  refine wp_gen (fun W => Blk W w.heap.size (row 16 (fV (d16 x))) 54 ∧ Blk W w1.heap.size (row 16 (fV primeF)) 54 ∧ Below w.heap.size w W) ?_ (fun W0 hW => ?_)
  · rw [row16, row16]
    exact ⟨hA.alloc _, Blk.new w1 _ _, (by repeat (first | (with_reducible refine Below.alloc' ?_ _) | (with_reducible refine Below.drew ?_) | (with_reducible refine below_drewN ?_ _) | ((with_reducible refine Below.setCell ?_ ?_ _); rotate_left; (focus (first | exact Nat.le_refl _ | (simp; done) | (simp; omega)))) | (with_reducible assumption) | (with_reducible exact Below.refl _ _)))⟩
  clear hA hbel
  generalize w1.heap.size = g at *
  obtain ⟨hA, hP, hbel⟩ := hW
  clear w1
  go_wp2
  go_loopw [4] (fun i wr => ∃ k : Nat, k ≤ 16 ∧ i = .int .i64 ((k : Int) - 1) ∧ x / 65536 ^ k = Pq / 65536 ^ k ∧ Blk wr w.heap.size (row 16 (fV (d16 x))) 54 ∧ Blk wr g (row 16 (fV primeF)) 54 ∧ Below w.heap.size w wr) (fun i _ => (intOf i + 1).toNat)
  case atStart => exact ⟨16, by omega, rfl, HT.out, hA, hP, hbel⟩
  case round =>
    clear hA hP hbel W0
    obtain ⟨k, hk, rfl, hq, hA, hP, hbel⟩ := hrel
    by_cases hk0 : k = 0
    · subst hk0
      rw [Nat.pow_zero, Nat.div_one, Nat.div_one] at hq
      have HD : Hid (decide (x < Pq) = false) := Lib.hid (by rw [hq]; simp)
      clear hq hA hP
      rw [show (((0 : Nat) : Int) - 1) = -1 from rfl]
      go_wp2
      go_ret
      exact ⟨ret_bool HD.out.symm, hbel⟩
    · obtain ⟨j, rfl⟩ : ∃ j, k = j + 1 := ⟨k - 1, by omega⟩
      rw [show (((j + 1 : Nat) : Int) - 1) = (j : Int) from by omega]
      have hj : j < 16 := by omega
      have ca : wr.cell? ⟨w.heap.size, j, none⟩ = some (.int .u64 (d16 x j : Nat)) := hA.at hj
      have cp : wr.cell? ⟨g, j, none⟩ = some (.int .u64 (d16 Pq j : Nat)) := by have := hP.at hj; rw [this]; unfold fV; rw [primeF_d16 ⟨j, hj⟩]
      have HA := Lib.hid hA; have HP := Lib.hid hP; have HQ := Lib.hid hq
      clear hA hP hq
      by_cases he : d16 x j = d16 Pq j
      · have HE := Lib.hid (same16 x Pq j HQ.out he)
        have hne : ((d16 x j : Nat) != (d16 Pq j : Nat)) = false := by simp [he]
        have hneI : (((d16 x j : Nat) : Int) != ((d16 Pq j : Nat) : Int)) = false := by simp [he]
        generalize ((d16 x j : Nat) : Int) = A at *
        generalize ((d16 Pq j : Nat) : Int) = B at *
        clear he hne
        go_wp2
        go_region
        go_wp2
        go_roundw
        case rel => exact ⟨j, by omega, rfl, HE.out, HA.out, HP.out, (by repeat (first | (with_reducible refine Below.alloc' ?_ _) | (with_reducible refine Below.drew ?_) | (with_reducible refine below_drewN ?_ _) | ((with_reducible refine Below.setCell ?_ ?_ _); rotate_left; (focus (first | exact Nat.le_refl _ | (simp; done) | (simp; omega)))) | (with_reducible assumption) | (with_reducible exact Below.refl _ _)))⟩
        case measure => simp [intOf] <;> omega
      · have HE := Lib.hid (less16 x Pq j HQ.out he)
        have hneI : (((d16 x j : Nat) : Int) != ((d16 Pq j : Nat) : Int)) = true := by simp; omega
        have hlt : decide (((d16 x j : Nat) : Int) < ((d16 Pq j : Nat) : Int)) = decide (d16 x j < d16 Pq j) := by simp
        obtain ⟨q, hq⟩ : ∃ q, decide (x < Pq) = q := ⟨_, rfl⟩
        rw [hq] at HE
        rw [← HE.out] at hlt
        have HF := Lib.hid hq
        generalize ((d16 x j : Nat) : Int) = A at *
        generalize ((d16 Pq j : Nat) : Int) = B at *
        clear he hq HE
        go_wp2
        go_region
        go_wp2
        go_region
        go_wp2
        go_ret
        exact ⟨ret_bool HF.out.symm, (by repeat (first | (with_reducible refine Below.alloc' ?_ _) | (with_reducible refine Below.drew ?_) | (with_reducible refine below_drewN ?_ _) | ((with_reducible refine Below.setCell ?_ ?_ _); rotate_left; (focus (first | exact Nat.le_refl _ | (simp; done) | (simp; omega)))) | (with_reducible assumption) | (with_reducible exact Below.refl _ _)))⟩
end Go.Proofs.Ytmoggjbnlimepaa
