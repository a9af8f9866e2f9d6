/- The statements' Round. -/
import Derived.Test.YtbgfokdchpcifaaFlat
namespace Go.Proofs.Ytbgfokdchpcifaa
open Go.RowKit

theorem tmodM (k : Int) (m : Nat) (hm : 0 < m) : (k.tmod m < 0 → k.tmod m + m = k % m) ∧ (¬ k.tmod m < 0 → k.tmod m = k % m) ∧ k.tmod m < m ∧ -(m : Int) < k.tmod m := by
  have e1 := Int.tmod_eq_emod (a := k) (b := (m : Int))
  have h1 := Int.emod_nonneg k (show (m : Int) ≠ 0 by omega)
  have h2 := Int.emod_lt_of_pos k (show (0 : Int) < m by omega)
  have e : ((Int.natAbs (m : Int) : Nat) : Int) = m := by simp
  by_cases c : 0 ≤ k ∨ (m : Int) ∣ k
  · rw [if_pos c] at e1
    refine ⟨?_, ?_, ?_, ?_⟩ <;> omega
  · rw [if_neg c, e] at e1
    have : k % (m : Int) ≠ 0 := fun h => c (.inr (Int.dvd_of_emod_eq_zero h))
    refine ⟨?_, ?_, ?_, ?_⟩ <;> omega
set_option maxHeartbeats 400000 in
theorem round_any (k r : Int) (m : Nat) (hm : 0 < m) (hm2 : m ≤ 1000000) (hr : k % (m : Int) = r) (w : World) : Calls Try.prog 15 #[.int .i64 k, .int .i64 (m : Nat)] w fun e w' => e = .returned (.int .i64 r) ∧ w = w' := by
  obtain ⟨h1, h2, h3, h4⟩ := tmodM k m hm
  rw [hr] at h1 h2
  have h5 : 0 ≤ r ∧ r < m := by rw [← hr]; exact ⟨Int.emod_nonneg k (by omega), Int.emod_lt_of_pos k (by omega)⟩
  obtain ⟨M, hM⟩ : ∃ M : Int, M = (m : Int) := ⟨_, rfl⟩
  rw [← hM] at h1 h2 h3 h4 h5
  have hM0 : ¬ M = 0 := by omega
  have hM1 : M ≤ 1000000 := by omega
  have hM2 : 0 < M := by omega
  rw [← hM]
  clear hM hr hm hm2
  by_cases hn : k.tmod M < 0
  · have e := h1 hn
    have d : decide (k.tmod M < 0) = true := decide_eq_true hn
    have hw : IntKind.i64.wrap (k.tmod M) = k.tmod M := by rw [IntKind.wrap_i64]; omega
    have hw2 : IntKind.i64.wrap (k.tmod M + M) = k.tmod M + M := by rw [IntKind.wrap_i64]; omega
    have HX : Hid (k.tmod M + M = r) := Lib.hid e
    clear h1 h2 hn e h3 h4 h5
    go_enter Try.func15, Try.ntmps15
    go_wp2
    go_ret
    exact ⟨ret_int HX.out, rfl⟩
  · have e := h2 hn
    have d : decide (k.tmod M < 0) = false := decide_eq_false hn
    have hw : IntKind.i64.wrap (k.tmod M) = k.tmod M := by rw [IntKind.wrap_i64]; omega
    have HX : Hid (k.tmod M = r) := Lib.hid e
    clear h1 h2 hn e h3 h4 h5
    go_enter Try.func15, Try.ntmps15
    go_wp2
    go_ret
    exact ⟨ret_int HX.out, rfl⟩
end Go.Proofs.Ytbgfokdchpcifaa
