/- Plain: other forms of a number mod p: the highest bit set; p added. And Round. -/
import Derived.Test.YtfjaplggohflbaaFaw
namespace Go.Proofs.Ytfjaplggohflbaa
open Go.RowKit

theorem hi_bit {x : Nat} (hx : x < Pq) : (leB 32 x).set 31 ((leB 32 x).getD 31 0 ||| 128) = leB 32 (x + 57896044618658097711785492504343953926634992332820282019728792003956564819968) := by
  have h31 : (leB 32 x).getD 31 0 = UInt8.ofNat (x / 2 ^ 248) := by
    simp [leB]
  have hd : x / 2 ^ 248 < 128 := by unfold Pq at hx; simp only [Nat.reducePow]; omega
  apply List.ext_getElem
  · simp [leB_len]
  · intro i h1 h2
    have hi : i < 32 := by simpa [leB_len] using h2
    rw [leB_get, List.getElem_set]
    by_cases h : 31 = i
    · subst h
      rw [if_pos rfl, h31]
      apply UInt8.toNat_inj.1
      have e1 : (x + 57896044618658097711785492504343953926634992332820282019728792003956564819968) / 2 ^ (8 * 31) = x / 2 ^ 248 + 128 := by simp only [Nat.reduceMul, Nat.reducePow]; omega
      rw [e1]
      generalize x / 2 ^ 248 = y at *
      have h4 := Nat.shiftLeft_add_eq_or_of_lt (show y < 2 ^ 7 by omega) 1
      rw [show (1 : Nat) <<< 7 = 128 from rfl] at h4
      simp
      rw [Nat.mod_eq_of_lt (show y < 256 by omega), Nat.mod_eq_of_lt (show y + 128 < 256 by omega), Nat.or_comm]
      omega
    · rw [if_neg h, leB_get, ← ofNat_mod, ← ofNat_mod (_ / _)]
      congr 1
      have hi' : i < 31 := by omega
      have : i = 0 ∨ i = 1 ∨ i = 2 ∨ i = 3 ∨ i = 4 ∨ i = 5 ∨ i = 6 ∨ i = 7 ∨ i = 8 ∨ i = 9 ∨ i = 10 ∨ i = 11 ∨ i = 12 ∨ i = 13 ∨ i = 14 ∨ i = 15 ∨ i = 16 ∨ i = 17 ∨ i = 18 ∨ i = 19 ∨ i = 20 ∨ i = 21 ∨ i = 22 ∨ i = 23 ∨ i = 24 ∨ i = 25 ∨ i = 26 ∨ i = 27 ∨ i = 28 ∨ i = 29 ∨ i = 30 := by omega
      rcases this with rfl | rfl | rfl | rfl | rfl | rfl | rfl | rfl | rfl | rfl | rfl | rfl | rfl | rfl | rfl | rfl | rfl | rfl | rfl | rfl | rfl | rfl | rfl | rfl | rfl | rfl | rfl | rfl | rfl | rfl | rfl <;> simp only [Nat.reduceMul, Nat.reducePow] <;> omega
theorem big_not {n : Nat} (h : Pq ≤ n) (h2 : n < 2 ^ (8 * 32)) : feOk (leB 32 n) = false := by
  have : ¬ n < Pq := by omega
  simp [feOk, leB_len, leN_leB, Nat.mod_eq_of_lt h2, this]
theorem hi_no {x : F} : feOk (leB 32 (x.val + 57896044618658097711785492504343953926634992332820282019728792003956564819968)) = false := by
  have := x.isLt
  exact big_not (by unfold Pq; omega) (by unfold Pq at this; simp only [Nat.reduceMul, Nat.reducePow]; omega)
theorem hi_same {x : F} : feF (leB 32 (x.val + 57896044618658097711785492504343953926634992332820282019728792003956564819968)) = x := by
  have := x.isLt
  apply F.ext'
  unfold feF
  rw [fn_val, leN_first, List.take_of_length_le (by rw [leB_len]; omega), leN_leB]
  unfold Pq at *
  simp only [Nat.reduceMul, Nat.reducePow]
  omega
theorem p_bytes : ∀ r : Fin 19, (leB 32 (Pq - 1)).set 0 (UInt8.ofNat (237 + r.val)) = leB 32 (Pq + r.val) := by decide +kernel
theorem p_no {r : Nat} (h : r < 19) : feOk (leB 32 (Pq + r)) = false := big_not (by omega) (by unfold Pq; simp only [Nat.reduceMul, Nat.reducePow]; omega)
theorem p_same {r : Nat} (h : r < 19) : feF (leB 32 (Pq + r)) = fn r := by
  apply F.ext'
  unfold feF
  rw [fn_val, fn_val, leN_first, List.take_of_length_le (by rw [leB_len]; omega), leN_leB]
  unfold Pq
  simp only [Nat.reduceMul, Nat.reducePow]
  omega
theorem less_one : fn 0 - fn 1 = fn (Pq - 1) := by decide +kernel
theorem tmod19 (k : Int) : (k.tmod 19 < 0 → k.tmod 19 + 19 = k % 19) ∧ (¬ k.tmod 19 < 0 → k.tmod 19 = k % 19) := by
  have h := Int.tmod_eq_emod (a := k) (b := 19)
  by_cases c : 0 ≤ k ∨ (19 : Int) ∣ k
  · rw [if_pos c] at h
    omega
  · rw [if_neg c] at h
    have e : ((Int.natAbs 19 : Nat) : Int) = 19 := rfl
    rw [e] at h
    omega
theorem round19 (k : Int) (w : World) : Calls Try.prog 20 #[.int .i64 k, .int .i64 19] w fun e w' => e = .returned (.int .i64 ((k % 19).toNat : Nat)) ∧ w = w' := by
  obtain ⟨h1, h2⟩ := tmod19 k
  have h3 : 0 ≤ k % 19 ∧ k % 19 < 19 := by omega
  have HE : Hid ((((k % 19).toNat : Nat) : Int) = k % 19) := Lib.hid (by omega)
  by_cases hn : k.tmod 19 < 0
  · have e := h1 hn
    have d : decide (k.tmod 19 < 0) = true := decide_eq_true hn
    have hw : IntKind.i64.wrap (k.tmod 19) = k.tmod 19 := by rw [IntKind.wrap_i64]; omega
    have hw2 : IntKind.i64.wrap (k.tmod 19 + 19) = k.tmod 19 + 19 := by rw [IntKind.wrap_i64]; omega
    have HX : Hid (k.tmod 19 + 19 = k % 19) := Lib.hid e
    clear h1 h2 hn e h3
    go_enter Try.func20, Try.ntmps20
    go_wp2
    go_ret
    exact ⟨ret_int (by rw [HE.out]; exact HX.out), rfl⟩
  · have e := h2 hn
    have d : decide (k.tmod 19 < 0) = false := decide_eq_false hn
    have hw : IntKind.i64.wrap (k.tmod 19) = k.tmod 19 := by rw [IntKind.wrap_i64]; omega
    have HX : Hid (k.tmod 19 = k % 19) := Lib.hid e
    clear h1 h2 hn e h3
    go_enter Try.func20, Try.ntmps20
    go_wp2
    go_ret
    exact ⟨ret_int (by rw [HE.out]; exact HX.out), rfl⟩
end Go.Proofs.Ytfjaplggohflbaa
