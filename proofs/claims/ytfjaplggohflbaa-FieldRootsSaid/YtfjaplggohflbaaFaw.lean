/- What chapter 5's statements share: what is fixed, few, the plain laws of the field. -/
import Derived.Test.YtfjaplggohflbaaFrt
namespace Go.Proofs.Ytfjaplggohflbaa
open Go.RowKit

theorem fsmall0 (w : World) : Calls Try.prog 18 #[.int .u64 0] w fun e w' => ∃ h, e = .returned (.agg #[.int .u64 (h 0 : Nat), .int .u64 (h 1 : Nat), .int .u64 (h 2 : Nat), .int .u64 (h 3 : Nat), .int .u64 (h 4 : Nat)]) ∧ FF h (fn 0) ∧ Below w.heap.size w w' := fsmallM (n := 0) (by omega) w
theorem fsmall1 (w : World) : Calls Try.prog 18 #[.int .u64 1] w fun e w' => ∃ h, e = .returned (.agg #[.int .u64 (h 0 : Nat), .int .u64 (h 1 : Nat), .int .u64 (h 2 : Nat), .int .u64 (h 3 : Nat), .int .u64 (h 4 : Nat)]) ∧ FF h (fn 1) ∧ Below w.heap.size w w' := fsmallM (n := 1) (by omega) w
theorem fsmall2 (w : World) : Calls Try.prog 18 #[.int .u64 2] w fun e w' => ∃ h, e = .returned (.agg #[.int .u64 (h 0 : Nat), .int .u64 (h 1 : Nat), .int .u64 (h 2 : Nat), .int .u64 (h 3 : Nat), .int .u64 (h 4 : Nat)]) ∧ FF h (fn 2) ∧ Below w.heap.size w w' := fsmallM (n := 2) (by omega) w
theorem fn0 : fn 0 = 0 := rfl
theorem fn1 : fn 1 = 1 := rfl
theorem fn2_ne : fn 2 ≠ 0 := by intro h; exact absurd (congrArg Fin.val h) (by decide)
theorem pl_awake : finv (fn 2) * fn 2 = fn 1 := by
  have h := finv_mul fn2_ne
  rw [fn1]; grind
theorem pl_one_two : fn 1 ≠ fn 2 := by intro h; exact absurd (congrArg Fin.val h) (by decide)
theorem one_byte (w : World) (g : Nat) (h : Blk w g [.int .u8 1] 5) : RdB w (some ⟨g, 0, none⟩) 1 1 [1] := RdB.blk [] h rfl (by omega) (by unfold maxLen; omega)
set_option maxHeartbeats 1000000 in
theorem law5awake_any (w : World) : Calls Try.prog 12 #[] w fun e w' => e = .returned (.bool true) ∧ Below w.heap.size w w' := by
  go_enter Try.func12, Try.ntmps12
  go_upto_region 2 with ((go_at_call 17; go_must (refine (fstrict_no _ (one_byte _ _ (Blk.new w #[.int .u8 1] 5)) (by rfl)).mono ?_; rintro e w1 ⟨f, rfl, hf, hb⟩; have hbel : Below w.heap.size w w1 := Below.call (by repeat (first | (with_reducible refine Below.alloc' ?_ _) | (with_reducible refine Below.drew ?_) | (with_reducible refine below_drewN ?_ _) | ((with_reducible refine Below.setCell ?_ ?_ _); rotate_left; (focus (first | exact Nat.le_refl _ | (simp; done) | (simp; omega)))) | (with_reducible assumption) | (with_reducible exact Below.refl _ _))) hb; clear hb)))
  refine wp_gen (fun W => Below w.heap.size w W) (by repeat (first | (with_reducible refine Below.alloc' ?_ _) | (with_reducible refine Below.drew ?_) | (with_reducible refine below_drewN ?_ _) | ((with_reducible refine Below.setCell ?_ ?_ _); rotate_left; (focus (first | exact Nat.le_refl _ | (simp; done) | (simp; omega)))) | (with_reducible assumption) | (with_reducible exact Below.refl _ _))) (fun W0 hW => ?_)
  clear hbel
  go_wp2_with ((first | (go_at_call 18; first | ((with_reducible refine (fsmall1 _).mono ?_); rintro e ws ⟨m, rfl, hm, hb⟩; have hW' := Below.call hW hb; clear hW hb; have hW := hW'; clear hW') | ((with_reducible refine (fsmall2 _).mono ?_); rintro e ws ⟨m, rfl, hm, hb⟩; have hW' := Below.call hW hb; clear hW hb; have hW := hW'; clear hW'))     | (go_at_call 21; (with_reducible refine (finvM (by assumption) _).mono ?_); rintro e ws ⟨m, rfl, hm, hb⟩; have hW' := Below.call hW hb; clear hW hb; have hW := hW'; clear hW')     | (go_at_call 22; (with_reducible refine (fmulM (by assumption) (by assumption) _).mono ?_); rintro e ws ⟨m, rfl, hm, hb⟩; have hW' := Below.call hW hb; clear hW hb; have hW := hW'; clear hW')     | (go_at_call 15; first | ((with_reducible refine (fsameT (by assumption) (by assumption) (by with_reducible exact pl_awake) _).mono ?_); rintro e ws ⟨rfl, hb⟩; have hW' := Below.call hW hb; clear hW hb; have hW := hW'; clear hW') | ((with_reducible refine (fsameF (by assumption) (by assumption) (by with_reducible exact pl_one_two) _).mono ?_); rintro e ws ⟨rfl, hb⟩; have hW' := Below.call hW hb; clear hW hb; have hW := hW'; clear hW'))))
  go_ret
  exact ⟨rfl, hW⟩
theorem few_yes {a b : Option Addr} {n m ca cb : Nat} (hn : n ≤ 100) (hm : m ≤ 100) (w : World) : Calls Try.prog 11 #[.slice a n ca, .slice b m cb] w fun e w' => e = .returned (.bool true) ∧ Below w.heap.size w w' := by
  have dn : decide ((n : Int) ≤ 100) = true := by simp; omega
  have dm : decide ((m : Int) ≤ 100) = true := by simp; omega
  clear hn hm
  go_enter Try.func11, Try.ntmps11
  go_wp2
  go_ret
  exact ⟨rfl, Below.refl _ _⟩
theorem few_no1 {a b : Option Addr} {n m ca cb : Nat} (hn : ¬ n ≤ 100) (w : World) : Calls Try.prog 11 #[.slice a n ca, .slice b m cb] w fun e w' => e = .returned (.bool false) ∧ Below w.heap.size w w' := by
  have dn : decide ((n : Int) ≤ 100) = false := by simp; omega
  clear hn
  go_enter Try.func11, Try.ntmps11
  go_wp2
  go_ret
  exact ⟨rfl, Below.refl _ _⟩
theorem few_no2 {a b : Option Addr} {n m ca cb : Nat} (hm : ¬ m ≤ 100) (w : World) : Calls Try.prog 11 #[.slice a n ca, .slice b m cb] w fun e w' => e = .returned (.bool false) ∧ Below w.heap.size w w' := by
  by_cases hn : n ≤ 100
  · have dn : decide ((n : Int) ≤ 100) = true := by simp; omega
    have dm : decide ((m : Int) ≤ 100) = false := by simp; omega
    clear hn hm
    go_enter Try.func11, Try.ntmps11
    go_wp2
    go_ret
    exact ⟨rfl, Below.refl _ _⟩
  · exact few_no1 hn w
end Go.Proofs.Ytfjaplggohflbaa
