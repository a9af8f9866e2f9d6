/- The walks of package scalar, third part. -/
import Derived.Test.YtbgfokdchpcifaaScb
namespace Go.Proofs.Ytbgfokdchpcifaa
open Go.RowKit

set_option maxHeartbeats 1000000 in
theorem add_any (a b : Nat) (hab : a + b < 2 ^ 256) (w : World) :
    Calls Try.prog 19 #[.agg #[.int .u64 (lw a 0 : Nat), .int .u64 (lw a 1 : Nat), .int .u64 (lw a 2 : Nat), .int .u64 (lw a 3 : Nat)], .agg #[.int .u64 (lw b 0 : Nat), .int .u64 (lw b 1 : Nat), .int .u64 (lw b 2 : Nat), .int .u64 (lw b 3 : Nat)]] w fun e w' => e = .returned (.agg #[.int .u64 (lw (once (a + b)) 0 : Nat), .int .u64 (lw (once (a + b)) 1 : Nat), .int .u64 (lw (once (a + b)) 2 : Nat), .int .u64 (lw (once (a + b)) 3 : Nat)]) ∧ Below w.heap.size w w' := by
  go_enter Try.func19, Try.ntmps19
  go_wp2_with (first | (go_at_call 36; go_must (refine (plus_any a b _).mono ?_; rintro e w1 ⟨rfl, hb1⟩; obtain ⟨hc1, hf1⟩ := bcell hb1; have hz1 := hb1.size; simp at hz1; have hz1' : w.heap.size + 1 + 1 < w1.heap.size := (by omega); clear hz1))     | (go_at_call 37; go_must (refine (once_any (a + b) hab _).mono ?_; rintro e w2 ⟨rfl, hb2⟩; obtain ⟨hc2, hf2⟩ := bcell hb2)))
  have hbel1 : Below w.heap.size w w1 := Below.call (by repeat (first | (with_reducible refine Below.alloc' ?_ _) | (with_reducible refine Below.drew ?_) | (with_reducible refine below_drewN ?_ _) | ((with_reducible refine Below.setCell ?_ ?_ _); rotate_left; (focus (first | exact Nat.le_refl _ | (simp; done) | (simp; omega)))) | (with_reducible assumption) | (with_reducible exact Below.refl _ _))) hb1
  have hbel2 := Below.call hbel1 hb2
  exact bodyPost_ret (v := .agg #[.int .u64 (lw (once (a + b)) 0 : Nat), .int .u64 (lw (once (a + b)) 1 : Nat), .int .u64 (lw (once (a + b)) 2 : Nat), .int .u64 (lw (once (a + b)) 3 : Nat)]) (by simp [results, Try.results19, go_sem, hc1, hc2, hz1']) rfl ⟨rfl, (by repeat (first | (with_reducible refine Below.alloc' ?_ _) | (with_reducible refine Below.drew ?_) | (with_reducible refine below_drewN ?_ _) | ((with_reducible refine Below.setCell ?_ ?_ _); rotate_left; (focus (first | exact Nat.le_refl _ | (simp; done) | (simp; omega)))) | (with_reducible assumption) | (with_reducible exact Below.refl _ _)))⟩
set_option maxHeartbeats 1000000 in
theorem same_any (a b : Nat) (ha : a < 2 ^ 256) (hb : b < 2 ^ 256) (w : World) :
    Calls Try.prog 12 #[.agg #[.int .u64 (lw a 0 : Nat), .int .u64 (lw a 1 : Nat), .int .u64 (lw a 2 : Nat), .int .u64 (lw a 3 : Nat)], .agg #[.int .u64 (lw b 0 : Nat), .int .u64 (lw b 1 : Nat), .int .u64 (lw b 2 : Nat), .int .u64 (lw b 3 : Nat)]] w fun e w' => e = .returned (.bool (decide (a = b))) ∧ Below w.heap.size w w' := by
  have HE : Hid (([((lw a 0 : Nat) : Int), (lw a 1 : Nat), (lw a 2 : Nat), (lw a 3 : Nat)] == [((lw b 0 : Nat) : Int), (lw b 1 : Nat), (lw b 2 : Nat), (lw b 3 : Nat)]) = decide (a = b)) := by
    refine Lib.hid ?_
    by_cases h : a = b
    · subst h; simp
    · rw [decide_eq_false h, beq_eq_false_iff_ne]
      intro h'
      simp only [List.cons.injEq, Int.natCast_inj, and_true] at h'
      refine h (lw_ext ha hb fun i hi => ?_)
      have hh : i = 0 ∨ i = 1 ∨ i = 2 ∨ i = 3 := by omega
      rcases hh with rfl | rfl | rfl | rfl <;> simp [h']
  have hq : ∀ w : World, (Op.equalIn 10000 25 (.agg #[.int .u64 (lw a 0 : Nat), .int .u64 (lw a 1 : Nat), .int .u64 (lw a 2 : Nat), .int .u64 (lw a 3 : Nat)]) (.agg #[.int .u64 (lw b 0 : Nat), .int .u64 (lw b 1 : Nat), .int .u64 (lw b 2 : Nat), .int .u64 (lw b 3 : Nat)])).run Try.prog w = .ok ([((lw a 0 : Nat) : Int), (lw a 1 : Nat), (lw a 2 : Nat), (lw a 3 : Nat)] == [((lw b 0 : Nat) : Int), (lw b 1 : Nat), (lw b 2 : Nat), (lw b 3 : Nat)]) w :=
    fun w => eqArr w 9998 25 24 4 .u64 Try.underlying25 Try.underlying24 (fun _ => by kernel_rfl) [((lw a 0 : Nat) : Int), (lw a 1 : Nat), (lw a 2 : Nat), (lw a 3 : Nat)] [((lw b 0 : Nat) : Int), (lw b 1 : Nat), (lw b 2 : Nat), (lw b 3 : Nat)] rfl rfl
  generalize ([((lw a 0 : Nat) : Int), (lw a 1 : Nat), (lw a 2 : Nat), (lw a 3 : Nat)] == [((lw b 0 : Nat) : Int), (lw b 1 : Nat), (lw b 2 : Nat), (lw b 3 : Nat)]) = q at *
  go_enter Try.func12, Try.ntmps12
  go_wp2
  go_ret
  exact ⟨by rw [← HE.out]; rfl, (by repeat (first | (with_reducible refine Below.alloc' ?_ _) | (with_reducible refine Below.drew ?_) | (with_reducible refine below_drewN ?_ _) | ((with_reducible refine Below.setCell ?_ ?_ _); rotate_left; (focus (first | exact Nat.le_refl _ | (simp; done) | (simp; omega)))) | (with_reducible assumption) | (with_reducible exact Below.refl _ _)))⟩
set_option maxHeartbeats 1000000 in
theorem scbit_any (n k : Nat) (hk : k < 256) (w : World) :
    Calls Try.prog 13 #[.agg #[.int .u64 (lw n 0 : Nat), .int .u64 (lw n 1 : Nat), .int .u64 (lw n 2 : Nat), .int .u64 (lw n 3 : Nat)], .int .i64 k] w fun e w' => e = .returned (.int .i64 (n / 2 ^ k % 2 : Nat)) ∧ Below w.heap.size w w' := by
  have hx : [Value.int IntKind.u64 (lw n 0 : Nat), Value.int IntKind.u64 (lw n 1 : Nat), Value.int IntKind.u64 (lw n 2 : Nat), Value.int IntKind.u64 (lw n 3 : Nat)][k / 64]? = some (.int .u64 (lw n (k / 64) : Nat)) := by
    have h : k / 64 = 0 ∨ k / 64 = 1 ∨ k / 64 = 2 ∨ k / 64 = 3 := by omega
    rcases h with h | h | h | h <;> rw [h] <;> rfl
  have HB : Hid (bits BinOp.and IntKind.u64 (((lw n (k / 64) : Nat) : Int) / 2 ^ (k % 64)) 1 = (n / 2 ^ k % 2 : Nat)) := by
    refine Lib.hid ?_
    have hq : lw n (k / 64) / 2 ^ (k % 64) < 18446744073709551616 := Nat.lt_of_le_of_lt (Nat.div_le_self _ _) (lw_lt _ _)
    have e : ((lw n (k / 64) : Nat) : Int) / 2 ^ (k % 64) = ((lw n (k / 64) / 2 ^ (k % 64) : Nat) : Int) := by simp
    rw [e, show (1 : Int) = ((1 : Nat) : Int) from rfl, u64_and_nat _ 1 hq (by omega), Nat.and_one_is_mod, lw_bit]
  have hl := lw_lt n (k / 64)
  generalize lw n (k / 64) = x at *
  obtain ⟨xi, hxi⟩ : ∃ xi : Int, xi = (x : Int) := ⟨_, rfl⟩
  rw [← hxi] at hx HB
  have hx0 : 0 ≤ xi := by omega
  have hx1 : xi < 18446744073709551616 := by omega
  clear hxi hl
  go_enter Try.func13, Try.ntmps13
  go_wp2
  go_ret
  refine ⟨ret_int (b := (n / 2 ^ k % 2 : Nat)) ?_, (by repeat (first | (with_reducible refine Below.alloc' ?_ _) | (with_reducible refine Below.drew ?_) | (with_reducible refine below_drewN ?_ _) | ((with_reducible refine Below.setCell ?_ ?_ _); rotate_left; (focus (first | exact Nat.le_refl _ | (simp; done) | (simp; omega)))) | (with_reducible assumption) | (with_reducible exact Below.refl _ _)))⟩
  rw [HB.out, IntWalk.wrap64_in]; omega

theorem scbit_no (n : Nat) {k : Int} (hk : ¬ (0 ≤ k ∧ k ≤ 255)) (w : World) : Calls Try.prog 13 #[.agg #[.int .u64 (lw n 0 : Nat), .int .u64 (lw n 1 : Nat), .int .u64 (lw n 2 : Nat), .int .u64 (lw n 3 : Nat)], .int .i64 k] w fun e w' => e = .returned (.int .i64 0) ∧ Below w.heap.size w w' := by
  by_cases h0 : k < 0
  · have d1 : decide (k < 0) = true := decide_eq_true h0
    clear hk h0
    go_enter Try.func13, Try.ntmps13
    go_wp2
    go_ret
    exact ⟨rfl, (by repeat (first | (with_reducible refine Below.alloc' ?_ _) | (with_reducible refine Below.drew ?_) | (with_reducible refine below_drewN ?_ _) | ((with_reducible refine Below.setCell ?_ ?_ _); rotate_left; (focus (first | exact Nat.le_refl _ | (simp; done) | (simp; omega)))) | (with_reducible assumption) | (with_reducible exact Below.refl _ _)))⟩
  · have d1 : decide (k < 0) = false := decide_eq_false h0
    have d2 : decide (256 ≤ k) = true := decide_eq_true (by omega)
    clear hk h0
    go_enter Try.func13, Try.ntmps13
    go_wp2
    go_ret
    exact ⟨rfl, (by repeat (first | (with_reducible refine Below.alloc' ?_ _) | (with_reducible refine Below.drew ?_) | (with_reducible refine below_drewN ?_ _) | ((with_reducible refine Below.setCell ?_ ?_ _); rotate_left; (focus (first | exact Nat.le_refl _ | (simp; done) | (simp; omega)))) | (with_reducible assumption) | (with_reducible exact Below.refl _ _)))⟩
set_option maxHeartbeats 1000000 in
theorem neg_any (a : Nat) (ha : a ≤ Lq) (w : World) :
    Calls Try.prog 23 #[.agg #[.int .u64 (lw a 0 : Nat), .int .u64 (lw a 1 : Nat), .int .u64 (lw a 2 : Nat), .int .u64 (lw a 3 : Nat)]] w fun e w' => e = .returned (.agg #[.int .u64 (lw (once (Lq - a)) 0 : Nat), .int .u64 (lw (once (Lq - a)) 1 : Nat), .int .u64 (lw (once (Lq - a)) 2 : Nat), .int .u64 (lw (once (Lq - a)) 3 : Nat)]) ∧ Below w.heap.size w w' := by
  have ha' : a < 2 ^ 256 := Nat.lt_of_le_of_lt ha Lq_lt
  have hD : ∀ i, i < 4 → lw (Lq + 2 ^ 256 - a) i = lw (Lq - a) i := by
    intro i hi
    rw [← lw_mod (Lq + 2 ^ 256 - a) i hi]
    have := Lq_lt
    generalize (2 : Nat) ^ 256 = P at *
    rw [show Lq + P - a = (Lq - a) + P from by omega, Nat.add_mod_right, Nat.mod_eq_of_lt (by omega)]
  have hl : Lq - a < 2 ^ 256 := Nat.lt_of_le_of_lt (Nat.sub_le _ _) Lq_lt
  have hS : ∀ k, k < 4 → ∀ w : World, (callFunc 41 #[.int .u64 (lw Lq k : Nat), .int .u64 (lw a k : Nat), .int .u64 (bw Lq a k : Nat)]).run Try.prog w = .ok (.value (.tuple #[.int .u64 (lw (Lq - a) k : Nat), .int .u64 (bw Lq a (k + 1) : Nat)])) w := by
    intro k hk w
    rw [← hD k hk]
    exact sub64n Lq a k (k + 1) rfl hk ha' w
  clear hD
  have HS := Lib.hid hS
  clear hS
  generalize hd : Lq - a = d at *
  clear hd
  go_enter Try.func23, Try.ntmps23
  go_wp2_with (go_at_call 40; go_must (refine (order_any _).mono ?_; rintro e w1 ⟨rfl, hb⟩; obtain ⟨hc1, hf1⟩ := bcell hb; have hz := hb.size; simp at hz; have hz1 : w.heap.size + 1 < w1.heap.size := (by omega); have hz0 : w.heap.size < w1.heap.size := (by omega); clear hz))
  have hbel : Below w.heap.size w w1 := Below.call (by repeat (first | (with_reducible refine Below.alloc' ?_ _) | (with_reducible refine Below.drew ?_) | (with_reducible refine below_drewN ?_ _) | ((with_reducible refine Below.setCell ?_ ?_ _); rotate_left; (focus (first | exact Nat.le_refl _ | (simp; done) | (simp; omega)))) | (with_reducible assumption) | (with_reducible exact Below.refl _ _))) hb
  have hO : Blk w1 (w.heap.size + 1) [.int .u64 0, .int .u64 0, .int .u64 0, .int .u64 0] 27 := (Blk.new' (by simp)).below' hb
  have HO := Lib.hid hO
  clear hc1 hf1 hO hb
  go_loopw [3, 10] (fun c i wr => ∃ k : Nat, k ≤ 4 ∧ i = .int .i64 k ∧ c = .int .u64 (bw Lq a k : Nat) ∧ Blk wr w1.heap.size (row 4 (mix d Lq k)) 27 ∧ Blk wr (w.heap.size + 1) [.int .u64 0, .int .u64 0, .int .u64 0, .int .u64 0] 27 ∧ Below w.heap.size w wr) (fun _ i _ => 4 - (intOf i).toNat)
  case atStart => exact ⟨0, by omega, rfl, by rw [bw_zero]; rfl, by rw [mix_zero, row4]; exact Blk.new w1 _ _, HO.out.alloc _, (by repeat (first | (with_reducible refine Below.alloc' ?_ _) | (with_reducible refine Below.drew ?_) | (with_reducible refine below_drewN ?_ _) | ((with_reducible refine Below.setCell ?_ ?_ _); rotate_left; (focus (first | exact Nat.le_refl _ | (simp; done) | (simp; omega)))) | (with_reducible assumption) | (with_reducible exact Below.refl _ _)))⟩
  case round =>
    obtain ⟨k, hk, rfl, rfl, hB, hO, hbl⟩ := hrel
    by_cases hlt : k < 4
    · have hx := ix4 a k hlt
      have hs := HS.out k hlt
      have hcell := hB.at hlt
      rw [mix_at] at hcell
      have hfr := hB.frozen k
      have HB := Lib.hid (hB.set k (.int .u64 (lw d k : Nat)))
      have HO1 := Lib.hid (hO.other ⟨w1.heap.size, k, none⟩ (by simp; omega) (.int .u64 (lw d k : Nat)))
      clear hB hO HO
      go_wp2
      go_roundw
      case rel => exact ⟨k + 1, by omega, by go_num, rfl, by have := HB.out; rw [mix_set] at this; exact this, HO1.out, hbl.setCell (by simp; omega) _⟩
      case measure => simp [intOf]; omega
    · obtain rfl : k = 4 := by omega
      rw [mix_four, row4] at hB
      have hBc := hB.cell
      clear hB hlt hk HO HS
      unfold wV at hBc
      go_wp2_with (go_at_call 37; go_must (refine (once_any d hl _).mono ?_; rintro e w2 ⟨rfl, hb⟩; have hO2 := hO.below' hb; have oc := hO2.cell; have of := hO2.frozen; have hbel2 := Below.call hbl hb; clear hb hO hO2 hBc))
      exact bodyPost_ret (v := .agg #[.int .u64 (lw (once d) 0 : Nat), .int .u64 (lw (once d) 1 : Nat), .int .u64 (lw (once d) 2 : Nat), .int .u64 (lw (once d) 3 : Nat)]) (by simp [results, Try.results23, go_sem, oc]) rfl ⟨rfl, (by repeat (first | (with_reducible refine Below.alloc' ?_ _) | (with_reducible refine Below.drew ?_) | (with_reducible refine below_drewN ?_ _) | ((with_reducible refine Below.setCell ?_ ?_ _); rotate_left; (focus (first | exact Nat.le_refl _ | (simp; done) | (simp; omega)))) | (with_reducible assumption) | (with_reducible exact Below.refl _ _)))⟩
end Go.Proofs.Ytbgfokdchpcifaa
