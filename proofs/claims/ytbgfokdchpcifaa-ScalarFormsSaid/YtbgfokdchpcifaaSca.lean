/- The walks of package scalar: each function as an operation on the number. -/
import Derived.Test.YtbgfokdchpcifaaFlat
import Derived.Test.YtbgfokdchpcifaaNum
namespace Go.Proofs.Ytbgfokdchpcifaa
open Go.RowKit

theorem Wd.lw (n i : Nat) : Wd (lw n i : Nat) := ⟨by omega, by have := lw_lt n i; omega⟩
theorem Cy.cy (a b i : Nat) : Cy (cy a b i : Nat) := ⟨by omega, by have := cy_le a b i; omega⟩
theorem Cy.bw (a b i : Nat) : Cy (bw a b i : Nat) := ⟨by omega, by have := bw_le a b i; omega⟩
theorem adds_lw (a b i : Nat) : adds (lw a i : Nat) (lw b i : Nat) (cy a b i : Nat) = (lw (a + b) i : Nat) := by
  have := (add_word a b i).1; unfold adds; omega
theorem addc_lw (a b i : Nat) : addc (lw a i : Nat) (lw b i : Nat) (cy a b i : Nat) = (cy a b (i + 1) : Nat) := by
  have := (add_word a b i).2; unfold addc; omega
theorem add64n (a b i j : Nat) (hj : i + 1 = j) (w : World) : (callFunc 39 #[.int .u64 (lw a i : Nat), .int .u64 (lw b i : Nat), .int .u64 (cy a b i : Nat)]).run Try.prog w = .ok (.value (.tuple #[.int .u64 (lw (a + b) i : Nat), .int .u64 (cy a b j : Nat)])) w := by
  rw [add64 (Wd.lw a i) (Wd.lw b i) (Cy.cy a b i), adds_lw, addc_lw, hj]
theorem add64n0 (a b : Nat) (w : World) : (callFunc 39 #[.int .u64 (lw a 0 : Nat), .int .u64 (lw b 0 : Nat), .int .u64 0]).run Try.prog w = .ok (.value (.tuple #[.int .u64 (lw (a + b) 0 : Nat), .int .u64 (cy a b 1 : Nat)])) w := by
  have := add64n a b 0 1 rfl w
  rw [cy_zero] at this; exact this
theorem sub64n (a b i j : Nat) (hj : i + 1 = j) (hi : i < 4) (hb : b < 2 ^ 256) (w : World) : (callFunc 41 #[.int .u64 (lw a i : Nat), .int .u64 (lw b i : Nat), .int .u64 (bw a b i : Nat)]).run Try.prog w = .ok (.value (.tuple #[.int .u64 (lw (a + 2 ^ 256 - b) i : Nat), .int .u64 (bw a b j : Nat)])) w := by
  have := sub_word a b i hi hb
  have e1 : subs (lw a i : Nat) (lw b i : Nat) (bw a b i : Nat) = (lw (a + 2 ^ 256 - b) i : Nat) := this.1
  have e2 : subc (lw a i : Nat) (lw b i : Nat) (bw a b i : Nat) = (bw a b (i + 1) : Nat) := this.2
  rw [sub64 (Wd.lw a i) (Wd.lw b i) (Cy.bw a b i), e1, e2, hj]

theorem sub64n0 (a b : Nat) (hb : b < 2 ^ 256) (w : World) : (callFunc 41 #[.int .u64 (lw a 0 : Nat), .int .u64 (lw b 0 : Nat), .int .u64 0]).run Try.prog w = .ok (.value (.tuple #[.int .u64 (lw (a + 2 ^ 256 - b) 0 : Nat), .int .u64 (bw a b 1 : Nat)])) w := by
  have := sub64n a b 0 1 rfl (by omega) hb w
  rw [bw_zero] at this; exact this
theorem fieldS (x0 x1 x2 x3 : Value) (w : World) : (Instr.field 27 (.agg #[x0, x1, x2, x3]) 0).run Try.prog w = .ok (.agg #[x0, x1, x2, x3]) w := by kernel_rfl
theorem ix4_0 (x0 x1 x2 x3 : Value) (w : World) : (Instr.index 25 (.agg #[x0, x1, x2, x3]) (.int .i64 0)).run Try.prog w = .ok x0 w := by kernel_rfl
theorem ix4_1 (x0 x1 x2 x3 : Value) (w : World) : (Instr.index 25 (.agg #[x0, x1, x2, x3]) (.int .i64 1)).run Try.prog w = .ok x1 w := by kernel_rfl
theorem ix4_2 (x0 x1 x2 x3 : Value) (w : World) : (Instr.index 25 (.agg #[x0, x1, x2, x3]) (.int .i64 2)).run Try.prog w = .ok x2 w := by kernel_rfl
theorem ix4_3 (x0 x1 x2 x3 : Value) (w : World) : (Instr.index 25 (.agg #[x0, x1, x2, x3]) (.int .i64 3)).run Try.prog w = .ok x3 w := by kernel_rfl

set_option maxHeartbeats 400000 in
theorem plus_any (a b : Nat) (w : World) :
    Calls Try.prog 36 #[.agg #[.int .u64 (lw a 0 : Nat), .int .u64 (lw a 1 : Nat), .int .u64 (lw a 2 : Nat), .int .u64 (lw a 3 : Nat)], .agg #[.int .u64 (lw b 0 : Nat), .int .u64 (lw b 1 : Nat), .int .u64 (lw b 2 : Nat), .int .u64 (lw b 3 : Nat)]] w fun e w' => e = .returned (.agg #[.int .u64 (lw (a + b) 0 : Nat), .int .u64 (lw (a + b) 1 : Nat), .int .u64 (lw (a + b) 2 : Nat), .int .u64 (lw (a + b) 3 : Nat)]) ∧ Below w.heap.size w w' := by
  have h0 := add64n0 a b
  have h1 := add64n a b 1 2 rfl
  have h2 := add64n a b 2 3 rfl
  have h3 := add64n a b 3 4 rfl
  have i0 := ix4_0
  have i1 := ix4_1
  have i2 := ix4_2
  have i3 := ix4_3
  go_enter Try.func36, Try.ntmps36
  go_wp2
  refine wp_loop_rounds 5 ?_
  iterate 5 (rw [rounds_succ]; go_wp2_with fail)
  exact bodyPost_ret (v := .agg #[.int .u64 (lw (a + b) 0 : Nat), .int .u64 (lw (a + b) 1 : Nat), .int .u64 (lw (a + b) 2 : Nat), .int .u64 (lw (a + b) 3 : Nat)]) (by simp [results, Try.results36, go_sem]) rfl ⟨rfl, (by repeat (first | (with_reducible refine Below.alloc' ?_ _) | (with_reducible refine Below.drew ?_) | (with_reducible refine below_drewN ?_ _) | ((with_reducible refine Below.setCell ?_ ?_ _); rotate_left; (focus (first | exact Nat.le_refl _ | (simp; done) | (simp; omega)))) | (with_reducible assumption) | (with_reducible exact Below.refl _ _)))⟩

set_option maxHeartbeats 400000 in
theorem order_any (w : World) :
    Calls Try.prog 40 #[] w fun e w' => e = .returned (.agg #[.int .u64 (lw Lq 0 : Nat), .int .u64 (lw Lq 1 : Nat), .int .u64 (lw Lq 2 : Nat), .int .u64 (lw Lq 3 : Nat)]) ∧ Below w.heap.size w w' := by
  have e0 : lw Lq 0 = 0x5812631a5cf5d3ed := by decide +kernel
  have e1 : lw Lq 1 = 0x14def9dea2f79cd6 := by decide +kernel
  have e2 : lw Lq 2 = 0 := by decide +kernel
  have e3 : lw Lq 3 = 0x1000000000000000 := by decide +kernel
  rw [e0, e1, e2, e3]
  clear e0 e1 e2 e3
  go_enter Try.func40, Try.ntmps40
  go_wp2
  exact bodyPost_ret (v := .agg #[.int .u64 0x5812631a5cf5d3ed, .int .u64 0x14def9dea2f79cd6, .int .u64 0, .int .u64 0x1000000000000000]) (by simp [results, Try.results40, go_sem]) rfl ⟨rfl, (by repeat (first | (with_reducible refine Below.alloc' ?_ _) | (with_reducible refine Below.drew ?_) | (with_reducible refine below_drewN ?_ _) | ((with_reducible refine Below.setCell ?_ ?_ _); rotate_left; (focus (first | exact Nat.le_refl _ | (simp; done) | (simp; omega)))) | (with_reducible assumption) | (with_reducible exact Below.refl _ _)))⟩

theorem Lq_lt : Lq < 2 ^ 256 := by unfold Lq; omega
theorem bw4 (a : Nat) (ha : a < 2 ^ 256) : bw a Lq 4 = if a < Lq then 1 else 0 := by
  unfold bw
  rw [Nat.mod_eq_of_lt ha, Nat.mod_eq_of_lt Lq_lt]
/-- A number without L, mod 2^256. -/
def lessN (a : Nat) : Nat := a + 2 ^ 256 - Lq
/-- The words are indexed by a number. -/
theorem ix4 (n k : Nat) (hk : k < 4) (w : World) : (Instr.index 25 (.agg #[.int .u64 (lw n 0 : Nat), .int .u64 (lw n 1 : Nat), .int .u64 (lw n 2 : Nat), .int .u64 (lw n 3 : Nat)]) (.int .i64 (k : Nat))).run Try.prog w = .ok (.int .u64 (lw n k : Nat)) w := by
  have h : k = 0 ∨ k = 1 ∨ k = 2 ∨ k = 3 := by omega
  rcases h with rfl | rfl | rfl | rfl
  · exact ix4_0 _ _ _ _ _
  · exact ix4_1 _ _ _ _ _
  · exact ix4_2 _ _ _ _ _
  · exact ix4_3 _ _ _ _ _
/-- The first k words of one number, the others of another one. -/
def mix (n m k : Nat) (i : Nat) : Value := if i < k then wV n i else wV m i
theorem mix_set (n m k : Nat) : (row 4 (mix n m k)).set k (.int .u64 (lw n k : Nat)) = row 4 (mix n m (k + 1)) :=
  row_set k _ (by unfold mix; rw [if_pos (by omega)]; rfl) (fun i _ h => by unfold mix; by_cases h1 : i < k; rw [if_pos h1, if_pos (by omega)]; rw [if_neg h1, if_neg (by omega)])
theorem mix_zero (n m : Nat) : row 4 (mix n m 0) = row 4 (wV m) := row_ext fun i _ => by unfold mix; rw [if_neg (by omega)]
theorem mix_four (n m : Nat) : row 4 (mix n m 4) = row 4 (wV n) := row_ext fun i h => by unfold mix; rw [if_pos h]
theorem mix_at (n m k : Nat) : mix n m k k = .int .u64 (lw m k : Nat) := by unfold mix; rw [if_neg (by omega)]; rfl

set_option maxHeartbeats 400000 in
theorem less_any (a : Nat) (ha : a < 2 ^ 256) (w : World) :
    Calls Try.prog 44 #[.agg #[.int .u64 (lw a 0 : Nat), .int .u64 (lw a 1 : Nat), .int .u64 (lw a 2 : Nat), .int .u64 (lw a 3 : Nat)]] w fun e w' => e = .returned (.tuple #[.agg #[.int .u64 (lw (lessN a) 0 : Nat), .int .u64 (lw (lessN a) 1 : Nat), .int .u64 (lw (lessN a) 2 : Nat), .int .u64 (lw (lessN a) 3 : Nat)], .bool (decide (a < Lq))]) ∧ Below w.heap.size w w' := by
  have fs := fieldS
  have HD : Hid ((((bw a Lq 4 : Nat) : Int) == 1) = decide (a < Lq)) := by
    refine Lib.hid ?_
    rw [bw4 a ha]; split <;> simp_all
  go_enter Try.func44, Try.ntmps44
  go_wp2_with (go_at_call 40; refine (order_any _).mono ?_; rintro e w1 ⟨rfl, hb⟩)
  have hB0 : Blk w1 w.heap.size (row 4 (mix (lessN a) a 0)) 27 := by
    rw [mix_zero, row4]
    exact (((Blk.new w _ _).alloc _).below' hb)
  have hbel : Below w.heap.size w w1 := Below.call (by repeat (first | (with_reducible refine Below.alloc' ?_ _) | (with_reducible refine Below.drew ?_) | (with_reducible refine below_drewN ?_ _) | ((with_reducible refine Below.setCell ?_ ?_ _); rotate_left; (focus (first | exact Nat.le_refl _ | (simp; done) | (simp; omega)))) | (with_reducible assumption) | (with_reducible exact Below.refl _ _))) hb
  have hO : Blk w1 (w.heap.size + 1) (row 4 fun _ => .int .u64 0) 27 := (Blk.new' (by simp)).below' hb
  clear hb
  go_wp2
  go_loopw [4, 9] (fun c i wr => ∃ k : Nat, k ≤ 4 ∧ i = .int .i64 k ∧ c = .int .u64 (bw a Lq k : Nat) ∧ Blk wr w.heap.size (row 4 (mix (lessN a) a k)) 27 ∧ Blk wr (w.heap.size + 1) (row 4 fun _ => .int .u64 0) 27 ∧ Below w.heap.size w wr) (fun _ i _ => 4 - (intOf i).toNat)
  case atStart => exact ⟨0, by omega, rfl, by rw [bw_zero]; rfl, hB0, hO, hbel⟩
  case round =>
    obtain ⟨k, hk, rfl, rfl, hB, hO', hbl⟩ := hrel
    by_cases hlt : k < 4
    · have hx := ix4 Lq k hlt
      have hs : ∀ w : World, _ := sub64n a Lq k (k + 1) rfl hlt Lq_lt
      rw [show a + 2 ^ 256 - Lq = lessN a from rfl] at hs
      have hcell := hB.at hlt
      rw [mix_at] at hcell
      have hfr := hB.frozen k
      have HB := Lib.hid (hB.set k (.int .u64 (lw (lessN a) k : Nat)))
      have HO := Lib.hid (hO'.other ⟨w.heap.size, k, none⟩ (by simp) (.int .u64 (lw (lessN a) k : Nat)))
      clear hB hO' hB0 hO
      go_wp2
      go_roundw
      case rel => exact ⟨k + 1, by omega, by go_num, rfl, by have := HB.out; rw [mix_set] at this; exact this, HO.out, hbl.setCell (Nat.le_refl _) _⟩
      case measure => simp [intOf]; omega
    · obtain rfl : k = 4 := by omega
      rw [mix_four] at hB
      have h0 : wr.cell? ⟨w.heap.size, 0, none⟩ = some (.int .u64 (lw (lessN a) 0 : Nat)) := hB.at (by omega)
      have h1 : wr.cell? ⟨w.heap.size, 1, none⟩ = some (.int .u64 (lw (lessN a) 1 : Nat)) := hB.at (by omega)
      have h2 : wr.cell? ⟨w.heap.size, 2, none⟩ = some (.int .u64 (lw (lessN a) 2 : Nat)) := hB.at (by omega)
      have h3 : wr.cell? ⟨w.heap.size, 3, none⟩ = some (.int .u64 (lw (lessN a) 3 : Nat)) := hB.at (by omega)
      have o0 : wr.cell? ⟨w.heap.size + 1, 0, none⟩ = some (.int .u64 0) := hO'.at (by omega)
      have o1 : wr.cell? ⟨w.heap.size + 1, 1, none⟩ = some (.int .u64 0) := hO'.at (by omega)
      have o2 : wr.cell? ⟨w.heap.size + 1, 2, none⟩ = some (.int .u64 0) := hO'.at (by omega)
      have o3 : wr.cell? ⟨w.heap.size + 1, 3, none⟩ = some (.int .u64 0) := hO'.at (by omega)
      have f0 := hO'.frozen
      clear hB hO' hB0 hO hlt hk
      go_wp2
      exact bodyPost_ret (v := .tuple #[.agg #[.int .u64 (lw (lessN a) 0 : Nat), .int .u64 (lw (lessN a) 1 : Nat), .int .u64 (lw (lessN a) 2 : Nat), .int .u64 (lw (lessN a) 3 : Nat)], .bool ((bw a Lq 4 : Int) == 1)]) (by simp [results, Try.results44, go_sem, o0, o1, o2, o3]) rfl ⟨by rw [HD.out], (by repeat (first | (with_reducible refine Below.alloc' ?_ _) | (with_reducible refine Below.drew ?_) | (with_reducible refine below_drewN ?_ _) | ((with_reducible refine Below.setCell ?_ ?_ _); rotate_left; (focus (first | exact Nat.le_refl _ | (simp; done) | (simp; omega)))) | (with_reducible assumption) | (with_reducible exact Below.refl _ _)))⟩

theorem once_lw (a i : Nat) (hi : i < 4) (ha : a < 2 ^ 256) (h : ¬ a < Lq) : lw (lessN a) i = lw (a - Lq) i := by
  unfold lessN
  rw [← lw_mod (a + 2 ^ 256 - Lq) i hi]
  generalize (2 : Nat) ^ 256 = P at *
  rw [show a + P - Lq = (a - Lq) + P from by omega, Nat.add_mod_right, Nat.mod_eq_of_lt (by omega)]
set_option maxHeartbeats 400000 in
theorem once_any (a : Nat) (ha : a < 2 ^ 256) (w : World) :
    Calls Try.prog 37 #[.agg #[.int .u64 (lw a 0 : Nat), .int .u64 (lw a 1 : Nat), .int .u64 (lw a 2 : Nat), .int .u64 (lw a 3 : Nat)]] w fun e w' => e = .returned (.agg #[.int .u64 (lw (once a) 0 : Nat), .int .u64 (lw (once a) 1 : Nat), .int .u64 (lw (once a) 2 : Nat), .int .u64 (lw (once a) 3 : Nat)]) ∧ Below w.heap.size w w' := by
  by_cases hl : a < Lq
  · rw [show once a = a from if_pos hl]
    have hd : decide (a < Lq) = true := by simp [hl]
    clear hl
    go_enter Try.func37, Try.ntmps37
    go_wp2_with (go_at_call 44; go_must (refine (less_any a ha _).mono ?_; rintro e w1 ⟨rfl, hb⟩; obtain ⟨hc, hf⟩ := bcell hb; have hz := hb.size; simp at hz; have hz1 : w.heap.size < w1.heap.size := (by omega); have hz2 : w.heap.size + 1 < w1.heap.size := (by omega)))
    have hbel : Below w.heap.size w w1 := Below.call (by repeat (first | (with_reducible refine Below.alloc' ?_ _) | (with_reducible refine Below.drew ?_) | (with_reducible refine below_drewN ?_ _) | ((with_reducible refine Below.setCell ?_ ?_ _); rotate_left; (focus (first | exact Nat.le_refl _ | (simp; done) | (simp; omega)))) | (with_reducible assumption) | (with_reducible exact Below.refl _ _))) hb
    exact bodyPost_ret (v := .agg #[.int .u64 (lw a 0 : Nat), .int .u64 (lw a 1 : Nat), .int .u64 (lw a 2 : Nat), .int .u64 (lw a 3 : Nat)]) (by simp [results, Try.results37, go_sem, hc, hz2]) rfl ⟨rfl, (by repeat (first | (with_reducible refine Below.alloc' ?_ _) | (with_reducible refine Below.drew ?_) | (with_reducible refine below_drewN ?_ _) | ((with_reducible refine Below.setCell ?_ ?_ _); rotate_left; (focus (first | exact Nat.le_refl _ | (simp; done) | (simp; omega)))) | (with_reducible assumption) | (with_reducible exact Below.refl _ _)))⟩
  · have e0 := once_lw a 0 (by omega) ha hl
    have e1 := once_lw a 1 (by omega) ha hl
    have e2 := once_lw a 2 (by omega) ha hl
    have e3 := once_lw a 3 (by omega) ha hl
    rw [show once a = a - Lq from if_neg hl, ← e0, ← e1, ← e2, ← e3]
    clear e0 e1 e2 e3
    have hd : decide (a < Lq) = false := by simp; omega
    clear hl
    go_enter Try.func37, Try.ntmps37
    go_wp2_with (go_at_call 44; go_must (refine (less_any a ha _).mono ?_; rintro e w1 ⟨rfl, hb⟩; obtain ⟨hc, hf⟩ := bcell hb; have hz := hb.size; simp at hz; have hz1 : w.heap.size < w1.heap.size := (by omega); have hz2 : w.heap.size + 1 < w1.heap.size := (by omega)))
    have hbel : Below w.heap.size w w1 := Below.call (by repeat (first | (with_reducible refine Below.alloc' ?_ _) | (with_reducible refine Below.drew ?_) | (with_reducible refine below_drewN ?_ _) | ((with_reducible refine Below.setCell ?_ ?_ _); rotate_left; (focus (first | exact Nat.le_refl _ | (simp; done) | (simp; omega)))) | (with_reducible assumption) | (with_reducible exact Below.refl _ _))) hb
    refine bodyPost_ret (v := .agg #[.int .u64 (lw (lessN a) 0 : Nat), .int .u64 (lw (lessN a) 1 : Nat), .int .u64 (lw (lessN a) 2 : Nat), .int .u64 (lw (lessN a) 3 : Nat)]) ?_ ?_ ?_
    · simp [results, Try.results37, go_sem, hc, hz2]
    · rfl
    · exact ⟨rfl, (by repeat (first | (with_reducible refine Below.alloc' ?_ _) | (with_reducible refine Below.drew ?_) | (with_reducible refine below_drewN ?_ _) | ((with_reducible refine Below.setCell ?_ ?_ _); rotate_left; (focus (first | exact Nat.le_refl _ | (simp; done) | (simp; omega)))) | (with_reducible assumption) | (with_reducible exact Below.refl _ _)))⟩
/-- The lowest word with a digit put in. -/
theorem or_digit (r N j : Nat) : bits BinOp.or IntKind.u64 (lw (r + r) 0 : Nat) (bits BinOp.and IntKind.u64 ((lw N (j / 64) : Nat) / 2 ^ (j % 64)) 1) = (lw (r + r + N / 2 ^ j % 2) 0 : Nat) := by
  have h0 := lw_lt N (j / 64)
  have h1 := lw_lt (r + r) 0
  have hb : N / 2 ^ j % 2 < 2 := Nat.mod_lt _ (by omega)
  have hq : lw N (j / 64) / 2 ^ (j % 64) < 18446744073709551616 := Nat.lt_of_le_of_lt (Nat.div_le_self _ _) h0
  have e : ((lw N (j / 64) : Nat) : Int) / 2 ^ (j % 64) = ((lw N (j / 64) / 2 ^ (j % 64) : Nat) : Int) := by simp
  rw [e, show (1 : Int) = ((1 : Nat) : Int) from rfl, u64_and_nat _ 1 hq (by omega), Nat.and_one_is_mod, lw_bit, u64_or_nat _ _ h1 (by omega), (lw_low r _ hb).1]
  congr 1
  have he := lw_even r
  generalize lw (r + r) 0 = x at *
  generalize N / 2 ^ j % 2 = b at *
  obtain ⟨y, rfl⟩ : ∃ y, x = 2 * y := ⟨x / 2, by omega⟩
  rw [show 2 * y = y <<< 1 from by rw [Nat.shiftLeft_eq]; omega, Nat.shiftLeft_add_eq_or_of_lt (by omega)]
set_option maxHeartbeats 1000000 in
theorem reduced_any (N T : Nat) (hT1 : T ≤ 512) (hT2 : 512 ≤ T) (hN : N < 2 ^ T) (w : World) :
    Calls Try.prog 28 #[.agg #[.int .u64 (lw N 0 : Nat),.int .u64 (lw N 1 : Nat),.int .u64 (lw N 2 : Nat),.int .u64 (lw N 3 : Nat),.int .u64 (lw N 4 : Nat),.int .u64 (lw N 5 : Nat),.int .u64 (lw N 6 : Nat),.int .u64 (lw N 7 : Nat)]] w fun e w' => e = .returned (.agg #[.int .u64 (lw (N % Lq) 0 : Nat), .int .u64 (lw (N % Lq) 1 : Nat), .int .u64 (lw (N % Lq) 2 : Nat), .int .u64 (lw (N % Lq) 3 : Nat)]) ∧ Below w.heap.size w w' := by
  have HN := Lib.hid hN
  clear hN
  go_enter Try.func28, Try.ntmps28
  go_wp2
  refine wp_gen (fun W => Blk W w.heap.size (row 8 (wV N)) 55 ∧ Blk W (w.heap.size + 1) (row 4 (wV (N / 2 ^ T % Lq))) 27 ∧ Below w.heap.size w W) ?_ (fun W hW => ?_)
  · refine ⟨(Blk.new w _ _).alloc _, ?_, (by repeat (first | (with_reducible refine Below.alloc' ?_ _) | (with_reducible refine Below.drew ?_) | (with_reducible refine below_drewN ?_ _) | ((with_reducible refine Below.setCell ?_ ?_ _); rotate_left; (focus (first | exact Nat.le_refl _ | (simp; done) | (simp; omega)))) | (with_reducible assumption) | (with_reducible exact Below.refl _ _)))⟩
    rw [Nat.div_eq_of_lt HN.out]
    exact Blk.new' (by simp)
  obtain ⟨hA, hO, hbel⟩ := hW
  go_loopw [3] (fun i wr => ∃ k : Nat, k ≤ 512 ∧ i = .int .i64 ((k : Int) - 1) ∧ Blk wr w.heap.size (row 8 (wV N)) 55 ∧ Blk wr (w.heap.size + 1) (row 4 (wV (N / 2 ^ k % Lq))) 27 ∧ Below w.heap.size w wr) (fun i _ => (intOf i + 1).toNat)
  case atStart => exact ⟨T, by omega, by congr 1; omega, hA, hO, hbel⟩
  case round =>
    clear hA hO hbel W
    obtain ⟨k, hk, rfl, hA, hO, hbel⟩ := hrel
    by_cases hk0 : k = 0
    · subst hk0
      rw [Nat.pow_zero, Nat.div_one] at hO
      clear hA hk
      have ez : (((0 : Nat) : Int) - 1) = -1 := rfl
      rw [ez]
      clear ez
      generalize hx : N % Lq = x at *
      have HX := Lib.hid hx
      clear hx
      have gf := hO.frozen
      have g0 : wr.cell? ⟨w.heap.size + 1, 0, none⟩ = some (.int .u64 (lw x 0 : Nat)) := hO.at (by omega); have g1 : wr.cell? ⟨w.heap.size + 1, 1, none⟩ = some (.int .u64 (lw x 1 : Nat)) := hO.at (by omega); have g2 : wr.cell? ⟨w.heap.size + 1, 2, none⟩ = some (.int .u64 (lw x 2 : Nat)) := hO.at (by omega); have g3 : wr.cell? ⟨w.heap.size + 1, 3, none⟩ = some (.int .u64 (lw x 3 : Nat)) := hO.at (by omega)
      clear hO
      go_wp2
      exact bodyPost_ret (v := .agg #[.int .u64 (lw x 0 : Nat), .int .u64 (lw x 1 : Nat), .int .u64 (lw x 2 : Nat), .int .u64 (lw x 3 : Nat)]) (by simp [results, Try.results28, go_sem, g0, g1, g2, g3]) rfl ⟨by rw [HX.out], (by repeat (first | (with_reducible refine Below.alloc' ?_ _) | (with_reducible refine Below.drew ?_) | (with_reducible refine below_drewN ?_ _) | ((with_reducible refine Below.setCell ?_ ?_ _); rotate_left; (focus (first | exact Nat.le_refl _ | (simp; done) | (simp; omega)))) | (with_reducible assumption) | (with_reducible exact Below.refl _ _)))⟩
    · obtain ⟨j, rfl⟩ : ∃ j, k = j + 1 := ⟨k - 1, by omega⟩
      have ej : (((j + 1 : Nat) : Int) - 1) = (j : Int) := by omega
      rw [ej]
      clear ej hk0
      have hr : N / 2 ^ (j + 1) % Lq < Lq := Nat.mod_lt _ (by unfold Lq; omega)
      have HS := Lib.hid (reduced_step N j)
      have HB := Lib.hid (or_digit (N / 2 ^ (j + 1) % Lq) N j)
      have hbit : N / 2 ^ j % 2 < 2 := Nat.mod_lt _ (by omega)
      have HL := Lib.hid (lw_low (N / 2 ^ (j + 1) % Lq) _ hbit)
      generalize hrr : N / 2 ^ (j + 1) % Lq = r at *
      clear hrr
      have h0 : wr.cell? ⟨w.heap.size + 1, 0, none⟩ = some (.int .u64 (lw r 0 : Nat)) := hO.at (by omega); have h1 : wr.cell? ⟨w.heap.size + 1, 1, none⟩ = some (.int .u64 (lw r 1 : Nat)) := hO.at (by omega); have h2 : wr.cell? ⟨w.heap.size + 1, 2, none⟩ = some (.int .u64 (lw r 2 : Nat)) := hO.at (by omega); have h3 : wr.cell? ⟨w.heap.size + 1, 3, none⟩ = some (.int .u64 (lw r 3 : Nat)) := hO.at (by omega)
      go_wp2_with (go_at_call 36; go_must (refine (plus_any r r _).mono ?_; rintro e w1 ⟨rfl, hb⟩; have hO1 := hO.below' hb; have hA1 := hA.below' hb; have hbel1 := hbel.trans (hb.mono hbel.size); have gf := hO1.frozen; have g0 : w1.cell? ⟨w.heap.size + 1, 0, none⟩ = some (.int .u64 (lw r 0 : Nat)) := hO1.at (by omega); have g1 : w1.cell? ⟨w.heap.size + 1, 1, none⟩ = some (.int .u64 (lw r 1 : Nat)) := hO1.at (by omega); have g2 : w1.cell? ⟨w.heap.size + 1, 2, none⟩ = some (.int .u64 (lw r 2 : Nat)) := hO1.at (by omega); have g3 : w1.cell? ⟨w.heap.size + 1, 3, none⟩ = some (.int .u64 (lw r 3 : Nat)) := hO1.at (by omega); clear hb hO hA hbel h0 h1 h2 h3))
      refine wp_gen (fun W => Blk W w.heap.size (row 8 (wV N)) 55 ∧ Blk W (w.heap.size + 1) (row 4 (wV (r + r))) 27 ∧ Below w.heap.size w W) ?_ (fun W hW => ?_)
      · exact ⟨(((hA1.other _ (by simp) _).other _ (by simp) _).other _ (by simp) _).other _ (by simp) _, (((hO1.set 0 _).set 1 _).set 2 _).set 3 _, (by repeat (first | (with_reducible refine Below.alloc' ?_ _) | (with_reducible refine Below.drew ?_) | (with_reducible refine below_drewN ?_ _) | ((with_reducible refine Below.setCell ?_ ?_ _); rotate_left; (focus (first | exact Nat.le_refl _ | (simp; done) | (simp; omega)))) | (with_reducible assumption) | (with_reducible exact Below.refl _ _)))⟩
      obtain ⟨hA2, hO2, hbel2⟩ := hW
      clear hA1 hO1 hbel1 gf g0 g1 g2 g3
      have c0 : W.cell? ⟨w.heap.size + 1, 0, none⟩ = some (.int .u64 (lw (r + r) 0 : Nat)) := hO2.at (by omega)
      have cf := hO2.frozen 0
      have hj : j / 64 < 8 := by omega
      have c1 : W.cell? ⟨w.heap.size, j / 64, none⟩ = some (.int .u64 (lw N (j / 64) : Nat)) := hA2.at hj
      have hw0 : (0 : Int) ≤ (lw N (j / 64) : Nat) := by omega
      have hw1 : ((lw N (j / 64) : Nat) : Int) < 18446744073709551616 := by have := lw_lt N (j / 64); omega
      go_region
      rw [HB.out]
      have hO3 : Blk W (w.heap.size + 1) (row 4 (fun i => if i = 0 then wV (r + r) 0 else wV (r + r + N / 2 ^ j % 2) i)) 27 := by
        rw [row_ext (g := wV (r + r))]
        · exact hO2
        · intro i _
          cases i with
          | zero => rfl
          | succ i => unfold wV; simp only [Nat.add_eq_zero_iff, Nat.succ_ne_self, and_false, if_false]; rw [HL.out.2]
      have o1 : W.cell? ⟨w.heap.size + 1, 1, none⟩ = some (.int .u64 (lw (r + r + N / 2 ^ j % 2) 1 : Nat)) := hO3.at (by omega)
      have o2 : W.cell? ⟨w.heap.size + 1, 2, none⟩ = some (.int .u64 (lw (r + r + N / 2 ^ j % 2) 2 : Nat)) := hO3.at (by omega)
      have o3 : W.cell? ⟨w.heap.size + 1, 3, none⟩ = some (.int .u64 (lw (r + r + N / 2 ^ j % 2) 3 : Nat)) := hO3.at (by omega)
      have hO4 := hO3.set 0 (wV (r + r + N / 2 ^ j % 2) 0)
      rw [row_set (g := wV (r + r + N / 2 ^ j % 2)) 0 _ rfl (fun i _ h => by rw [if_neg h])] at hO4
      clear hO2 hO3 c1 hw0 hw1 hj HB HL
      have hA4 := hA2.other ⟨w.heap.size + 1, 0, none⟩ (by simp) (wV (r + r + N / 2 ^ j % 2) 0)
      have hbel4 : Below w.heap.size w (W.setCell ⟨w.heap.size + 1, 0, none⟩ (wV (r + r + N / 2 ^ j % 2) 0)) := (by repeat (first | (with_reducible refine Below.alloc' ?_ _) | (with_reducible refine Below.drew ?_) | (with_reducible refine below_drewN ?_ _) | ((with_reducible refine Below.setCell ?_ ?_ _); rotate_left; (focus (first | exact Nat.le_refl _ | (simp; done) | (simp; omega)))) | (with_reducible assumption) | (with_reducible exact Below.refl _ _)))
      have hbd : r + r + N / 2 ^ j % 2 < 2 ^ 256 := by unfold Lq at hr; omega
      rw [show 2 * r + N / 2 ^ j % 2 = r + r + N / 2 ^ j % 2 from by omega] at HS
      generalize hx : r + r + N / 2 ^ j % 2 = x at *
      clear hx
      unfold wV at hO4 hA4 hbel4
      go_wp2_with (go_at_call 37; go_must (refine (once_any x hbd _).mono ?_; rintro e w2 ⟨rfl, hb⟩; have hO5 := (Blk.drew hO4).below' hb; have hA5 := (Blk.drew hA4).below' hb; have hbel5 := (Below.drew hbel4).trans (hb.mono (Below.drew hbel4).size); have gf := hO5.frozen; have g0 : w2.cell? ⟨w.heap.size + 1, 0, none⟩ = some (.int .u64 (lw x 0 : Nat)) := hO5.at (by omega); have g1 : w2.cell? ⟨w.heap.size + 1, 1, none⟩ = some (.int .u64 (lw x 1 : Nat)) := hO5.at (by omega); have g2 : w2.cell? ⟨w.heap.size + 1, 2, none⟩ = some (.int .u64 (lw x 2 : Nat)) := hO5.at (by omega); have g3 : w2.cell? ⟨w.heap.size + 1, 3, none⟩ = some (.int .u64 (lw x 3 : Nat)) := hO5.at (by omega); clear hb hO4 hA4 hbel4 o1 o2 o3 c0 cf hA2 hbel2))
      go_roundw
      case rel =>
        refine ⟨j, by omega, by first | rfl | (congr 1; omega), (((hA5.other _ (by simp) _).other _ (by simp) _).other _ (by simp) _).other _ (by simp) _, ?_, (by repeat (first | (with_reducible refine Below.alloc' ?_ _) | (with_reducible refine Below.drew ?_) | (with_reducible refine below_drewN ?_ _) | ((with_reducible refine Below.setCell ?_ ?_ _); rotate_left; (focus (first | exact Nat.le_refl _ | (simp; done) | (simp; omega)))) | (with_reducible assumption) | (with_reducible exact Below.refl _ _)))⟩
        rw [← HS.out]
        exact (((hO5.set 0 _).set 1 _).set 2 _).set 3 _
      case measure => simp [intOf] <;> omega
end Go.Proofs.Ytbgfokdchpcifaa
