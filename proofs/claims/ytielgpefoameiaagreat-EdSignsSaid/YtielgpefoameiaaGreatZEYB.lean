/- What EY rests on, part 2 of 5: my own texts, put together (merge.py). -/
import Derived.Deep.RegionHeld3
import Derived.WalkKit
import Derived.ProofKit
import Derived.Lib.Hide
import Derived.OpenShut
import Derived.Deep.MidRow
import Derived.Test.YtielgpefoameiaaGreatRows
import Derived.WalkSpells
import Derived.StillTactics
import Derived.Laws.Pointers
import Derived.Laws.CopyOwn
import Derived.Laws.AppendOwnNone
import Derived.RowKit3
import Derived.BigQuiet
import Derived.Deep.QuietTactic
import Derived.Deep.LoopGhost
import Derived.Deep.DeepFit
import Derived.WalkLawsBesides
import Derived.Shelf.Spec.BitsCarry
import Derived.Laws.IdiomStrings
import Derived.Deep.WholeRow
import Derived.Laws.Rows
import Derived.Deep.DeepCutAuto
import Derived.Lib.AppendZerosOnto
import Derived.Lib.SliceRun
import Derived.Deep.Matrix
import Derived.Deep.AppendLies
import Derived.ShutString
import Derived.ChangeOld
import Derived.Test.YtielgpefoameiaaGreatZEYA
namespace Go.Proofs.YtielgpefoameiaaGreat
open Go.RowKit
theorem Wd.lw (n i : Nat) : Wd (lw n i : Nat) := ⟨by omega, by have := lw_lt n i; omega⟩
theorem Cy.cy (a b i : Nat) : Cy (cy a b i : Nat) := ⟨by omega, by have := cy_le a b i; omega⟩
theorem Cy.bw (a b i : Nat) : Cy (bw a b i : Nat) := ⟨by omega, by have := bw_le a b i; omega⟩
theorem adds_lw (a b i : Nat) : adds (lw a i : Nat) (lw b i : Nat) (cy a b i : Nat) = (lw (a + b) i : Nat) := by
 have := (add_word a b i).1; unfold adds; omega
theorem addc_lw (a b i : Nat) : addc (lw a i : Nat) (lw b i : Nat) (cy a b i : Nat) = (cy a b (i + 1) : Nat) := by
 have := (add_word a b i).2; unfold addc; omega
theorem add64n (a b i j : Nat) (hj : i + 1 = j) (w : World) : (callFunc 70 #[.int .u64 (lw a i : Nat), .int .u64 (lw b i : Nat), .int .u64 (cy a b i : Nat)]).run Tryz.prog w = .ok (.value (.tuple #[.int .u64 (lw (a + b) i : Nat), .int .u64 (cy a b j : Nat)])) w := by
 rw [add64 (Wd.lw a i) (Wd.lw b i) (Cy.cy a b i), adds_lw, addc_lw, hj]
theorem add64n0 (a b : Nat) (w : World) : (callFunc 70 #[.int .u64 (lw a 0 : Nat), .int .u64 (lw b 0 : Nat), .int .u64 0]).run Tryz.prog w = .ok (.value (.tuple #[.int .u64 (lw (a + b) 0 : Nat), .int .u64 (cy a b 1 : Nat)])) w := by
 have := add64n a b 0 1 rfl w
 rw [cy_zero] at this; exact this
theorem sub64n (a b i j : Nat) (hj : i + 1 = j) (hi : i < 4) (hb : b < 2 ^ 256) (w : World) : (callFunc 128 #[.int .u64 (lw a i : Nat), .int .u64 (lw b i : Nat), .int .u64 (bw a b i : Nat)]).run Tryz.prog w = .ok (.value (.tuple #[.int .u64 (lw (a + 2 ^ 256 - b) i : Nat), .int .u64 (bw a b j : Nat)])) w := by
 have := sub_word a b i hi hb
 have e1 : subs (lw a i : Nat) (lw b i : Nat) (bw a b i : Nat) = (lw (a + 2 ^ 256 - b) i : Nat) := this.1
 have e2 : subc (lw a i : Nat) (lw b i : Nat) (bw a b i : Nat) = (bw a b (i + 1) : Nat) := this.2
 rw [sub64 (Wd.lw a i) (Wd.lw b i) (Cy.bw a b i), e1, e2, hj]
theorem fieldS (x0 x1 x2 x3 : Value) (w : World) : (Instr.field 48 (.agg #[x0, x1, x2, x3]) 0).run Tryz.prog w = .ok (.agg #[x0, x1, x2, x3]) w := by kernel_rfl
theorem ix4_0 (x0 x1 x2 x3 : Value) (w : World) : (Instr.index 46 (.agg #[x0, x1, x2, x3]) (.int .i64 0)).run Tryz.prog w = .ok x0 w := by kernel_rfl
theorem ix4_1 (x0 x1 x2 x3 : Value) (w : World) : (Instr.index 46 (.agg #[x0, x1, x2, x3]) (.int .i64 1)).run Tryz.prog w = .ok x1 w := by kernel_rfl
theorem ix4_2 (x0 x1 x2 x3 : Value) (w : World) : (Instr.index 46 (.agg #[x0, x1, x2, x3]) (.int .i64 2)).run Tryz.prog w = .ok x2 w := by kernel_rfl
theorem ix4_3 (x0 x1 x2 x3 : Value) (w : World) : (Instr.index 46 (.agg #[x0, x1, x2, x3]) (.int .i64 3)).run Tryz.prog w = .ok x3 w := by kernel_rfl
set_option maxRecDepth 100000 in
set_option maxHeartbeats 400000 in
theorem plus_any (a b : Nat) (w : World) :
  Calls Tryz.prog 67 #[.agg #[.int .u64 (lw a 0 : Nat), .int .u64 (lw a 1 : Nat), .int .u64 (lw a 2 : Nat), .int .u64 (lw a 3 : Nat)], .agg #[.int .u64 (lw b 0 : Nat), .int .u64 (lw b 1 : Nat), .int .u64 (lw b 2 : Nat), .int .u64 (lw b 3 : Nat)]] w fun e w' => e = .returned (.agg #[.int .u64 (lw (a + b) 0 : Nat), .int .u64 (lw (a + b) 1 : Nat), .int .u64 (lw (a + b) 2 : Nat), .int .u64 (lw (a + b) 3 : Nat)]) ∧ Below w.heap.size w w' := by
 have h0 := add64n0 a b
 have h1 := add64n a b 1 2 rfl
 have h2 := add64n a b 2 3 rfl
 have h3 := add64n a b 3 4 rfl
 have i0 := ix4_0
 have i1 := ix4_1
 have i2 := ix4_2
 have i3 := ix4_3
 go_enter Tryz.func67, Tryz.ntmps67
 go_wp2
 refine wp_loop_rounds 5 ?_
 iterate 5 (rw [rounds_succ]; go_wp2_with fail)
 exact bodyPost_ret (v := .agg #[.int .u64 (lw (a + b) 0 : Nat), .int .u64 (lw (a + b) 1 : Nat), .int .u64 (lw (a + b) 2 : Nat), .int .u64 (lw (a + b) 3 : Nat)]) (by simp [results, Tryz.results67, go_sem]) rfl ⟨rfl, belowBy⟩
set_option maxRecDepth 100000 in
set_option maxHeartbeats 400000 in
theorem order_any (w : World) :
  Calls Tryz.prog 127 #[] w fun e w' => e = .returned (.agg #[.int .u64 (lw Lq 0 : Nat), .int .u64 (lw Lq 1 : Nat), .int .u64 (lw Lq 2 : Nat), .int .u64 (lw Lq 3 : Nat)]) ∧ Below w.heap.size w w' := by
 have e0 : lw Lq 0 = 0x5812631a5cf5d3ed := by decide +kernel
 have e1 : lw Lq 1 = 0x14def9dea2f79cd6 := by decide +kernel
 have e2 : lw Lq 2 = 0 := by decide +kernel
 have e3 : lw Lq 3 = 0x1000000000000000 := by decide +kernel
 rw [e0, e1, e2, e3]
 clear e0 e1 e2 e3
 go_enter Tryz.func127, Tryz.ntmps127
 go_wp2
 exact bodyPost_ret (v := .agg #[.int .u64 0x5812631a5cf5d3ed, .int .u64 0x14def9dea2f79cd6, .int .u64 0, .int .u64 0x1000000000000000]) (by simp [results, Tryz.results127, go_sem]) rfl ⟨rfl, belowBy⟩
theorem Lq_lt : Lq < 2 ^ 256 := by unfold Lq; omega
theorem bw4 (a : Nat) (ha : a < 2 ^ 256) : bw a Lq 4 = if a < Lq then 1 else 0 := by
 unfold bw
 rw [Nat.mod_eq_of_lt ha, Nat.mod_eq_of_lt Lq_lt]
/-- A number without L, mod 2^256. -/
def lessN (a : Nat) : Nat := a + 2 ^ 256 - Lq
/-- The words are indexed by a number. -/
theorem ix4 (n k : Nat) (hk : k < 4) (w : World) : (Instr.index 46 (.agg #[.int .u64 (lw n 0 : Nat), .int .u64 (lw n 1 : Nat), .int .u64 (lw n 2 : Nat), .int .u64 (lw n 3 : Nat)]) (.int .i64 (k : Nat))).run Tryz.prog w = .ok (.int .u64 (lw n k : Nat)) w := by
 have h : k = 0 ∨ k = 1 ∨ k = 2 ∨ k = 3 := by omega
 rcases h with rfl | rfl | rfl | rfl
 ·exact ix4_0 _ _ _ _ _
 ·exact ix4_1 _ _ _ _ _
 ·exact ix4_2 _ _ _ _ _
 ·exact ix4_3 _ _ _ _ _
/-- The first k words of one number, the others of another one. -/
def mix (n m k : Nat) (i : Nat) : Value := if i < k then wV n i else wV m i
theorem mix_set (n m k : Nat) : (row 4 (mix n m k)).set k (.int .u64 (lw n k : Nat)) = row 4 (mix n m (k + 1)) :=
 row_set k _ (by unfold mix; rw [if_pos (by omega)]; rfl) (fun i _ h => by unfold mix; by_cases h1 : i < k; rw [if_pos h1, if_pos (by omega)]; rw [if_neg h1, if_neg (by omega)])
theorem mix_zero (n m : Nat) : row 4 (mix n m 0) = row 4 (wV m) := row_ext fun i _ => by unfold mix; rw [if_neg (by omega)]
theorem mix_four (n m : Nat) : row 4 (mix n m 4) = row 4 (wV n) := row_ext fun i h => by unfold mix; rw [if_pos h]
theorem mix_at (n m k : Nat) : mix n m k k = .int .u64 (lw m k : Nat) := by unfold mix; rw [if_neg (by omega)]; rfl
set_option maxRecDepth 100000 in
set_option maxHeartbeats 400000 in
theorem less_any (a : Nat) (ha : a < 2 ^ 256) (w : World) :
  Calls Tryz.prog 116 #[.agg #[.int .u64 (lw a 0 : Nat), .int .u64 (lw a 1 : Nat), .int .u64 (lw a 2 : Nat), .int .u64 (lw a 3 : Nat)]] w fun e w' => e = .returned (.tuple #[.agg #[.int .u64 (lw (lessN a) 0 : Nat), .int .u64 (lw (lessN a) 1 : Nat), .int .u64 (lw (lessN a) 2 : Nat), .int .u64 (lw (lessN a) 3 : Nat)], .bool (decide (a < Lq))]) ∧ Below w.heap.size w w' := by
 have fs := fieldS
 have HD : Hid ((((bw a Lq 4 : Nat) : Int) == 1) = decide (a < Lq)) := by
  refine Lib.hid ?_
  rw [bw4 a ha]; split <;> simp_all
 go_enter Tryz.func116, Tryz.ntmps116
 go_wp2_with (go_at_call 127; refine (order_any _).mono ?_; rintro e w1 ⟨rfl, hb⟩)
 have hB0 : Blk w1 w.heap.size (row 4 (mix (lessN a) a 0)) 48 := by
  rw [mix_zero, row4]
  exact (((Blk.new w _ _).alloc _).below' hb)
 have hbel : Below w.heap.size w w1 := Below.call belowBy hb
 have hO : Blk w1 (w.heap.size + 1) (row 4 fun _ => .int .u64 0) 48 := (Blk.new' (by simp)).below' hb
 clear hb
 go_wp2
 go_loopw [4, 9] (fun c i wr => ∃ k : Nat, k ≤ 4 ∧ i = .int .i64 k ∧ c = .int .u64 (bw a Lq k : Nat) ∧ Blk wr w.heap.size (row 4 (mix (lessN a) a k)) 48 ∧ Blk wr (w.heap.size + 1) (row 4 fun _ => .int .u64 0) 48 ∧ Below w.heap.size w wr) (fun _ i _ => 4 - (intOf i).toNat)
 case atStart => exact ⟨0, by omega, rfl, by rw [bw_zero]; rfl, hB0, hO, hbel⟩
 case round =>
  obtain ⟨k, hk, rfl, rfl, hB, hO', hbl⟩ := hrel
  by_cases hlt : k < 4
  ·have hx := ix4 Lq k hlt
   have hs : ∀ w : World, _ := sub64n a Lq k (k + 1) rfl hlt Lq_lt
   rw [show a + 2 ^ 256 - Lq = lessN a from rfl] at hs
   have hcell := hB.at hlt
   rw [mix_at] at hcell
   have hfr := hB.frozen k
   have HB := Lib.hid (hB.set k (.int .u64 (lw (lessN a) k : Nat)))
   have HO := Lib.hid (hO'.other ⟨w.heap.size, k, none⟩ (by simp) (.int .u64 (lw (lessN a) k : Nat)))
   clear hB hO' hB0 hO
   go_wp2
   go_roundw
   case rel => exact ⟨k + 1, by omega, by go_num, rfl, by have := HB.out; rw [mix_set] at this; exact this, HO.out, hbl.setCell (Nat.le_refl _) _⟩
   case measure => simp [intOf]; omega
  ·obtain rfl : k = 4 := by omega
   rw [mix_four] at hB
   have h0 : wr.cell? ⟨w.heap.size, 0, none⟩ = some (.int .u64 (lw (lessN a) 0 : Nat)) := hB.at (by omega)
   have h1 : wr.cell? ⟨w.heap.size, 1, none⟩ = some (.int .u64 (lw (lessN a) 1 : Nat)) := hB.at (by omega)
   have h2 : wr.cell? ⟨w.heap.size, 2, none⟩ = some (.int .u64 (lw (lessN a) 2 : Nat)) := hB.at (by omega)
   have h3 : wr.cell? ⟨w.heap.size, 3, none⟩ = some (.int .u64 (lw (lessN a) 3 : Nat)) := hB.at (by omega)
   have o0 : wr.cell? ⟨w.heap.size + 1, 0, none⟩ = some (.int .u64 0) := hO'.at (by omega)
   have o1 : wr.cell? ⟨w.heap.size + 1, 1, none⟩ = some (.int .u64 0) := hO'.at (by omega)
   have o2 : wr.cell? ⟨w.heap.size + 1, 2, none⟩ = some (.int .u64 0) := hO'.at (by omega)
   have o3 : wr.cell? ⟨w.heap.size + 1, 3, none⟩ = some (.int .u64 0) := hO'.at (by omega)
   have f0 := hO'.frozen
   clear hB hO' hB0 hO hlt hk
   go_wp2
   exact bodyPost_ret (v := .tuple #[.agg #[.int .u64 (lw (lessN a) 0 : Nat), .int .u64 (lw (lessN a) 1 : Nat), .int .u64 (lw (lessN a) 2 : Nat), .int .u64 (lw (lessN a) 3 : Nat)], .bool ((bw a Lq 4 : Int) == 1)]) (by simp [results, Tryz.results116, go_sem, o0, o1, o2, o3]) rfl ⟨by rw [HD.out], belowBy⟩
theorem once_lw (a i : Nat) (hi : i < 4) (ha : a < 2 ^ 256) (h : ¬ a < Lq) : lw (lessN a) i = lw (a - Lq) i := by
 unfold lessN
 rw [← lw_mod (a + 2 ^ 256 - Lq) i hi]
 generalize (2 : Nat) ^ 256 = P at *
 rw [show a + P - Lq = (a - Lq) + P from by omega, Nat.add_mod_right, Nat.mod_eq_of_lt (by omega)]
set_option maxRecDepth 100000 in
set_option maxHeartbeats 400000 in
theorem once_any (a : Nat) (ha : a < 2 ^ 256) (w : World) :
  Calls Tryz.prog 68 #[.agg #[.int .u64 (lw a 0 : Nat), .int .u64 (lw a 1 : Nat), .int .u64 (lw a 2 : Nat), .int .u64 (lw a 3 : Nat)]] w fun e w' => e = .returned (.agg #[.int .u64 (lw (once a) 0 : Nat), .int .u64 (lw (once a) 1 : Nat), .int .u64 (lw (once a) 2 : Nat), .int .u64 (lw (once a) 3 : Nat)]) ∧ Below w.heap.size w w' := by
 by_cases hl : a < Lq
 ·rw [show once a = a from if_pos hl]
  have hd : decide (a < Lq) = true := by simp [hl]
  clear hl
  go_enter Tryz.func68, Tryz.ntmps68
  go_wp2_with (go_at_call 116; go_must (refine (less_any a ha _).mono ?_; rintro e w1 ⟨rfl, hb⟩; obtain ⟨hc, hf⟩ := bcell hb; have hz := hb.size; simp at hz; have hz1 : w.heap.size < w1.heap.size := (by omega); have hz2 : w.heap.size + 1 < w1.heap.size := (by omega)))
  have hbel : Below w.heap.size w w1 := Below.call belowBy hb
  exact bodyPost_ret (v := .agg #[.int .u64 (lw a 0 : Nat), .int .u64 (lw a 1 : Nat), .int .u64 (lw a 2 : Nat), .int .u64 (lw a 3 : Nat)]) (by simp [results, Tryz.results68, go_sem, hc, hz2]) rfl ⟨rfl, belowBy⟩
 ·have e0 := once_lw a 0 (by omega) ha hl
  have e1 := once_lw a 1 (by omega) ha hl
  have e2 := once_lw a 2 (by omega) ha hl
  have e3 := once_lw a 3 (by omega) ha hl
  rw [show once a = a - Lq from if_neg hl, ← e0, ← e1, ← e2, ← e3]
  clear e0 e1 e2 e3
  have hd : decide (a < Lq) = false := by simp; omega
  clear hl
  go_enter Tryz.func68, Tryz.ntmps68
  go_wp2_with (go_at_call 116; go_must (refine (less_any a ha _).mono ?_; rintro e w1 ⟨rfl, hb⟩; obtain ⟨hc, hf⟩ := bcell hb; have hz := hb.size; simp at hz; have hz1 : w.heap.size < w1.heap.size := (by omega); have hz2 : w.heap.size + 1 < w1.heap.size := (by omega)))
  have hbel : Below w.heap.size w w1 := Below.call belowBy hb
  refine bodyPost_ret (v := .agg #[.int .u64 (lw (lessN a) 0 : Nat), .int .u64 (lw (lessN a) 1 : Nat), .int .u64 (lw (lessN a) 2 : Nat), .int .u64 (lw (lessN a) 3 : Nat)]) ?_ ?_ ?_
  ·simp [results, Tryz.results68, go_sem, hc, hz2]
  ·rfl
  ·exact ⟨rfl, belowBy⟩
/-- The lowest word with a digit put in. -/
theorem or_digit (r N j : Nat) : bits BinOp.or IntKind.u64 (lw (r + r) 0 : Nat) (bits BinOp.and IntKind.u64 ((lw N (j / 64) : Nat) / 2 ^ (j % 64)) 1) = (lw (r + r + N / 2 ^ j % 2) 0 : Nat) := by
 have h0 := lw_lt N (j / 64)
 have h1 := lw_lt (r + r) 0
 have hb : N / 2 ^ j % 2 < 2 := Nat.mod_lt _ (by omega)
 have hq : lw N (j / 64) / 2 ^ (j % 64) < 18446744073709551616 := Nat.lt_of_le_of_lt (Nat.div_le_self _ _) h0
 have e : ((lw N (j / 64) : Nat) : Int) / 2 ^ (j % 64) = ((lw N (j / 64) / 2 ^ (j % 64) : Nat) : Int) := by simp
 rw [e, show (1 : Int) = ((1 : Nat) : Int) from rfl, u64_and_nat _ 1 hq (by omega), Nat.and_one_is_mod, lw_bit, u64_or_nat _ _ h1 (by omega), (lw_low r _ hb).1]
 congr 1
 have he := lw_even r
 generalize lw (r + r) 0 = x at *
 generalize N / 2 ^ j % 2 = b at *
 obtain ⟨y, rfl⟩ : ∃ y, x = 2 * y := ⟨x / 2, by omega⟩
 rw [show 2 * y = y <<< 1 from by rw [Nat.shiftLeft_eq]; omega, Nat.shiftLeft_add_eq_or_of_lt (by omega)]
set_option maxRecDepth 100000 in
set_option maxHeartbeats 1000000 in
theorem reduced_any (N T : Nat) (hT1 : T ≤ 512) (hT2 : 512 ≤ T) (hN : N < 2 ^ T) (w : World) :
  Calls Tryz.prog 56 #[.agg #[.int .u64 (lw N 0 : Nat),.int .u64 (lw N 1 : Nat),.int .u64 (lw N 2 : Nat),.int .u64 (lw N 3 : Nat),.int .u64 (lw N 4 : Nat),.int .u64 (lw N 5 : Nat),.int .u64 (lw N 6 : Nat),.int .u64 (lw N 7 : Nat)]] w fun e w' => e = .returned (.agg #[.int .u64 (lw (N % Lq) 0 : Nat), .int .u64 (lw (N % Lq) 1 : Nat), .int .u64 (lw (N % Lq) 2 : Nat), .int .u64 (lw (N % Lq) 3 : Nat)]) ∧ Below w.heap.size w w' := by
 have HN := Lib.hid hN
 clear hN
 go_enter Tryz.func56, Tryz.ntmps56
 go_wp2
 refine wp_gen (fun W => Blk W w.heap.size (row 8 (wV N)) 84 ∧ Blk W (w.heap.size + 1) (row 4 (wV (N / 2 ^ T % Lq))) 48 ∧ Below w.heap.size w W) ?_ (fun W hW => ?_)
 ·refine ⟨(Blk.new w _ _).alloc _, ?_, belowBy⟩
  rw [Nat.div_eq_of_lt HN.out]
  exact Blk.new' (by simp)
 obtain ⟨hA, hO, hbel⟩ := hW
 go_loopw [3] (fun i wr => ∃ k : Nat, k ≤ 512 ∧ i = .int .i64 ((k : Int) - 1) ∧ Blk wr w.heap.size (row 8 (wV N)) 84 ∧ Blk wr (w.heap.size + 1) (row 4 (wV (N / 2 ^ k % Lq))) 48 ∧ Below w.heap.size w wr) (fun i _ => (intOf i + 1).toNat)
 case atStart => exact ⟨T, by omega, by congr 1; omega, hA, hO, hbel⟩
 case round =>
  clear hA hO hbel W
  obtain ⟨k, hk, rfl, hA, hO, hbel⟩ := hrel
  by_cases hk0 : k = 0
  ·subst hk0
   rw [Nat.pow_zero, Nat.div_one] at hO
   clear hA hk
   have ez : (((0 : Nat) : Int) - 1) = -1 := rfl
   rw [ez]
   clear ez
   generalize hx : N % Lq = x at *
   have HX := Lib.hid hx
   clear hx
   have gf := hO.frozen
   have g0 : wr.cell? ⟨w.heap.size + 1, 0, none⟩ = some (.int .u64 (lw x 0 : Nat)) := hO.at (by omega); have g1 : wr.cell? ⟨w.heap.size + 1, 1, none⟩ = some (.int .u64 (lw x 1 : Nat)) := hO.at (by omega); have g2 : wr.cell? ⟨w.heap.size + 1, 2, none⟩ = some (.int .u64 (lw x 2 : Nat)) := hO.at (by omega); have g3 : wr.cell? ⟨w.heap.size + 1, 3, none⟩ = some (.int .u64 (lw x 3 : Nat)) := hO.at (by omega)
   clear hO
   go_wp2
   exact bodyPost_ret (v := .agg #[.int .u64 (lw x 0 : Nat), .int .u64 (lw x 1 : Nat), .int .u64 (lw x 2 : Nat), .int .u64 (lw x 3 : Nat)]) (by simp [results, Tryz.results56, go_sem, g0, g1, g2, g3]) rfl ⟨by rw [HX.out], belowBy⟩
  ·obtain ⟨j, rfl⟩ : ∃ j, k = j + 1 := ⟨k - 1, by omega⟩
   have ej : (((j + 1 : Nat) : Int) - 1) = (j : Int) := by omega
   rw [ej]
   clear ej hk0
   have hr : N / 2 ^ (j + 1) % Lq < Lq := Nat.mod_lt _ (by unfold Lq; omega)
   have HS := Lib.hid (reduced_step N j)
   have HB := Lib.hid (or_digit (N / 2 ^ (j + 1) % Lq) N j)
   have hbit : N / 2 ^ j % 2 < 2 := Nat.mod_lt _ (by omega)
   have HL := Lib.hid (lw_low (N / 2 ^ (j + 1) % Lq) _ hbit)
   generalize hrr : N / 2 ^ (j + 1) % Lq = r at *
   clear hrr
   have h0 : wr.cell? ⟨w.heap.size + 1, 0, none⟩ = some (.int .u64 (lw r 0 : Nat)) := hO.at (by omega); have h1 : wr.cell? ⟨w.heap.size + 1, 1, none⟩ = some (.int .u64 (lw r 1 : Nat)) := hO.at (by omega); have h2 : wr.cell? ⟨w.heap.size + 1, 2, none⟩ = some (.int .u64 (lw r 2 : Nat)) := hO.at (by omega); have h3 : wr.cell? ⟨w.heap.size + 1, 3, none⟩ = some (.int .u64 (lw r 3 : Nat)) := hO.at (by omega)
   go_wp2_with (go_at_call 67; go_must (refine (plus_any r r _).mono ?_; rintro e w1 ⟨rfl, hb⟩; have hO1 := hO.below' hb; have hA1 := hA.below' hb; have hbel1 := hbel.trans (hb.mono hbel.size); have gf := hO1.frozen; have g0 : w1.cell? ⟨w.heap.size + 1, 0, none⟩ = some (.int .u64 (lw r 0 : Nat)) := hO1.at (by omega); have g1 : w1.cell? ⟨w.heap.size + 1, 1, none⟩ = some (.int .u64 (lw r 1 : Nat)) := hO1.at (by omega); have g2 : w1.cell? ⟨w.heap.size + 1, 2, none⟩ = some (.int .u64 (lw r 2 : Nat)) := hO1.at (by omega); have g3 : w1.cell? ⟨w.heap.size + 1, 3, none⟩ = some (.int .u64 (lw r 3 : Nat)) := hO1.at (by omega); clear hb hO hA hbel h0 h1 h2 h3))
   refine wp_gen (fun W => Blk W w.heap.size (row 8 (wV N)) 84 ∧ Blk W (w.heap.size + 1) (row 4 (wV (r + r))) 48 ∧ Below w.heap.size w W) ?_ (fun W hW => ?_)
   ·exact ⟨(((hA1.other _ (by simp) _).other _ (by simp) _).other _ (by simp) _).other _ (by simp) _, (((hO1.set 0 _).set 1 _).set 2 _).set 3 _, belowBy⟩
   obtain ⟨hA2, hO2, hbel2⟩ := hW
   clear hA1 hO1 hbel1 gf g0 g1 g2 g3
   have c0 : W.cell? ⟨w.heap.size + 1, 0, none⟩ = some (.int .u64 (lw (r + r) 0 : Nat)) := hO2.at (by omega)
   have cf := hO2.frozen 0
   have hj : j / 64 < 8 := by omega
   have c1 : W.cell? ⟨w.heap.size, j / 64, none⟩ = some (.int .u64 (lw N (j / 64) : Nat)) := hA2.at hj
   have hw0 : (0 : Int) ≤ (lw N (j / 64) : Nat) := by omega
   have hw1 : ((lw N (j / 64) : Nat) : Int) < 18446744073709551616 := by have := lw_lt N (j / 64); omega
   go_region
   rw [HB.out]
   have hO3 : Blk W (w.heap.size + 1) (row 4 (fun i => if i = 0 then wV (r + r) 0 else wV (r + r + N / 2 ^ j % 2) i)) 48 := by
    rw [row_ext (g := wV (r + r))]
    ·exact hO2
    ·intro i _
     cases i with
     | zero => rfl
     | succ i => unfold wV; simp only [Nat.add_eq_zero_iff, Nat.succ_ne_self, and_false, if_false]; rw [HL.out.2]
   have o1 : W.cell? ⟨w.heap.size + 1, 1, none⟩ = some (.int .u64 (lw (r + r + N / 2 ^ j % 2) 1 : Nat)) := hO3.at (by omega)
   have o2 : W.cell? ⟨w.heap.size + 1, 2, none⟩ = some (.int .u64 (lw (r + r + N / 2 ^ j % 2) 2 : Nat)) := hO3.at (by omega)
   have o3 : W.cell? ⟨w.heap.size + 1, 3, none⟩ = some (.int .u64 (lw (r + r + N / 2 ^ j % 2) 3 : Nat)) := hO3.at (by omega)
   have hO4 := hO3.set 0 (wV (r + r + N / 2 ^ j % 2) 0)
   rw [row_set (g := wV (r + r + N / 2 ^ j % 2)) 0 _ rfl (fun i _ h => by rw [if_neg h])] at hO4
   clear hO2 hO3 c1 hw0 hw1 hj HB HL
   have hA4 := hA2.other ⟨w.heap.size + 1, 0, none⟩ (by simp) (wV (r + r + N / 2 ^ j % 2) 0)
   have hbel4 : Below w.heap.size w (W.setCell ⟨w.heap.size + 1, 0, none⟩ (wV (r + r + N / 2 ^ j % 2) 0)) := belowBy
   have hbd : r + r + N / 2 ^ j % 2 < 2 ^ 256 := by unfold Lq at hr; omega
   rw [show 2 * r + N / 2 ^ j % 2 = r + r + N / 2 ^ j % 2 from by omega] at HS
   generalize hx : r + r + N / 2 ^ j % 2 = x at *
   clear hx
   unfold wV at hO4 hA4 hbel4
   go_wp2_with (go_at_call 68; go_must (refine (once_any x hbd _).mono ?_; rintro e w2 ⟨rfl, hb⟩; have hO5 := (Blk.drew hO4).below' hb; have hA5 := (Blk.drew hA4).below' hb; have hbel5 := (Below.drew hbel4).trans (hb.mono (Below.drew hbel4).size); have gf := hO5.frozen; have g0 : w2.cell? ⟨w.heap.size + 1, 0, none⟩ = some (.int .u64 (lw x 0 : Nat)) := hO5.at (by omega); have g1 : w2.cell? ⟨w.heap.size + 1, 1, none⟩ = some (.int .u64 (lw x 1 : Nat)) := hO5.at (by omega); have g2 : w2.cell? ⟨w.heap.size + 1, 2, none⟩ = some (.int .u64 (lw x 2 : Nat)) := hO5.at (by omega); have g3 : w2.cell? ⟨w.heap.size + 1, 3, none⟩ = some (.int .u64 (lw x 3 : Nat)) := hO5.at (by omega); clear hb hO4 hA4 hbel4 o1 o2 o3 c0 cf hA2 hbel2))
   go_roundw
   case rel =>
    refine ⟨j, by omega, by first | rfl | (congr 1; omega), (((hA5.other _ (by simp) _).other _ (by simp) _).other _ (by simp) _).other _ (by simp) _, ?_, belowBy⟩
    rw [← HS.out]
    exact (((hO5.set 0 _).set 1 _).set 2 _).set 3 _
   case measure => simp [intOf] <;> omega
end Go.Proofs.YtielgpefoameiaaGreat
namespace Go.Proofs.YtielgpefoameiaaGreat
open Go.RowKit
theorem row8 (f : Nat → Value) : row 8 f = [f 0, f 1, f 2, f 3, f 4, f 5, f 6, f 7] := rfl
theorem row8_zero : row 8 (wV 0) = [.int .u64 0, .int .u64 0, .int .u64 0, .int .u64 0, .int .u64 0, .int .u64 0, .int .u64 0, .int .u64 0] := by
 simp only [row8, wV0]
set_option maxRecDepth 100000 in
set_option maxHeartbeats 1000000 in
theorem wide_any {a : Option Addr} {n cap : Nat} {l : List UInt8} (w : World) (h : RdB w a n cap l) :
  Calls Tryz.prog 20 #[.slice a n cap] w fun e w' => e = .returned (.agg #[.int .u64 (lw (leN (first l 64) % Lq) 0 : Nat), .int .u64 (lw (leN (first l 64) % Lq) 1 : Nat), .int .u64 (lw (leN (first l 64) % Lq) 2 : Nat), .int .u64 (lw (leN (first l 64) % Lq) 3 : Nat)]) ∧ Below w.heap.size w w' := by
 have hlen := first_len l 64
 generalize hfl : first l 64 = fl at *
 have HF := Lib.hid hfl; have HL := Lib.hid hlen
 clear hfl hlen
 go_enter Tryz.func20, Tryz.ntmps20
 go_wp2_with (go_at_call 55; go_must (refine (first_any 64 (by omega) _ (h.below belowBy)).mono ?_; rintro e w1 ⟨rfl, hB, hb⟩))
 have hbel : Below w.heap.size w w1 := Below.call belowBy hb
 have hO : Blk w1 w.heap.size (row 4 (wV 0)) 48 := by
  simp only [row4, wV0]
  exact ((Blk.new w _ _).alloc _).below' hb
 have hA : Blk w1 (w.heap.size + 1) (row 8 (wV (leN (fl.take 0)))) 84 := by
  rw [List.take_zero, show leN [] = 0 from rfl, row8_zero]
  exact (Blk.new' (by simp)).below' hb
 rw [HF.out] at hB
 clear hb h
 have hB : Blk w1 (w.heap.size + 1 + 1) (fl.map bV) 5 := by simpa using hB
 go_loopw [9] (fun i wr => ∃ k : Nat, k ≤ 64 ∧ i = .int .i64 k ∧ Blk wr (w.heap.size + 1) (row 8 (wV (leN (fl.take k)))) 84 ∧ Blk wr w.heap.size (row 4 (wV 0)) 48 ∧ Blk wr (w.heap.size + 1 + 1) (fl.map bV) 5 ∧ Below w.heap.size w wr) (fun i _ => 64 - (intOf i).toNat)
 case atStart => exact ⟨0, by omega, rfl, hA, hO, hB, hbel⟩
 case round =>
  clear hA hO hB hbel
  obtain ⟨k, hk, rfl, hA, hO, hB, hbel⟩ := hrel
  by_cases hlt : k < 64
  ·have hkl : k < fl.length := by rw [HL.out]; exact hlt
   have hcb : wr.cell? ⟨w.heap.size + 1 + 1, k, none⟩ = some (.int .u8 (fl[k].toNat : Int)) := by rw [hB.cell]; simp [hkl, bV]
   have HT := Lib.hid (leN_take fl k hkl)
   have hn := leN_take_lt fl k
   have HC := Lib.hid (fl[k].toNat_lt)
   generalize leN (fl.take k) = x at *
   generalize fl[k].toNat = c at *
   obtain ⟨ci, hci⟩ : ∃ ci : Int, ci = (c : Int) := ⟨_, rfl⟩
   have HI := Lib.hid hci
   rw [← hci] at hcb
   have hc0 : 0 ≤ ci := by omega
   have hc1 : ci < 256 := by have := HC.out; omega
   clear hci
   have hq : k / 8 < 8 := by omega
   have ca : wr.cell? ⟨w.heap.size + 1, k / 8, none⟩ = some (.int .u64 (lw x (k / 8) : Nat)) := hA.at hq
   have cf := hA.frozen (k / 8)
   have HN := Lib.hid hn
   have HS := Lib.hid (or_byteI x k c ci HI.out HN.out HC.out)
   have HO := Lib.hid hO; have HB := Lib.hid hB; have HA := Lib.hid hA
   clear hn hO hB hA
   go_wp2
   go_region
   rw [HS.out]
   have hA2 := HA.out.set (k / 8) (wV (x + c * 256 ^ k) (k / 8))
   rw [row_set (g := wV (x + c * 256 ^ k)) _ _ rfl (fun i _ hi => by unfold wV; rw [or_other x k c i HN.out HC.out hi])] at hA2
   have hO2 := HO.out.other ⟨w.heap.size + 1, k / 8, none⟩ (by simp) (wV (x + c * 256 ^ k) (k / 8))
   have hB2 := HB.out.other ⟨w.heap.size + 1, k / 8, none⟩ (by simp) (wV (x + c * 256 ^ k) (k / 8))
   have HA2 := Lib.hid hA2; have HO2 := Lib.hid hO2; have HB2 := Lib.hid hB2
   clear hA2 hO2 hB2 ca cf hcb
   go_wp2
   go_roundw
   case rel => exact ⟨k + 1, by omega, by go_num, by rw [HT.out]; exact HA2.out.drew, HO2.out.drew, HB2.out.drew, belowBy⟩
   case measure => simp [intOf] <;> omega
  ·obtain rfl : k = 64 := by omega
   rw [List.take_of_length_le (by rw [HL.out]; omega)] at hA
   have hN : leN fl < 2 ^ (8 * 64) := by have := leN_lt fl; rw [HL.out, p256] at this; exact this
   have HN := Lib.hid hN
   clear hN hB hlt hk
   generalize hx : leN fl = x at *
   have HX := Lib.hid hx
   clear hx
   have g0 : wr.cell? ⟨w.heap.size + 1, 0, none⟩ = some (.int .u64 (lw x 0 : Nat)) := hA.at (by omega); have g1 : wr.cell? ⟨w.heap.size + 1, 1, none⟩ = some (.int .u64 (lw x 1 : Nat)) := hA.at (by omega); have g2 : wr.cell? ⟨w.heap.size + 1, 2, none⟩ = some (.int .u64 (lw x 2 : Nat)) := hA.at (by omega); have g3 : wr.cell? ⟨w.heap.size + 1, 3, none⟩ = some (.int .u64 (lw x 3 : Nat)) := hA.at (by omega); have g4 : wr.cell? ⟨w.heap.size + 1, 4, none⟩ = some (.int .u64 (lw x 4 : Nat)) := hA.at (by omega); have g5 : wr.cell? ⟨w.heap.size + 1, 5, none⟩ = some (.int .u64 (lw x 5 : Nat)) := hA.at (by omega); have g6 : wr.cell? ⟨w.heap.size + 1, 6, none⟩ = some (.int .u64 (lw x 6 : Nat)) := hA.at (by omega); have g7 : wr.cell? ⟨w.heap.size + 1, 7, none⟩ = some (.int .u64 (lw x 7 : Nat)) := hA.at (by omega)
   go_wp2_with (go_at_call 56; go_must (refine (reduced_any x (8 * 64) (by omega) (by omega) HN.out _).mono ?_; rintro e w2 ⟨rfl, hb⟩; have hO1 := hO.below' hb; have hbel1 := Below.call hbel hb; have gf := hO1.frozen; have o0 : w2.cell? ⟨w.heap.size, 0, none⟩ = some (.int .u64 (lw 0 0 : Nat)) := hO1.at (by omega); have o1 : w2.cell? ⟨w.heap.size, 1, none⟩ = some (.int .u64 (lw 0 1 : Nat)) := hO1.at (by omega); have o2 : w2.cell? ⟨w.heap.size, 2, none⟩ = some (.int .u64 (lw 0 2 : Nat)) := hO1.at (by omega); have o3 : w2.cell? ⟨w.heap.size, 3, none⟩ = some (.int .u64 (lw 0 3 : Nat)) := hO1.at (by omega); clear hb hO hA))
   exact bodyPost_ret (v := .agg #[.int .u64 (lw (x % Lq) 0 : Nat), .int .u64 (lw (x % Lq) 1 : Nat), .int .u64 (lw (x % Lq) 2 : Nat), .int .u64 (lw (x % Lq) 3 : Nat)]) (by simp [results, Tryz.results20, go_sem, o0, o1, o2, o3]) rfl ⟨by rw [HX.out], belowBy⟩
set_option maxRecDepth 100000 in
set_option maxHeartbeats 1000000 in
theorem bytes_blk (n : Nat) (w : World) :
  Calls Tryz.prog 29 #[.agg #[.int .u64 (lw n 0 : Nat), .int .u64 (lw n 1 : Nat), .int .u64 (lw n 2 : Nat), .int .u64 (lw n 3 : Nat)]] w fun e w' => ∃ g cap r, e = .returned (.slice (some ⟨g, 0, none⟩) 32 cap) ∧ w.heap.size ≤ g ∧ Blk w' g ((leB 32 n).map bV ++ r) 5 ∧ 32 ≤ cap ∧ cap ≤ maxLen ∧ Below w.heap.size w w' := by
 obtain ⟨i0, hi, hz0, hz1, hz2⟩ := info_parts infoU8
 go_enter Tryz.func29, Tryz.ntmps29
 go_wp2
 go_loopw [2, 7] (fun v i wr => ∃ k : Nat, k ≤ 4 ∧ i = .int .i64 k ∧ wr.ownsRow w.heap.size 5 1 v (8 * k) ((leB (8 * k) n).map bV) ∧ Below w.heap.size w wr) (fun _ i _ => 4 - (intOf i).toNat)
 case atStart => exact ⟨0, by omega, rfl, ⟨rfl, .inl ⟨rfl, rfl⟩⟩, belowBy⟩
 case round =>
  obtain ⟨k, hk, rfl, hown, hbel⟩ := hrel
  by_cases hlt : k < 4
  ·have hx := ix4 n k hlt
   have hw := lw_lt n k
   have HW := Lib.hid (leB_words n k)
   have HI := Lib.hid hi; have HZ0 := Lib.hid hz0; have HZ1 := Lib.hid hz1; have HZ2 := Lib.hid hz2
   clear hi hz0 hz1 hz2
   go_wp2_with (first | (go_at_call 71; go_must (refine (little_any hw _).mono ?_; rintro e w1 ⟨rfl, hB, hb⟩; have hown1 := own_below hown hb; have hbel1 := Below.call hbel hb; have HB := Lib.hid hB; clear hown hbel hB hb)) | (at_builtin; go_must (refine wpList_append_own _ rfl (.tmp 10) (.tmp 12) 22 rfl w.heap.size 5 i0 (.int .u8 0) 1 1 Tryz.underlying22 HI.out HZ0.out HZ1.out HZ2.out rfl (by decide) _ (8 * k) _ rfl hown1 ⟨wr.heap.size, 0, none⟩ 8 8 ((leB 8 (lw n k)).map bV) rfl ?c1 ?c2 (bV_one _) ?c3 ?c4 hbel1.size ?c5)))
   case c1 => simp [leB_len]
   case c2 =>
    intro j u hu
    have := HB.out.cell j
    rw [addr_add, Nat.zero_add, this]; exact hu
   case c3 => unfold maxLen; omega
   case c4 => omega
   case c5 =>
    intro v' w2 hown2 hgr _
    rw [← List.map_append, ← HW.out, show 8 * k + 8 = 8 * (k + 1) from rfl] at hown2
    have hbel2 : Below w.heap.size w w2 := hbel1.grown hgr hbel1.size (fun q hq => by
     rcases hown1.2 with ⟨h, _⟩ | ⟨g, cap, cur, hv, hg, _⟩
     ·rw [h] at hq; simp [Value.ownBlock] at hq
     ·rw [hv] at hq; simp [Value.ownBlock] at hq; omega)
    clear hown1 hbel1 hgr HB HW HI HZ0 HZ1 HZ2 hw hx
    go_wp2
    go_roundw
    case rel => exact ⟨k + 1, by omega, by go_num, hown2, hbel2⟩
    case measure => simp [intOf] <;> omega
  ·obtain rfl : k = 4 := by omega
   obtain ⟨g, cap, r, rfl, hg, hB, hl, hc, hm⟩ := own_rdb hown (by omega)
   have HR := Lib.hid hB
   clear hown hB hl hi hz0 hz1 hz2
   go_wp2
   go_ret
   exact ⟨g, cap, r, rfl, hg, HR.out, hc, hm, hbel⟩
end Go.Proofs.YtielgpefoameiaaGreat
namespace Go.Proofs.YtielgpefoameiaaGreat
open Go.RowKit
set_option maxRecDepth 100000 in
set_option maxHeartbeats 1000000 in
theorem add_any (a b : Nat) (hab : a + b < 2 ^ 256) (w : World) :
  Calls Tryz.prog 27 #[.agg #[.int .u64 (lw a 0 : Nat), .int .u64 (lw a 1 : Nat), .int .u64 (lw a 2 : Nat), .int .u64 (lw a 3 : Nat)], .agg #[.int .u64 (lw b 0 : Nat), .int .u64 (lw b 1 : Nat), .int .u64 (lw b 2 : Nat), .int .u64 (lw b 3 : Nat)]] w fun e w' => e = .returned (.agg #[.int .u64 (lw (once (a + b)) 0 : Nat), .int .u64 (lw (once (a + b)) 1 : Nat), .int .u64 (lw (once (a + b)) 2 : Nat), .int .u64 (lw (once (a + b)) 3 : Nat)]) ∧ Below w.heap.size w w' := by
 go_enter Tryz.func27, Tryz.ntmps27
 go_wp2_with (first | (go_at_call 67; go_must (refine (plus_any a b _).mono ?_; rintro e w1 ⟨rfl, hb1⟩; obtain ⟨hc1, hf1⟩ := bcell hb1; have hz1 := hb1.size; simp at hz1; have hz1' : w.heap.size + 1 + 1 < w1.heap.size := (by omega); clear hz1))     | (go_at_call 68; go_must (refine (once_any (a + b) hab _).mono ?_; rintro e w2 ⟨rfl, hb2⟩; obtain ⟨hc2, hf2⟩ := bcell hb2)))
 have hbel1 : Below w.heap.size w w1 := Below.call belowBy hb1
 have hbel2 := Below.call hbel1 hb2
 exact bodyPost_ret (v := .agg #[.int .u64 (lw (once (a + b)) 0 : Nat), .int .u64 (lw (once (a + b)) 1 : Nat), .int .u64 (lw (once (a + b)) 2 : Nat), .int .u64 (lw (once (a + b)) 3 : Nat)]) (by simp [results, Tryz.results27, go_sem, hc1, hc2, hz1']) rfl ⟨rfl, belowBy⟩
set_option maxRecDepth 100000 in
set_option maxHeartbeats 1000000 in
theorem scbit_any (n k : Nat) (hk : k < 256) (w : World) :
  Calls Tryz.prog 61 #[.agg #[.int .u64 (lw n 0 : Nat), .int .u64 (lw n 1 : Nat), .int .u64 (lw n 2 : Nat), .int .u64 (lw n 3 : Nat)], .int .i64 k] w fun e w' => e = .returned (.int .i64 (n / 2 ^ k % 2 : Nat)) ∧ Below w.heap.size w w' := by
 have hx : [Value.int IntKind.u64 (lw n 0 : Nat), Value.int IntKind.u64 (lw n 1 : Nat), Value.int IntKind.u64 (lw n 2 : Nat), Value.int IntKind.u64 (lw n 3 : Nat)][k / 64]? = some (.int .u64 (lw n (k / 64) : Nat)) := by
  have h : k / 64 = 0 ∨ k / 64 = 1 ∨ k / 64 = 2 ∨ k / 64 = 3 := by omega
  rcases h with h | h | h | h <;> rw [h] <;> rfl
 have HB : Hid (bits BinOp.and IntKind.u64 (((lw n (k / 64) : Nat) : Int) / 2 ^ (k % 64)) 1 = (n / 2 ^ k % 2 : Nat)) := by
  refine Lib.hid ?_
  have hq : lw n (k / 64) / 2 ^ (k % 64) < 18446744073709551616 := Nat.lt_of_le_of_lt (Nat.div_le_self _ _) (lw_lt _ _)
  have e : ((lw n (k / 64) : Nat) : Int) / 2 ^ (k % 64) = ((lw n (k / 64) / 2 ^ (k % 64) : Nat) : Int) := by simp
  rw [e, show (1 : Int) = ((1 : Nat) : Int) from rfl, u64_and_nat _ 1 hq (by omega), Nat.and_one_is_mod, lw_bit]
 have hl := lw_lt n (k / 64)
 generalize lw n (k / 64) = x at *
 obtain ⟨xi, hxi⟩ : ∃ xi : Int, xi = (x : Int) := ⟨_, rfl⟩
 rw [← hxi] at hx HB
 have hx0 : 0 ≤ xi := by omega
 have hx1 : xi < 18446744073709551616 := by omega
 clear hxi hl
 go_enter Tryz.func61, Tryz.ntmps61
 go_wp2
 go_ret
 refine ⟨ret_int (b := (n / 2 ^ k % 2 : Nat)) ?_, belowBy⟩
 rw [HB.out, IntWalk.wrap64_in]; omega
set_option maxRecDepth 100000 in
theorem scbit_no (n : Nat) {k : Int} (hk : ¬ (0 ≤ k ∧ k ≤ 255)) (w : World) : Calls Tryz.prog 61 #[.agg #[.int .u64 (lw n 0 : Nat), .int .u64 (lw n 1 : Nat), .int .u64 (lw n 2 : Nat), .int .u64 (lw n 3 : Nat)], .int .i64 k] w fun e w' => e = .returned (.int .i64 0) ∧ Below w.heap.size w w' := by
 by_cases h0 : k < 0
 ·have d1 : decide (k < 0) = true := decide_eq_true h0
  clear hk h0
  go_enter Tryz.func61, Tryz.ntmps61
  go_wp2
  go_ret
  exact ⟨rfl, belowBy⟩
 ·have d1 : decide (k < 0) = false := decide_eq_false h0
  have d2 : decide (256 ≤ k) = true := decide_eq_true (by omega)
  clear hk h0
  go_enter Tryz.func61, Tryz.ntmps61
  go_wp2
  go_ret
  exact ⟨rfl, belowBy⟩
end Go.Proofs.YtielgpefoameiaaGreat
namespace Go.Proofs.YtielgpefoameiaaGreat
open Go.RowKit
/-- One step of a product: x y + c + z in two words. -/
theorem mac_num (x y c z : Nat) (hx : x < 18446744073709551616) (hy : y < 18446744073709551616) (hc : c < 18446744073709551616) (hz : z < 18446744073709551616) :
  adds (z : Int) (adds (mlo x y) c 0) 0 = ((x * y + c + z) % 18446744073709551616 : Nat) ∧
  IntKind.u64.wrap (IntKind.u64.wrap (mhi x y + addc (mlo x y) c 0) + addc (z : Int) (adds (mlo x y) c 0) 0) = ((x * y + c + z) / 18446744073709551616 : Nat) := by
 have h5 : x * y ≤ 18446744073709551615 * 18446744073709551615 := Nat.mul_le_mul (by omega) (by omega)
 unfold adds addc mlo mhi
 rw [wrapU, wrapU]
 rw [show (x : Int) * (y : Int) = ((x * y : Nat) : Int) from by simp]
 generalize x * y = p at *
 constructor
 ·omega
 ·omega
/-- The words of a product on its way. -/
def prV (a b i j : Nat) (q : Nat) : Value := if q < i + j then wV (prA a b i + prS a b i j) q else wV (prA a b i) q
theorem prV_at (a b i j : Nat) : prV a b i j (i + j) = .int .u64 (lw (prA a b i) (i + j) : Nat) := by unfold prV; rw [if_neg (by omega)]; rfl
theorem prV_set (a b i j : Nat) : (row 8 (prV a b i j)).set (i + j) (.int .u64 (lw (prA a b i + prS a b i (j + 1)) (i + j) : Nat)) = row 8 (prV a b i (j + 1)) :=
 row_set _ _ (by unfold prV; rw [if_pos (by omega)]; rfl) (fun q _ h => by
  unfold prV
  by_cases h1 : q < i + j
  ·rw [if_pos h1, if_pos (by omega)]; unfold wV; rw [pr_low a b i j q h1]
  ·rw [if_neg h1, if_neg (by omega)])
theorem prV_zero (a b i : Nat) : row 8 (prV a b i 0) = row 8 (wV (prA a b i)) := row_ext fun q _ => by
 unfold prV
 rw [show prS a b i 0 = 0 from by unfold prS; rw [Nat.mul_zero, Nat.pow_zero, Nat.mod_one, Nat.mul_zero], Nat.add_zero]
 split <;> rfl
theorem prV_top (a b i : Nat) (hb : b < 2 ^ 256) : (row 8 (prV a b i 4)).set (i + 4) (.int .u64 (prC a b i 4 : Nat)) = row 8 (wV (prA a b (i + 1))) :=
 row_set _ _ (by unfold wV; rw [pr_top a b i hb]) (fun q _ h => by
  unfold prV
  by_cases h1 : q < i + 4
  ·rw [if_pos h1, prA_succ a b i hb]
  ·rw [if_neg h1]; unfold wV
   rw [lw_high (prA_lt a b i hb) (by omega), lw_high (prA_lt a b (i + 1) hb) (by omega)])
set_option maxRecDepth 100000 in
set_option maxHeartbeats 2000000 in
theorem scmul_any (a b : Nat) (ha : a < 2 ^ 256) (hb : b < 2 ^ 256) (w : World) :
  Calls Tryz.prog 28 #[.agg #[.int .u64 (lw a 0 : Nat), .int .u64 (lw a 1 : Nat), .int .u64 (lw a 2 : Nat), .int .u64 (lw a 3 : Nat)], .agg #[.int .u64 (lw b 0 : Nat), .int .u64 (lw b 1 : Nat), .int .u64 (lw b 2 : Nat), .int .u64 (lw b 3 : Nat)]] w fun e w' => e = .returned (.agg #[.int .u64 (lw (a * b % Lq) 0 : Nat), .int .u64 (lw (a * b % Lq) 1 : Nat), .int .u64 (lw (a * b % Lq) 2 : Nat), .int .u64 (lw (a * b % Lq) 3 : Nat)]) ∧ Below w.heap.size w w' := by
 have HB := Lib.hid hb; have HA := Lib.hid ha
 clear ha hb
 go_enter Tryz.func28, Tryz.ntmps28
 go_wp2
 refine wp_gen (fun W => Blk W (w.heap.size + 1) (row 4 (wV b)) 48 ∧ Blk W (w.heap.size + 1 + 1 + 1) (row 8 (wV (prA a b 0))) 84 ∧ Blk W (w.heap.size + 1 + 1) (row 4 (wV 0)) 48 ∧ Below w.heap.size w W) ?_ (fun W hW => ?_)
 ·refine ⟨((Blk.new' (by simp)).alloc _).alloc _, ?_, ?_, belowBy⟩
  ·rw [show prA a b 0 = 0 from by unfold prA; rw [Nat.mul_zero, Nat.pow_zero, Nat.mod_one, Nat.zero_mul], row8_zero]
   exact Blk.new' (by simp)
  ·simp only [row4, wV0]
   exact (Blk.new' (by simp)).alloc _
 obtain ⟨hb1, hw1, ho1, hbl1⟩ := hW
 go_loopw [16] (fun i wr => ∃ k : Nat, k ≤ 4 ∧ i = .int .i64 k ∧ Blk wr (w.heap.size + 1) (row 4 (wV b)) 48 ∧ Blk wr (w.heap.size + 1 + 1 + 1) (row 8 (wV (prA a b k))) 84 ∧ Blk wr (w.heap.size + 1 + 1) (row 4 (wV 0)) 48 ∧ Below w.heap.size w wr) (fun i _ => 4 - (intOf i).toNat)
 case atStart => exact ⟨0, by omega, rfl, hb1, hw1, ho1, hbl1⟩
 case round =>
  clear hb1 hw1 ho1 hbl1 W
  obtain ⟨i, hi, rfl, hbB, hwB, hoB, hbl⟩ := hrel
  obtain ⟨wo, hwo⟩ : ∃ wo : World, wo = wr := ⟨_, rfl⟩
  by_cases hlt : i < 4
  ·have hx := ix4 a i hlt
   have hdd : decide ((i : Int) < 4) = true := by simp; omega
   have hbc := hbB.cell
   rw [row4] at hbc
   unfold wV at hbc
   go_wp2
   clear hx hbc
   go_loopw [8, 22] (fun c j wr => ∃ k : Nat, k ≤ 4 ∧ j = .int .i64 k ∧ c = .int .u64 (prC a b i k : Nat) ∧ Blk wr (w.heap.size + 1) (row 4 (wV b)) 48 ∧ Blk wr (w.heap.size + 1 + 1 + 1) (row 8 (prV a b i k)) 84 ∧ Blk wr (w.heap.size + 1 + 1) (row 4 (wV 0)) 48 ∧ Below w.heap.size w wr) (fun _ j _ => 4 - (intOf j).toNat)
   case atStart => exact ⟨0, by omega, rfl, by rw [prC_zero]; rfl, hbB, by rw [prV_zero]; exact hwB, hoB, hbl⟩
   case round =>
    subst hwo
    clear hbB hwB hoB hbl
    obtain ⟨j, hj, rfl, rfl, hbB, hwB, hoB, hbl⟩ := hrel
    by_cases hlt' : j < 4
    ·have hy := ix4 b j hlt'
     have hij : i + j < 8 := by omega
     have cw := hwB.at hij
     rw [prV_at] at cw
     have cf := hwB.frozen (i + j)
     have hzl := lw_lt (prA a b i) (i + j)
     have hm := mac_num (lw a i) (lw b j) (prC a b i j) (lw (prA a b i) (i + j)) (lw_lt _ _) (lw_lt _ _) (prC_lt _ _ _ _) hzl
     rw [← (pr_word a b i j).1, ← (pr_word a b i j).2] at hm
     have h1 := fun w => add64 (mlo_wd (lw a i : Nat) (lw b j : Nat)) (y := (prC a b i j : Nat)) ⟨by omega, by have := prC_lt a b i j; omega⟩ Cy.zero w
     have h2 := fun w => add64 (x := (lw (prA a b i) (i + j) : Nat)) ⟨by omega, by omega⟩ (adds_wd (mlo (lw a i : Nat) (lw b j : Nat)) (prC a b i j : Nat) 0) Cy.zero w
     rw [hm.1] at h2
     have HM := Lib.hid hm.2
     have HBb := Lib.hid hbB; have HWb := Lib.hid hwB; have HOb := Lib.hid hoB
     clear hm hzl hbB hwB hoB
     have HW2 := Lib.hid (HWb.out.set (i + j) (.int .u64 (lw (prA a b i + prS a b i (j + 1)) (i + j) : Nat)))
     have HB2 := Lib.hid (HBb.out.other ⟨w.heap.size + 1 + 1 + 1, i + j, none⟩ (by simp; omega) (.int .u64 (lw (prA a b i + prS a b i (j + 1)) (i + j) : Nat)))
     have HO2 := Lib.hid (HOb.out.other ⟨w.heap.size + 1 + 1 + 1, i + j, none⟩ (by simp) (.int .u64 (lw (prA a b i + prS a b i (j + 1)) (i + j) : Nat)))
     clear HWb HBb HOb
     go_wp2_with (go_at_call 69; go_must (refine (mul64_o (Wd.lw a i) (Wd.lw b j) _).mono ?_; rintro e w1 ⟨rfl, rfl⟩))
     go_roundw
     case rel => exact ⟨j + 1, by omega, by go_num, by rw [HM.out], HB2.out, by have := HW2.out; rw [prV_set] at this; exact this, HO2.out, belowBy⟩
     case measure => simp [intOf]; omega
    ·obtain rfl : j = 4 := by omega
     have hi4 : i + 4 < 8 := by omega
     have cw : ∃ v, wr.cell? ⟨w.heap.size + 1 + 1 + 1, i + 4, none⟩ = some v := ⟨_, hwB.at hi4⟩
     obtain ⟨v, cw⟩ := cw
     have cf := hwB.frozen (i + 4)
     have HWb := Lib.hid (hwB.set (i + 4) (.int .u64 (prC a b i 4 : Nat)))
     have HBb := Lib.hid (hbB.other ⟨w.heap.size + 1 + 1 + 1, i + 4, none⟩ (by simp; omega) (.int .u64 (prC a b i 4 : Nat)))
     have HOb := Lib.hid (hoB.other ⟨w.heap.size + 1 + 1 + 1, i + 4, none⟩ (by simp) (.int .u64 (prC a b i 4 : Nat)))
     clear hbB hwB hoB
     go_wp2
     go_roundw
     case rel => exact ⟨i + 1, by omega, by go_num, HBb.out, by have := HWb.out; rw [prV_top a b i HB.out] at this; exact this, HOb.out, belowBy⟩
     case measure => simp [intOf]; omega
  ·obtain rfl : i = 4 := by omega
   clear hwo
   rw [show prA a b 4 = a * b from by unfold prA; rw [Nat.mod_eq_of_lt (show a < 2 ^ (64 * 4) from HA.out)]] at hwB
   have HN := Lib.hid (lt_pow_mul HA.out HB.out)
   rw [row4] at hoB
   simp only [wV0] at hoB
   clear hbB hlt hi
   have g0 : wr.cell? ⟨w.heap.size + 1 + 1 + 1, 0, none⟩ = some (.int .u64 (lw (a * b) 0 : Nat)) := hwB.at (by omega); have g1 : wr.cell? ⟨w.heap.size + 1 + 1 + 1, 1, none⟩ = some (.int .u64 (lw (a * b) 1 : Nat)) := hwB.at (by omega); have g2 : wr.cell? ⟨w.heap.size + 1 + 1 + 1, 2, none⟩ = some (.int .u64 (lw (a * b) 2 : Nat)) := hwB.at (by omega); have g3 : wr.cell? ⟨w.heap.size + 1 + 1 + 1, 3, none⟩ = some (.int .u64 (lw (a * b) 3 : Nat)) := hwB.at (by omega); have g4 : wr.cell? ⟨w.heap.size + 1 + 1 + 1, 4, none⟩ = some (.int .u64 (lw (a * b) 4 : Nat)) := hwB.at (by omega); have g5 : wr.cell? ⟨w.heap.size + 1 + 1 + 1, 5, none⟩ = some (.int .u64 (lw (a * b) 5 : Nat)) := hwB.at (by omega); have g6 : wr.cell? ⟨w.heap.size + 1 + 1 + 1, 6, none⟩ = some (.int .u64 (lw (a * b) 6 : Nat)) := hwB.at (by omega); have g7 : wr.cell? ⟨w.heap.size + 1 + 1 + 1, 7, none⟩ = some (.int .u64 (lw (a * b) 7 : Nat)) := hwB.at (by omega)
   go_wp2_with (go_at_call 56; go_must (refine (reduced_any (a * b) (256 + 256) (by omega) (by omega) HN.out _).mono ?_; rintro e w2 ⟨rfl, hb⟩; have hO2 := hoB.below' hb; have oc := hO2.cell; have of := hO2.frozen; have hbel2 := Below.call hbl hb; clear hb hO2))
   exact bodyPost_ret (v := .agg #[.int .u64 (lw (a * b % Lq) 0 : Nat), .int .u64 (lw (a * b % Lq) 1 : Nat), .int .u64 (lw (a * b % Lq) 2 : Nat), .int .u64 (lw (a * b % Lq) 3 : Nat)]) (by simp [results, Tryz.results28, go_sem, oc]) rfl ⟨rfl, belowBy⟩
end Go.Proofs.YtielgpefoameiaaGreat
namespace Go.Proofs.YtielgpefoameiaaGreat
open Go.RowKit
set_option maxRecDepth 100000 in
set_option maxHeartbeats 400000 in
theorem fill_any {a : Option Addr} {n cap : Nat} {l : List UInt8} (k : Nat) (hk : k ≤ 1000) (w : World) (h : RdB w a n cap l) :
  Calls Tryz.prog 87 #[.slice a n cap, .int .i64 k] w fun e w' => e = .returned (.slice (some ⟨w.heap.size, 0, none⟩) k k) ∧ Blk w' w.heap.size ((first l k).map bV) 5 ∧ Below w.heap.size w w' := by
 obtain ⟨i0, hi, hz0, hz1, hz2⟩ := info_parts infoU8
 have hkk : k ≤ maxLen := by unfold maxLen; omega
 have hgl := Lib.hid h.hlen
 go_enter Tryz.func87, Tryz.ntmps87
 go_wp2_with (at_make; refine wpList_make_full _ rfl _ _ 22 rfl w.heap.size 5 i0 (.int .u8 0) 1 Tryz.underlying22 hi hz0 hz1 .i64 .i64 _ _ k rfl rfl rfl rfl ?_ hkk (Nat.le_refl _) ?_)
 ·rw [hz2]; omega
 ·intro w1 hown hgr
  have hB := Blk.own hown
  have hb1 : Below w.heap.size w w1 := (Below.refl _ _).grown hgr (Nat.le_refl _) (by simp)
  rw [madeU8 k] at hB
  clear hown hgr hi hz0 hz1 hz2
  have h1 := h.below hb1
  go_wp2_with (refine wpList_copy_splice rfl (.tmp 8) (.tmp 9) 22 22 rfl 5 Tryz.underlying22 infoSz _ _ _ _ _ _ rfl rfl w.heap.size 0 (zer k) 5 hB (cpy l (Nat.min n k)) ?_ ?_ ?_ (cpy_one _ _) w.heap.size w hb1 (Nat.le_refl _) ?_)
  ·rw [cpy_len, hgl.out]; show min (min n k) n = min n k; omega
  ·exact fun hpos => h1.src _ hpos
  ·rw [zer_len, cpy_len]; show 0 + min (min n k) l.length ≤ k; omega
  ·intro w2 hB2 hb2
   have hB3 : Hid (Blk w2 w.heap.size ((first l k).map bV) 5) := by
    rw [splice_first l k n hgl.out] at hB2; exact hB2
   clear hB2
   go_wp2
   go_ret
   exact ⟨rfl, hB3.out, hb2⟩
/-- Bytes as a row. -/
def uV (f : Nat → Nat) (i : Nat) : Value := .int .u8 (f i : Nat)
def byF (l : List UInt8) (i : Nat) : Nat := (l.getD i 0).toNat
theorem byF_lt (l : List UInt8) (i : Nat) : byF l i < 256 := UInt8.toNat_lt _
theorem bytes_row (l : List UInt8) (n : Nat) (h : l.length = n) : l.map bV = row n (uV (byF l)) := by
 apply List.ext_getElem
 ·simp [row, h]
 ·intro i h1 h2
  have hi : i < l.length := by simpa using h1
  simp [row, uV, byF, bV, hi]
end Go.Proofs.YtielgpefoameiaaGreat
namespace Go.Proofs.YtielgpefoameiaaGreat
/-- Byte m of a number. -/
def dB (n m : Nat) : Nat := n / 256 ^ m % 256
theorem dB_lt (n m : Nat) : dB n m < 256 := Nat.mod_lt _ (by omega)
/-- Cell i of a number's n bytes, the greatest first. -/
def bR (n x i : Nat) : Nat := dB x (n - 1 - i)
theorem bR_lt (n x i : Nat) : bR n x i < 256 := dB_lt _ _
theorem pow256 (m : Nat) : 0 < 256 ^ m := Nat.pow_pos (by omega)
theorem div_succ256 (n m : Nat) : n / 256 ^ (m + 1) = n / 256 ^ m / 256 := by rw [Nat.pow_succ, Nat.div_div_eq_div_mul]
/-- What a doubled number, and a digit, carries into byte m. -/
def shc (r b m : Nat) : Nat := ((r % 256 ^ m) * 2 + b) / 256 ^ m
theorem shc_zero (r b : Nat) : shc r b 0 = b := by simp [shc, Nat.mod_one]
theorem shc_lt (r b m : Nat) (h : b < 2) : shc r b m < 2 := by
 have := Nat.mod_lt r (pow256 m)
 have hp := pow256 m
 unfold shc
 rw [Nat.div_lt_iff_lt_mul hp]
 omega
theorem sh_div (r b m : Nat) : (2 * r + b) / 256 ^ m = 2 * (r / 256 ^ m) + shc r b m := by
 have hp := pow256 m
 have e := Nat.div_add_mod r (256 ^ m)
 have : 2 * r + b = (r % 256 ^ m * 2 + b) + 256 ^ m * (2 * (r / 256 ^ m)) := by
  rw [Nat.mul_left_comm]; omega
 rw [this, Nat.add_mul_div_left _ _ hp, Nat.add_comm]; rfl
theorem sh_step (r b m : Nat) (h : b < 2) : dB (2 * r + b) m = 2 * dB r m % 256 + shc r b m ∧ shc r b (m + 1) = dB r m / 128 := by
 have hc := shc_lt r b m h
 have hc1 := shc_lt r b (m + 1) h
 have e1 := sh_div r b m
 have e2 := sh_div r b (m + 1)
 have e3 := div_succ256 r m
 have e4 := div_succ256 (2 * r + b) m
 unfold dB
 generalize r / 256 ^ (m + 1) = q1 at *
 generalize (2 * r + b) / 256 ^ (m + 1) = q2 at *
 generalize (2 * r + b) / 256 ^ m = q3 at *
 generalize r / 256 ^ m = q4 at *
 generalize shc r b m = c at *
 generalize shc r b (m + 1) = c1 at *
 constructor <;> omega
/-- What taking off borrows at byte m. -/
def bwB (a b m : Nat) : Nat := if a % 256 ^ m < b % 256 ^ m then 1 else 0
theorem bwB_zero (a b : Nat) : bwB a b 0 = 0 := by simp [bwB, Nat.mod_one]
theorem bwB_le (a b m : Nat) : bwB a b m ≤ 1 := by unfold bwB; split <;> omega
theorem mod_succ256 (n m : Nat) : n % 256 ^ (m + 1) = dB n m * 256 ^ m + n % 256 ^ m := by rw [Nat.pow_succ]; exact split_mod n (256 ^ m) 256
theorem lt_digits {p d e x y : Nat} (hx : x < p) (hy : y < p) : d * p + x < e * p + y ↔ d < e ∨ (d = e ∧ x < y) := by
 constructor
 ·intro h
  rcases Nat.lt_trichotomy d e with h1 | h1 | h1
  ·exact .inl h1
  ·subst h1; exact .inr ⟨rfl, by omega⟩
  ·exfalso
   have : (e + 1) * p ≤ d * p := Nat.mul_le_mul_right _ h1
   rw [Nat.succ_mul] at this
   omega
 ·rintro (h | ⟨rfl, h⟩)
  ·have : (d + 1) * p ≤ e * p := Nat.mul_le_mul_right _ h
   rw [Nat.succ_mul] at this
   omega
  ·omega
theorem bwB_succ (a b m : Nat) : bwB a b (m + 1) = if dB a m < dB b m + bwB a b m then 1 else 0 := by
 have h := lt_digits (d := dB a m) (e := dB b m) (Nat.mod_lt a (pow256 m)) (Nat.mod_lt b (pow256 m))
 unfold bwB
 rw [mod_succ256, mod_succ256]
 by_cases h1 : a % 256 ^ m < b % 256 ^ m
 ·rw [if_pos h1]
  by_cases h2 : dB a m < dB b m + 1
  ·rw [if_pos h2, if_pos (h.2 (by omega))]
  ·rw [if_neg h2, if_neg (fun h3 => by have := h.1 h3; omega)]
 ·rw [if_neg h1]
  by_cases h2 : dB a m < dB b m + 0
  ·rw [if_pos h2, if_pos (h.2 (by omega))]
  ·rw [if_neg h2, if_neg (fun h3 => by have := h.1 h3; omega)]
theorem sub_div256 {a b : Nat} (h : b ≤ a) (m : Nat) : (a - b) / 256 ^ m = a / 256 ^ m - b / 256 ^ m - bwB a b m ∧ b / 256 ^ m + bwB a b m ≤ a / 256 ^ m := by
 have hp := pow256 m
 have ea := Nat.div_add_mod a (256 ^ m)
 have eb := Nat.div_add_mod b (256 ^ m)
 have ha := Nat.mod_lt a hp
 have hb := Nat.mod_lt b hp
 have hq : b / 256 ^ m ≤ a / 256 ^ m := Nat.div_le_div_right h
 unfold bwB
 generalize a / 256 ^ m = qa at *
 generalize b / 256 ^ m = qb at *
 generalize a % 256 ^ m = ra at *
 generalize b % 256 ^ m = rb at *
 generalize 256 ^ m = p at *
 obtain ⟨d, rfl⟩ : ∃ d, qa = qb + d := ⟨qa - qb, by omega⟩
 rw [Nat.mul_add] at ea
 by_cases h1 : ra < rb
 ·rw [if_pos h1]
  have hd : 0 < d := by
   rcases Nat.eq_zero_or_pos d with h0 | h0
   ·subst h0; simp at ea; omega
   ·exact h0
  obtain ⟨e, rfl⟩ : ∃ e, d = e + 1 := ⟨d - 1, by omega⟩
  rw [Nat.mul_add, Nat.mul_one] at ea
  refine ⟨?_, by omega⟩
  have : a - b = (p + ra - rb) + p * e := by omega
  rw [this, Nat.add_mul_div_left _ _ hp, Nat.div_eq_of_lt (by omega)]
  omega
 ·rw [if_neg h1]
  refine ⟨?_, by omega⟩
  have : a - b = (ra - rb) + p * d := by omega
  rw [this, Nat.add_mul_div_left _ _ hp, Nat.div_eq_of_lt (by omega)]
  omega
theorem sub_step {a b : Nat} (h : b ≤ a) (m : Nat) : (dB (a - b) m : Int) = if ((dB a m : Nat) : Int) - (dB b m : Nat) - (bwB a b m : Nat) < 0 then ((dB a m : Nat) : Int) - (dB b m : Nat) - (bwB a b m : Nat) + 256 else ((dB a m : Nat) : Int) - (dB b m : Nat) - (bwB a b m : Nat) := by
 obtain ⟨e, hle⟩ := sub_div256 h m
 unfold dB
 rw [e]
 generalize a / 256 ^ m = qa at *
 generalize b / 256 ^ m = qb at *
 have := bwB_le a b m
 generalize bwB a b m = w at *
 split <;> omega
theorem bwB_int (a b m : Nat) : (bwB a b (m + 1) : Int) = if ((dB a m : Nat) : Int) - (dB b m : Nat) - (bwB a b m : Nat) < 0 then 1 else 0 := by
 rw [bwB_succ]
 by_cases h : dB a m < dB b m + bwB a b m
 ·rw [if_pos h, if_pos (by omega)]; rfl
 ·rw [if_neg h, if_neg (by omega)]; rfl
/-- The number of bytes, the greatest first. -/
def beN (l : List UInt8) : Nat := leN l.reverse
theorem beN_take (l : List UInt8) (k : Nat) (h : k < l.length) : beN (l.take (k + 1)) = 256 * beN (l.take k) + l[k].toNat := by
 unfold beN
 rw [List.take_succ_eq_append_getElem h, List.reverse_append]
 show leN (l[k] :: (l.take k).reverse) = _
 show l[k].toNat + 256 * leN _ = _
 omega
/-- The number so far, ahead of digit k - 1 of byte c. -/
def partN (v c k : Nat) : Nat := v * 2 ^ (8 - k) + c / 2 ^ k
theorem partN_8 (v c : Nat) (h : c < 256) : partN v c 8 = v := by unfold partN; omega
theorem partN_0 (v c : Nat) : partN v c 0 = 256 * v + c := by unfold partN; omega
theorem partN_step (v c k : Nat) (h : k < 8) : partN v c k = 2 * partN v c (k + 1) + c / 2 ^ k % 2 := by
 have : k = 0 ∨ k = 1 ∨ k = 2 ∨ k = 3 ∨ k = 4 ∨ k = 5 ∨ k = 6 ∨ k = 7 := by omega
 unfold partN
 rcases this with rfl | rfl | rfl | rfl | rfl | rfl | rfl | rfl <;> simp <;> omega
theorem part_once (v c k : Nat) (h : k < 8) : partN v c k % Lq = once (2 * (partN v c (k + 1) % Lq) + c / 2 ^ k % 2) := by
 have hL : 0 < Lq := by unfold Lq; omega
 have h1 := Nat.mod_lt (partN v c (k + 1)) hL
 rw [once_mod (by omega), partN_step v c k h]
 generalize partN v c (k + 1) = q at *
 generalize c / 2 ^ k % 2 = b at *
 have e := Nat.div_add_mod q Lq
 have : 2 * q + b = (2 * (q % Lq) + b) + Lq * (2 * (q / Lq)) := by rw [Nat.mul_left_comm]; omega
 rw [this, Nat.add_mul_mod_self_left]
/-- Numbers that agree above digit m, and which is less. -/
theorem cmp_digit {x y m : Nat} (hq : x / 256 ^ (m + 1) = y / 256 ^ (m + 1)) (hne : dB x m ≠ dB y m) : decide (y ≤ x) = decide (dB y m < dB x m) := by
 rw [div_succ256, div_succ256] at hq
 have ex := Nat.div_add_mod x (256 ^ m)
 have ey := Nat.div_add_mod y (256 ^ m)
 have hx := Nat.mod_lt x (pow256 m)
 have hy := Nat.mod_lt y (pow256 m)
 unfold dB at *
 rw [decide_eq_decide]
 generalize x / 256 ^ m = qx at *
 generalize y / 256 ^ m = qy at *
 generalize x % 256 ^ m = rx at *
 generalize y % 256 ^ m = ry at *
 have hl := lt_digits (d := qx) (e := qy) hx hy
 rw [Nat.mul_comm qx, Nat.mul_comm qy] at hl
 generalize 256 ^ m * qx = X at *
 generalize 256 ^ m * qy = Y at *
 omega
theorem cmp_same {x y m : Nat} (hq : x / 256 ^ (m + 1) = y / 256 ^ (m + 1)) (he : dB x m = dB y m) : x / 256 ^ m = y / 256 ^ m := by
 rw [div_succ256, div_succ256] at hq
 unfold dB at he
 omega
end Go.Proofs.YtielgpefoameiaaGreat
namespace Go.Proofs.YtielgpefoameiaaGreat
open Go.RowKit
/-- New bytes. -/
def NewBy (w : World) (l : List UInt8) (e : Ending) (w' : World) : Prop := ∃ g n cap r, e = .returned (.slice (some ⟨g, 0, none⟩) n cap) ∧ w.heap.size ≤ g ∧ Blk w' g (l.map bV ++ r) 5 ∧ l.length = n ∧ n ≤ cap ∧ cap ≤ maxLen ∧ Below w.heap.size w w'
theorem order_row : row 32 (uV (bR 32 Lq)) = [.int .u8 16, .int .u8 0, .int .u8 0, .int .u8 0, .int .u8 0, .int .u8 0, .int .u8 0, .int .u8 0, .int .u8 0, .int .u8 0, .int .u8 0, .int .u8 0, .int .u8 0, .int .u8 0, .int .u8 0, .int .u8 0, .int .u8 20, .int .u8 222, .int .u8 249, .int .u8 222, .int .u8 162, .int .u8 247, .int .u8 156, .int .u8 214, .int .u8 88, .int .u8 18, .int .u8 99, .int .u8 26, .int .u8 92, .int .u8 245, .int .u8 211, .int .u8 237] := by kernel_rfl
set_option maxRecDepth 100000 in
theorem rorder_any (w : World) : Calls Tryz.prog 120 #[] w fun e w' => e = .returned (.slice (some ⟨w.heap.size, 0, none⟩) 32 32) ∧ Blk w' w.heap.size (row 32 (uV (bR 32 Lq))) 5 ∧ Below w.heap.size w w' := by
 go_enter Tryz.func120, Tryz.ntmps120
 go_wp2
 go_ret
 refine ⟨rfl, ?_, belowBy⟩
 rw [order_row]
 exact Blk.new w _ _
theorem drop_rev (l : List UInt8) (j : Nat) (h : j < l.length) : (l.drop j).reverse = (l.drop (j + 1)).reverse ++ [l[j]] := by
 rw [List.drop_eq_getElem_cons h, List.reverse_cons]
set_option maxRecDepth 100000 in
set_option maxHeartbeats 1000000 in
theorem rturned_any {a : Option Addr} {n cap : Nat} {l : List UInt8} (w : World) (h : RdB w a n cap l) (h0 : 0 < n) (hn : n ≤ 1000) :
  Calls Tryz.prog 86 #[.slice a n cap] w (NewBy w l.reverse) := by
 have hlen := h.hlen
 rcases h.cases with ⟨h1, _⟩ | ⟨b, o, _, rfl, hc⟩
 ·omega
 have HC := Lib.hid hc
 have HL := Lib.hid hlen
 clear h hc hlen
 have hn' : (n : Int) ≤ 1000 := by omega
 go_enter Tryz.func86, Tryz.ntmps86
 go_wp2
 go_loopw [3, 4] (fun v i wr => ∃ j : Nat, j ≤ n ∧ i = .int .i64 ((j : Int) - 1) ∧ wr.ownsRow w.heap.size 5 1 v (n - j) ((l.drop j).reverse.map bV) ∧ Below w.heap.size w wr) (fun _ i _ => (intOf i + 1).toNat)
 case atStart => exact ⟨n, Nat.le_refl _, rfl, by rw [List.drop_eq_nil_of_le (by rw [HL.out]; exact Nat.le_refl _), Nat.sub_self]; exact World.ownsRow_nil _ _ _ _, Below.refl _ _⟩
 case round =>
  obtain ⟨j, hj, rfl, hown, hbel⟩ := hrel
  by_cases hj0 : j = 0
  ·subst hj0
   rw [List.drop_zero, Nat.sub_zero] at hown
   obtain ⟨g, cap', r, rfl, hg, hB, hl, hcc, hm⟩ := own_rdb hown h0
   have HB := Lib.hid hB
   clear hown hB
   rw [show (((0 : Nat) : Int) - 1) = -1 from rfl]
   go_wp2
   go_ret
   exact ⟨g, n, cap', r, rfl, hg, HB.out, by simpa using hl, hcc, hm, hbel⟩
  ·obtain ⟨i, rfl⟩ : ∃ i, j = i + 1 := ⟨j - 1, by omega⟩
   have hil : i < l.length := by have := HL.out; omega
   rw [show (((i + 1 : Nat) : Int) - 1) = (i : Int) from by omega]
   have hin : (i : Int) < (n : Int) := by omega
   have hi0 : (0 : Int) ≤ (i : Int) := by omega
   have c0 := HC.out i hil
   have HD := Lib.hid (drop_rev l i hil)
   generalize l[i] = c at *
   have c1 : wr.cell? ⟨b, o + i, none⟩ = some (bV c) := by rw [hbel.cell (cell_lt c0)]; exact c0
   unfold bV at c1
   have HO := Lib.hid hown
   have hsz : n - (i + 1) ≤ 1000 := by omega
   clear hown c0 hj0
   go_wp2_with (at_builtin; refine app_bytes _ rfl (.tmp 12) (.tmp 17) rfl w.heap.size _ (n - (i + 1)) _ rfl (own_below HO.out belowBy) _ 1 1 [c] rfl (RdB.blk (l := [c]) [] (Blk.new wr #[.int .u8 (c.toNat : Int)] 5) rfl (by omega) (by unfold maxLen; omega)) (by omega) (by have := hbel.size; simp; omega) w belowBy ?_; intro v' w2 hown2 hbel2; have HO2 : Hid (w2.ownsRow w.heap.size 5 1 v' (n - i) ((l.drop i).reverse.map bV)) := Lib.hid (by rw [HD.out]; have e : n - i = n - (i + 1) + 1 := (by omega); rw [e]; exact hown2); clear hown2)
   go_roundw
   case rel => exact ⟨i, by omega, rfl, HO2.out, hbel2⟩
   case measure => simp [intOf]
theorem top33 {x : Nat} (h : dB x 32 = 0) (hx : x < 256 ^ 33) : x / 256 ^ 32 = Lq / 256 ^ 32 := by
 have h1 : x / 256 ^ 32 < 256 := by rw [Nat.div_lt_iff_lt_mul (by decide)]; exact hx
 have h2 : Lq / 256 ^ 32 = 0 := by decide +kernel
 unfold dB at h
 omega
theorem high33 {x : Nat} (h : dB x 32 ≠ 0) : Lq ≤ x := by
 have h1 : 256 ^ 32 ≤ x := by
  rcases Nat.lt_or_ge x (256 ^ 32) with h2 | h2
  ·unfold dB at h; rw [Nat.div_eq_of_lt h2] at h; simp at h
  ·exact h2
 exact Nat.le_trans (by decide +kernel) h1
set_option maxRecDepth 100000 in
set_option maxHeartbeats 1000000 in
theorem rabove_any (x : Nat) (hx : x < 256 ^ 33) (w : World) : Calls Tryz.prog 121 #[.agg (row 33 (uV (bR 33 x))).toArray] w fun e w' => e = .returned (.bool (decide (Lq ≤ x))) ∧ Below w.heap.size w w' := by
 go_enter Tryz.func121, Tryz.ntmps121
 go_upto_region 2 with (go_at_call 120; go_must (refine (rorder_any _).mono ?_; rintro e w1 ⟨rfl, hP, hb⟩; have hA := (Blk.new w (row 33 (uV (bR 33 x))).toArray 138).below' hb; have hbel : Below w.heap.size w w1 := Below.call belowBy hb; clear hb))
 refine wp_gen (fun W => Blk W w.heap.size (row 33 (uV (bR 33 x))) 138 ∧ Blk W (w.heap.size + 1) (row 32 (uV (bR 32 Lq))) 5 ∧ Below w.heap.size w W) ?_ (fun W0 hW => ?_)
 ·exact ⟨hA, by simpa using hP, hbel⟩
 clear hA hP hbel w1
 obtain ⟨hA, hP, hbel⟩ := hW
 have c0 : W0.cell? ⟨w.heap.size, 0, none⟩ = some (.int .u8 (dB x 32 : Nat)) := hA.at (by omega)
 by_cases h0 : dB x 32 = 0
 ·have HT := Lib.hid (top33 h0 hx)
  rw [h0] at c0
  clear hx h0
  go_wp2
  go_loopw [4] (fun i wr => ∃ k : Nat, k ≤ 32 ∧ i = .int .i64 (k : Int) ∧ x / 256 ^ (32 - k) = Lq / 256 ^ (32 - k) ∧ Blk wr w.heap.size (row 33 (uV (bR 33 x))) 138 ∧ Blk wr (w.heap.size + 1) (row 32 (uV (bR 32 Lq))) 5 ∧ Below w.heap.size w wr) (fun i _ => (32 - intOf i).toNat)
  case atStart => exact ⟨0, by omega, rfl, HT.out, hA, hP, hbel⟩
  case round =>
   clear hA hP hbel c0 W0
   obtain ⟨k, hk, rfl, hq, hA, hP, hbel⟩ := hrel
   by_cases hlt : k < 32
   ·have k0 : (0 : Int) ≤ (k : Int) := by omega
    have k1 : (k : Int) < 32 := by omega
    have ca : wr.cell? ⟨w.heap.size, k + 1, none⟩ = some (.int .u8 (dB x (31 - k) : Nat)) := by
     have := hA.at (k := k + 1) (by omega)
     rw [this]; unfold uV bR; rw [show 33 - 1 - (k + 1) = 31 - k by omega]
    have cp : wr.cell? ⟨w.heap.size + 1, k, none⟩ = some (.int .u8 (dB Lq (31 - k) : Nat)) := by
     have := hP.at (k := k) hlt
     rw [this]; unfold uV bR; rw [show 32 - 1 - k = 31 - k by omega]
    have hq' : x / 256 ^ (31 - k + 1) = Lq / 256 ^ (31 - k + 1) := by rw [show 31 - k + 1 = 32 - k by omega]; exact hq
    have HA := Lib.hid hA; have HP := Lib.hid hP; have HQ := Lib.hid hq'
    clear hA hP hq hq'
    by_cases he : dB x (31 - k) = dB Lq (31 - k)
    ·have HE := Lib.hid (cmp_same HQ.out he)
     rw [he] at ca
     generalize ((dB Lq (31 - k) : Nat) : Int) = B at *
     clear he
     go_wp2
     go_region
     go_wp2
     go_roundw
     case rel => exact ⟨k + 1, by omega, by go_num, by rw [show 32 - (k + 1) = 31 - k by omega]; exact HE.out, HA.out, HP.out, belowBy⟩
     case measure => simp [intOf]; omega
    ·have HE := Lib.hid (cmp_digit HQ.out he)
     have hneI : (((dB x (31 - k) : Nat) : Int) != ((dB Lq (31 - k) : Nat) : Int)) = true := by simp; omega
     have hlt2 : decide (((dB Lq (31 - k) : Nat) : Int) < ((dB x (31 - k) : Nat) : Int)) = decide (dB Lq (31 - k) < dB x (31 - k)) := by simp
     obtain ⟨q, hq⟩ : ∃ q, decide (Lq ≤ x) = q := ⟨_, rfl⟩
     rw [hq] at HE
     rw [← HE.out] at hlt2
     have HF := Lib.hid hq
     generalize ((dB x (31 - k) : Nat) : Int) = A at *
     generalize ((dB Lq (31 - k) : Nat) : Int) = B at *
     clear he hq HE
     go_wp2
     go_region
     go_wp2
     go_region
     go_wp2
     go_ret
     exact ⟨ret_bool HF.out.symm, belowBy⟩
   ·obtain rfl : k = 32 := by omega
    have HD : Hid (decide (Lq ≤ x) = true) := Lib.hid (decide_eq_true (by simp at hq; omega))
    clear hq hA hP hlt
    go_wp2
    go_ret
    exact ⟨ret_bool HD.out.symm, belowBy⟩
 ·have HD : Hid (decide (Lq ≤ x) = true) := Lib.hid (decide_eq_true (high33 h0))
  have hneI : (((dB x 32 : Nat) : Int) != 0) = true := by simp; omega
  generalize ((dB x 32 : Nat) : Int) = A at *
  clear h0 hx
  go_wp2
  go_ret
  exact ⟨ret_bool HD.out.symm, hbel⟩
theorem raboveB {x : Nat} {b : Bool} (hx : x < 256 ^ 33) (hb : decide (Lq ≤ x) = b) (w : World) : Calls Tryz.prog 121 #[.agg (row 33 (uV (bR 33 x))).toArray] w fun e w' => e = .returned (.bool b) ∧ Below w.heap.size w w' := by
 subst hb; exact rabove_any x hx w
end Go.Proofs.YtielgpefoameiaaGreat
namespace Go.Proofs.YtielgpefoameiaaGreat
open Go.RowKit
/-- The row, the last bytes doubled. -/
def shV (r b t i : Nat) : Nat := if t ≤ i then dB (2 * r + b) (32 - i) else dB r (32 - i)
theorem shV_start (r b : Nat) : row 33 (uV (shV r b 33)) = row 33 (uV (bR 33 r)) := row_ext fun i hi => by unfold uV shV bR; rw [if_neg (by omega)]
theorem shV_full (r b : Nat) : row 33 (uV (shV r b 0)) = row 33 (uV (bR 33 (2 * r + b))) := row_ext fun i hi => by unfold uV shV bR; rw [if_pos (by omega)]
theorem shV_step (r b t : Nat) : (row 33 (uV (shV r b (t + 1)))).set t (.int .u8 (dB (2 * r + b) (32 - t) : Nat)) = row 33 (uV (shV r b t)) := by
 refine row_set t _ (by simp [uV, shV]) (fun i _ hi => ?_)
 unfold uV shV
 by_cases h : t ≤ i
 ·rw [if_pos h, if_pos (by omega)]
 ·rw [if_neg h, if_neg (by omega)]
theorem z33_row : row 33 (uV (bR 33 0)) = [.int .u8 0,.int .u8 0,.int .u8 0,.int .u8 0,.int .u8 0,.int .u8 0,.int .u8 0,.int .u8 0,.int .u8 0,.int .u8 0,.int .u8 0,.int .u8 0,.int .u8 0,.int .u8 0,.int .u8 0,.int .u8 0,.int .u8 0,.int .u8 0,.int .u8 0,.int .u8 0,.int .u8 0,.int .u8 0,.int .u8 0,.int .u8 0,.int .u8 0,.int .u8 0,.int .u8 0,.int .u8 0,.int .u8 0,.int .u8 0,.int .u8 0,.int .u8 0,.int .u8 0] := by kernel_rfl
theorem infoA33 (f : Nat → Nat) : (Tryz.prog.info? 138).map (·.size) = some (row 33 (uV f)).length := by rw [row_len]; kernel_rfl
theorem one_rowB (n : Nat) (f : Nat → Nat) : ∀ v ∈ row n (uV f), v.oneCell' = true := fun v hv => by
 simp [row] at hv
 obtain ⟨i, _, rfl⟩ := hv
 rfl
theorem infoSc (f : Nat → Nat) : (Tryz.prog.info? 68).map (·.size) = some (row 32 (uV f)).length := by rw [row_len]; kernel_rfl
theorem infoScA (f : Nat → Nat) : (Tryz.prog.info? 68).map (·.size) = some (row 32 (uV f)).toArray.size := by rw [List.size_toArray]; exact infoSc f
theorem or_low (d c : Nat) (hd : d < 256) (hc : c < 2) : bits BinOp.or IntKind.u8 ((d : Int) * 2 % 256) (c : Int) = ((2 * d % 256 + c : Nat) : Int) := by
 have hc2 : c = 0 ∨ c = 1 := by omega
 rcases hc2 with rfl | rfl
 ·revert hd; revert d; decide +kernel
 ·revert hd; revert d; decide +kernel
theorem byte_bit (c j : Nat) (hc : c < 256) : bits BinOp.and IntKind.u8 ((c : Int) / 2 ^ j) 1 = ((c / 2 ^ j % 2 : Nat) : Int) := by
 have h1 : c / 2 ^ j < 256 := Nat.lt_of_le_of_lt (Nat.div_le_self _ _) hc
 rw [show ((c : Int) / 2 ^ j) = ((c / 2 ^ j : Nat) : Int) from by simp]
 generalize c / 2 ^ j = q at *
 revert h1; revert q; decide +kernel
/-- The row, L taken off the last bytes. -/
def suV (x t i : Nat) : Nat := if t ≤ i then dB (x - Lq) (32 - i) else dB x (32 - i)
theorem suV_start (x : Nat) : row 33 (uV (suV x 33)) = row 33 (uV (bR 33 x)) := row_ext fun i hi => by unfold uV suV bR; rw [if_neg (by omega)]
theorem suV_full (x : Nat) : row 33 (uV (suV x 0)) = row 33 (uV (bR 33 (x - Lq))) := row_ext fun i hi => by unfold uV suV bR; rw [if_pos (by omega)]
theorem suV_step (x t : Nat) : (row 33 (uV (suV x (t + 1)))).set t (.int .u8 (dB (x - Lq) (32 - t) : Nat)) = row 33 (uV (suV x t)) := by
 refine row_set t _ (by simp [uV, suV]) (fun i _ hi => ?_)
 unfold uV suV
 by_cases h : t ≤ i
 ·rw [if_pos h, if_pos (by omega)]
 ·rw [if_neg h, if_neg (by omega)]
theorem dB_Lq32 : dB Lq 32 = 0 := by decide +kernel
set_option maxRecDepth 100000 in
set_option maxHeartbeats 4000000 in
theorem rmod_any {a : Option Addr} {n cap : Nat} {l : List UInt8} (w : World) (h : RdB w a n cap l) (hn : n ≤ 1000) :
  Calls Tryz.prog 85 #[.slice a n cap] w fun e w' => e = .returned (.agg (row 32 (uV (bR 32 (beN l % Lq)))).toArray) ∧ Below w.heap.size w w' := by
 have HH := Lib.hid h
 clear h
 have hn' : (n : Int) ≤ 1000 := by omega
 go_enter Tryz.func85, Tryz.ntmps85
 go_upto_region 3 with (go_at_call 120; go_must (refine (rorder_any _).mono ?_; rintro e w1 ⟨rfl, hP, hb⟩))
 refine wp_gen (fun W => Blk W w.heap.size [.int .u8 0, .int .u8 0, .int .u8 0, .int .u8 0, .int .u8 0, .int .u8 0, .int .u8 0, .int .u8 0, .int .u8 0, .int .u8 0, .int .u8 0, .int .u8 0, .int .u8 0, .int .u8 0, .int .u8 0, .int .u8 0, .int .u8 0, .int .u8 0, .int .u8 0, .int .u8 0, .int .u8 0, .int .u8 0, .int .u8 0, .int .u8 0, .int .u8 0, .int .u8 0, .int .u8 0, .int .u8 0, .int .u8 0, .int .u8 0, .int .u8 0, .int .u8 0] 68 ∧ Blk W (w.heap.size + 1) (row 33 (uV (bR 33 0))) 138 ∧ Blk W (w.heap.size + 1 + 1) (row 32 (uV (bR 32 Lq))) 5 ∧ Below w.heap.size w W) ?_ (fun W0 hW => ?_)
 ·rw [z33_row]
  exact ⟨((Blk.new w _ _).alloc _).below' hb, (Blk.new' (by simp)).below' hb, by simpa using hP, Below.call belowBy hb⟩
 clear hP hb w1
 obtain ⟨hO, hA, hP, hbel⟩ := hW
 go_wp2
 go_loopw [5] (fun i wr => ∃ k : Nat, k ≤ n ∧ i = .int .i64 (k : Int) ∧ Blk wr w.heap.size [.int .u8 0, .int .u8 0, .int .u8 0, .int .u8 0, .int .u8 0, .int .u8 0, .int .u8 0, .int .u8 0, .int .u8 0, .int .u8 0, .int .u8 0, .int .u8 0, .int .u8 0, .int .u8 0, .int .u8 0, .int .u8 0, .int .u8 0, .int .u8 0, .int .u8 0, .int .u8 0, .int .u8 0, .int .u8 0, .int .u8 0, .int .u8 0, .int .u8 0, .int .u8 0, .int .u8 0, .int .u8 0, .int .u8 0, .int .u8 0, .int .u8 0, .int .u8 0] 68 ∧ Blk wr (w.heap.size + 1) (row 33 (uV (bR 33 (beN (l.take k) % Lq)))) 138 ∧ Blk wr (w.heap.size + 1 + 1) (row 32 (uV (bR 32 Lq))) 5 ∧ Below w.heap.size w wr) (fun i _ => (n - intOf i).toNat)
 case atStart => exact ⟨0, by omega, rfl, hO, hA, hP, hbel⟩
 case round =>
  clear hO hA hP hbel W0
  obtain ⟨k, hk, rfl, hO, hA, hP, hbel⟩ := hrel
  by_cases hlt : k < n
  ·have hlen := HH.out.hlen
   obtain ⟨b, o, hab, hc⟩ := HH.out.get k (by omega)
   have HB := Lib.hid (beN_take l k (by omega))
   generalize beN (l.take k) = V at *
   generalize hcc : l[k] = c at *
   have hcl := c.toNat_lt
   obtain ⟨C, hC⟩ : ∃ C, C = c.toNat := ⟨_, rfl⟩
   rw [← hC] at HB hcl
   have hcell : w.cell? ⟨b, o + k, none⟩ = some (.int .u8 (C : Int)) := by rw [hC]; exact hc
   have HCELL := Lib.hid hcell
   subst hab
   clear hc hC hlen hcell hcc
   have k0 : (0 : Int) ≤ (k : Int) := by omega
   have k1 : (k : Int) < (n : Int) := by omega
   have e8 : partN V C 8 = V := partN_8 V C hcl
   rw [← e8] at hA
   have HCL := Lib.hid hcl
   clear e8 hlt
   go_upto_region 7 with fail
   go_loopw [6] (fun i wr => ∃ q : Nat, q ≤ 8 ∧ i = .int .i64 ((q : Int) - 1) ∧ Blk wr w.heap.size [.int .u8 0, .int .u8 0, .int .u8 0, .int .u8 0, .int .u8 0, .int .u8 0, .int .u8 0, .int .u8 0, .int .u8 0, .int .u8 0, .int .u8 0, .int .u8 0, .int .u8 0, .int .u8 0, .int .u8 0, .int .u8 0, .int .u8 0, .int .u8 0, .int .u8 0, .int .u8 0, .int .u8 0, .int .u8 0, .int .u8 0, .int .u8 0, .int .u8 0, .int .u8 0, .int .u8 0, .int .u8 0, .int .u8 0, .int .u8 0, .int .u8 0, .int .u8 0] 68 ∧ Blk wr (w.heap.size + 1) (row 33 (uV (bR 33 (partN V C q % Lq)))) 138 ∧ Blk wr (w.heap.size + 1 + 1) (row 32 (uV (bR 32 Lq))) 5 ∧ Below w.heap.size w wr) (fun i _ => (intOf i + 1).toNat)
   case atStart => exact ⟨8, by omega, rfl, hO, hA, hP, hbel⟩
   case round =>
    clear hO hA hP hbel
    obtain ⟨q, hq, rfl, hO, hA, hP, hbel⟩ := hrel
    by_cases hq0 : q = 0
    ·subst hq0
     rw [partN_0, ← HB.out] at hA
     rw [show (((0 : Nat) : Int) - 1) = -1 from rfl]
     go_wp2
     go_roundw
     case rel => exact ⟨k + 1, by omega, by go_num, hO, hA, hP, hbel⟩
     case measure => simp [intOf]; omega
    ·obtain ⟨j, rfl⟩ : ∃ j, q = j + 1 := ⟨q - 1, by omega⟩
     have hj : j < 8 := by omega
     rw [show (((j + 1 : Nat) : Int) - 1) = (j : Int) from by omega]
     have HPO := Lib.hid (part_once V C j hj)
     have HR : Hid (partN V C (j + 1) % Lq < Lq) := Lib.hid (Nat.mod_lt _ (by unfold Lq; omega))
     generalize partN V C (j + 1) % Lq = R at *
     have hcw : wr.cell? ⟨b, o + k, none⟩ = some (.int .u8 (C : Int)) := by rw [hbel.cell (cell_lt HCELL.out)]; exact HCELL.out
     have j0 : (0 : Int) ≤ (j : Int) := by omega
     have j1 : (j : Int) < 8 := by omega
     have hbit : bits BinOp.and IntKind.u8 ((C : Int) / 2 ^ j) 1 = ((C / 2 ^ j % 2 : Nat) : Int) := byte_bit C j HCL.out
     have HBT : Hid (C / 2 ^ j % 2 < 2) := Lib.hid (Nat.mod_lt _ (by omega))
     generalize C / 2 ^ j % 2 = bt at *
     clear hq0 hq
     go_upto_region 11 with fail
     go_loopw [7, 8] (fun cv i wr => ∃ t : Nat, t ≤ 33 ∧ i = .int .i64 ((t : Int) - 1) ∧ cv = .int .u8 (shc R bt (33 - t) : Nat) ∧ Blk wr w.heap.size [.int .u8 0, .int .u8 0, .int .u8 0, .int .u8 0, .int .u8 0, .int .u8 0, .int .u8 0, .int .u8 0, .int .u8 0, .int .u8 0, .int .u8 0, .int .u8 0, .int .u8 0, .int .u8 0, .int .u8 0, .int .u8 0, .int .u8 0, .int .u8 0, .int .u8 0, .int .u8 0, .int .u8 0, .int .u8 0, .int .u8 0, .int .u8 0, .int .u8 0, .int .u8 0, .int .u8 0, .int .u8 0, .int .u8 0, .int .u8 0, .int .u8 0, .int .u8 0] 68 ∧ Blk wr (w.heap.size + 1) (row 33 (uV (shV R bt t))) 138 ∧ Blk wr (w.heap.size + 1 + 1) (row 32 (uV (bR 32 Lq))) 5 ∧ Below w.heap.size w wr) (fun _ i _ => (intOf i + 1).toNat)
     case atStart => exact ⟨33, by omega, rfl, by rw [Nat.sub_self, shc_zero], hO, by rw [shV_start]; exact hA, hP, hbel⟩
     case round =>
      clear hO hA hP hbel hcw
      obtain ⟨t, ht, rfl, rfl, hO, hA, hP, hbel⟩ := hrel
      by_cases ht0 : t = 0
      ·subst ht0
       rw [shV_full] at hA
       have HX : Hid (2 * R + bt < 2 * Lq) := Lib.hid (by have := HR.out; have := HBT.out; omega)
       rw [show (((0 : Nat) : Int) - 1) = -1 from rfl]
       generalize 2 * R + bt = X at *
       have HX33 : Hid (X < 256 ^ 33) := Lib.hid (Nat.lt_trans HX.out (by decide +kernel))
       have hAr := hA.range
       have HA := Lib.hid hA; have HO := Lib.hid hO; have HP := Lib.hid hP
       clear hA hO hP
       by_cases hx : Lq ≤ X
       ·have HD := Lib.hid (decide_eq_true hx)
        have HXL := Lib.hid hx
        clear hx
        go_upto_region 17 with (first | (refine wpList_load_mid rfl 138 (.tmp 3) rfl (w.heap.size + 1) 0 rfl (row 33 (uV (bR 33 X))) _ hAr Tryz.underlying138 rfl (infoA33 _) ?_) | (go_at_call 121; (with_reducible refine (raboveB HX33.out HD.out _).mono ?_; rintro e w2 ⟨rfl, hb⟩; have HO2 := Lib.hid (HO.out.below' hb); have HA2 := Lib.hid (HA.out.below' hb); have HP2 := Lib.hid (HP.out.below' hb); have hbel2 := Below.call hbel hb; clear hAr hb)))
        go_upto_region 19 with fail
        go_loopw [10, 11] (fun bw i wr => ∃ t : Nat, t ≤ 33 ∧ i = .int .i64 ((t : Int) - 1) ∧ bw = .int .i64 (bwB X Lq (33 - t) : Nat) ∧ Blk wr w.heap.size [.int .u8 0, .int .u8 0, .int .u8 0, .int .u8 0, .int .u8 0, .int .u8 0, .int .u8 0, .int .u8 0, .int .u8 0, .int .u8 0, .int .u8 0, .int .u8 0, .int .u8 0, .int .u8 0, .int .u8 0, .int .u8 0, .int .u8 0, .int .u8 0, .int .u8 0, .int .u8 0, .int .u8 0, .int .u8 0, .int .u8 0, .int .u8 0, .int .u8 0, .int .u8 0, .int .u8 0, .int .u8 0, .int .u8 0, .int .u8 0, .int .u8 0, .int .u8 0] 68 ∧ Blk wr (w.heap.size + 1) (row 33 (uV (suV X t))) 138 ∧ Blk wr (w.heap.size + 1 + 1) (row 32 (uV (bR 32 Lq))) 5 ∧ Below w.heap.size w wr) (fun _ i _ => (intOf i + 1).toNat)
        case atStart => exact ⟨33, by omega, rfl, by rw [Nat.sub_self, bwB_zero]; rfl, HO2.out, by rw [suV_start]; exact HA2.out, HP2.out, hbel2⟩
        case round =>
         clear HO2 HA2 HP2 hbel2 HA HO HP hbel
         obtain ⟨t, ht, rfl, rfl, hO, hA, hP, hbel⟩ := hrel
         by_cases ht0 : t = 0
         ·subst ht0
          rw [suV_full] at hA
          have HON : Hid (once X = X - Lq) := Lib.hid (by unfold once; rw [if_neg (by have := HXL.out; omega)])
          rw [show (((0 : Nat) : Int) - 1) = -1 from rfl]
          have HA3 := Lib.hid hA; have HO3 := Lib.hid hO; have HP3 := Lib.hid hP
          clear hA hO hP
          go_wp2
          go_roundw
          case rel => exact ⟨j, by omega, rfl, HO3.out, by rw [HPO.out, HON.out]; exact HA3.out, HP3.out, hbel⟩
          case measure => simp [intOf]
         ·obtain ⟨i, rfl⟩ : ∃ i, t = i + 1 := ⟨t - 1, by omega⟩
          rw [show (((i + 1 : Nat) : Int) - 1) = (i : Int) from by omega]
          rw [show 33 - (i + 1) = 32 - i by omega]
          have s1 := sub_step HXL.out (32 - i)
          have s2 := bwB_int X Lq (32 - i)
          have s3 := bwB_le X Lq (32 - i)
          have s4 := dB_lt X (32 - i)
          have s5 := dB_lt Lq (32 - i)
          have ca : wr.cell? ⟨w.heap.size + 1, i, none⟩ = some (.int .u8 (dB X (32 - i) : Nat)) := by
           rw [hA.at (by omega)]; unfold uV suV; rw [if_neg (by omega)]
          have hfr := hA.frozen i
          have i0 : (0 : Int) ≤ (i : Int) := by omega
          have i1 : (i : Int) < 33 := by omega
          obtain ⟨D, hD⟩ : ∃ D, D = dB (X - Lq) (32 - i) := ⟨_, rfl⟩
          have s6 := dB_lt (X - Lq) (32 - i)
          rw [← hD] at s1 s6
          have hA2 := hA.set i (.int .u8 (D : Nat))
          rw [hD, suV_step] at hA2
          have HA3 := Lib.hid hA2
          have HO3 := Lib.hid (hO.other ⟨w.heap.size + 1, i, none⟩ (by simp) (.int .u8 (D : Nat)))
          have HP3 := Lib.hid (hP.other ⟨w.heap.size + 1, i, none⟩ (by simp) (.int .u8 (D : Nat)))
          rw [← hD] at HA3
          obtain ⟨v', hv'⟩ : ∃ v', v' = bwB X Lq (32 - i + 1) := ⟨_, rfl⟩
          have HBW := Lib.hid hv'
          rw [← hv'] at s2
          by_cases hi0 : i = 0
          ·subst hi0
           have hB0 : dB Lq (32 - 0) = 0 := dB_Lq32
           rw [hB0] at s1 s2
           generalize dB X (32 - 0) = A at *
           generalize bwB X Lq (32 - 0) = v at *
           obtain ⟨V0, hV0⟩ : ∃ V0 : Int, V0 = (A : Int) - ((0 : Nat) : Int) - (v : Int) := ⟨_, rfl⟩
           rw [← hV0] at s1 s2
           have hv1 : -256 ≤ V0 := by omega
           have hv2 : V0 ≤ 255 := by omega
           have HV0 := Lib.hid hV0
           have hvv := hV0
           clear hV0 hD hv' hA hO hP hA2 ht0 hB0 s5
           by_cases hneg : V0 < 0
           ·rw [if_pos hneg] at s1 s2
            have hv : (A : Int) - (v : Int) = V0 := by rw [HV0.out]; omega
            have hvn : V0 < 0 := by omega
            have hsum : V0 + 256 = (D : Nat) := by omega
            have HBN : Hid ((v' : Nat) = 1) := Lib.hid (by omega)
            clear s1 s2 hvv hneg
            go_wp2
            go_roundw
            case rel => exact ⟨0, by omega, rfl, by rw [show 33 - 0 = 32 - 0 + 1 by omega, ← HBW.out, HBN.out]; rfl, HO3.out, HA3.out, HP3.out, belowBy⟩
            case measure => simp [intOf]
           ·rw [if_neg hneg] at s1 s2
            have hv : (A : Int) - (v : Int) = V0 := by rw [HV0.out]; omega
            have hvn : ¬ V0 < 0 := by omega
            have hsum : V0 = (D : Nat) := by omega
            have HBN : Hid ((v' : Nat) = 0) := Lib.hid (by omega)
            clear hv1 hv2
            subst hsum
            clear s1 s2 hvv hneg
            go_wp2
            go_roundw
            case rel => exact ⟨0, by omega, rfl, by rw [show 33 - 0 = 32 - 0 + 1 by omega, ← HBW.out, HBN.out]; rfl, HO3.out, HA3.out, HP3.out, belowBy⟩
            case measure => simp [intOf]
          ·have cp : wr.cell? ⟨w.heap.size + 1 + 1, i - 1, none⟩ = some (.int .u8 (dB Lq (32 - i) : Nat)) := by
            have := hP.at (k := i - 1) (by omega)
            rw [this]; unfold uV bR; rw [show 32 - 1 - (i - 1) = 32 - i by omega]
           have ipos : (0 : Int) < (i : Int) := by omega
           generalize dB X (32 - i) = A at *
           generalize dB Lq (32 - i) = B at *
           generalize bwB X Lq (32 - i) = v at *
           obtain ⟨V0, hV0⟩ : ∃ V0 : Int, V0 = (A : Int) - (B : Int) - (v : Int) := ⟨_, rfl⟩
           rw [← hV0] at s1 s2
           have hv1 : -256 ≤ V0 := by omega
           have hv2 : V0 ≤ 255 := by omega
           have HV0 := Lib.hid hV0
           have hvv := hV0
           obtain ⟨i', rfl⟩ : ∃ i', i = i' + 1 := ⟨i - 1, by omega⟩
           rw [Nat.add_sub_cancel] at cp
           clear hV0 hD hv' hA hO hP hA2 ht0 hi0
           by_cases hneg : V0 < 0
           ·rw [if_pos hneg] at s1 s2
            have hv : (A : Int) - (B : Int) - (v : Int) = V0 := HV0.out.symm
            have hvn : V0 < 0 := by omega
            have hsum : V0 + 256 = (D : Nat) := by omega
            have HBN : Hid ((v' : Nat) = 1) := Lib.hid (by omega)
            clear s1 s2 hvv hneg
            go_wp2
            go_roundw
            case rel => exact ⟨i' + 1, by omega, by go_num, by rw [show 33 - (i' + 1) = 32 - (i' + 1) + 1 by omega, ← HBW.out, HBN.out]; rfl, HO3.out, HA3.out, HP3.out, belowBy⟩
            case measure => simp [intOf] <;> omega
           ·rw [if_neg hneg] at s1 s2
            have hv : (A : Int) - (B : Int) - (v : Int) = V0 := HV0.out.symm
            have hvn : ¬ V0 < 0 := by omega
            have hsum : V0 = (D : Nat) := by omega
            have HBN : Hid ((v' : Nat) = 0) := Lib.hid (by omega)
            clear hv1 hv2
            subst hsum
            clear s1 s2 hvv hneg
            go_wp2
            go_roundw
            case rel => exact ⟨i' + 1, by omega, by go_num, by rw [show 33 - (i' + 1) = 32 - (i' + 1) + 1 by omega, ← HBW.out, HBN.out]; rfl, HO3.out, HA3.out, HP3.out, belowBy⟩
            case measure => simp [intOf] <;> omega
       ·have HD := Lib.hid (decide_eq_false hx)
        have HON : Hid (once X = X) := Lib.hid (by unfold once; rw [if_pos (by omega)])
        clear hx
        go_wp2_with (first | (refine wpList_load_mid rfl 138 (.tmp 3) rfl (w.heap.size + 1) 0 rfl (row 33 (uV (bR 33 X))) _ hAr Tryz.underlying138 rfl (infoA33 _) ?_) | (go_at_call 121; (with_reducible refine (raboveB HX33.out HD.out _).mono ?_; rintro e w2 ⟨rfl, hb⟩; have HO2 := Lib.hid (HO.out.below' hb); have HA2 := Lib.hid (HA.out.below' hb); have HP2 := Lib.hid (HP.out.below' hb); have hbel2 := Below.call hbel hb; clear hAr hb)))
        go_roundw
        case rel => exact ⟨j, by omega, rfl, HO2.out, by rw [HPO.out, HON.out]; exact HA2.out, HP2.out, hbel2⟩
        case measure => simp [intOf] <;> omega
      ·obtain ⟨i, rfl⟩ : ∃ i, t = i + 1 := ⟨t - 1, by omega⟩
       rw [show (((i + 1 : Nat) : Int) - 1) = (i : Int) from by omega]
       rw [show 33 - (i + 1) = 32 - i by omega]
       obtain ⟨s1, s2⟩ := sh_step R bt (32 - i) HBT.out
       have s3 := shc_lt R bt (32 - i) HBT.out
       have s4 := dB_lt R (32 - i)
       have ca : wr.cell? ⟨w.heap.size + 1, i, none⟩ = some (.int .u8 (dB R (32 - i) : Nat)) := by
        rw [hA.at (by omega)]; unfold uV shV; rw [if_neg (by omega)]
       have hfr := hA.frozen i
       have i0 : (0 : Int) ≤ (i : Int) := by omega
       have i1 : (i : Int) < 33 := by omega
       obtain ⟨D, hD⟩ : ∃ D, D = dB (2 * R + bt) (32 - i) := ⟨_, rfl⟩
       obtain ⟨c', hc'⟩ : ∃ c', c' = shc R bt (32 - i + 1) := ⟨_, rfl⟩
       rw [← hD] at s1
       rw [← hc'] at s2
       have hA2 := hA.set i (.int .u8 (D : Nat))
       rw [hD, shV_step] at hA2
       have HA := Lib.hid hA2
       have HO := Lib.hid (hO.other ⟨w.heap.size + 1, i, none⟩ (by simp) (.int .u8 (D : Nat)))
       have HP := Lib.hid (hP.other ⟨w.heap.size + 1, i, none⟩ (by simp) (.int .u8 (D : Nat)))
       rw [← hD] at HA
       have HC := Lib.hid hc'
       generalize dB R (32 - i) = d at *
       generalize shc R bt (32 - i) = cc at *
       have f1 := or_low d cc s4 s3
       rw [← s1] at f1
       have f2 : (d : Int) / 128 = (c' : Nat) := by omega
       clear s1 s2 ht0 hA hO hP hA2 hc' hD
       go_wp2
       go_roundw
       case rel => exact ⟨i, by omega, rfl, by rw [HC.out, show 33 - i = 32 - i + 1 by omega], HO.out, HA.out, HP.out, belowBy⟩
       case measure => simp [intOf] <;> omega
  ·obtain rfl : k = n := by omega
   rw [List.take_of_length_le (by rw [HH.out.hlen]; exact Nat.le_refl _)] at hA
   obtain ⟨R, hR⟩ : ∃ R, R = beN l % Lq := ⟨_, rfl⟩
   rw [← hR] at hA
   have HRR := Lib.hid hR
   clear hR
   have HA := Lib.hid hA; have HO := Lib.hid hO
   clear hA hO hP
   go_upto_region 31 with fail
   have hN := Blk.new wr #[.int .u8 0, .int .u8 0, .int .u8 0, .int .u8 0, .int .u8 0, .int .u8 0, .int .u8 0, .int .u8 0, .int .u8 0, .int .u8 0, .int .u8 0, .int .u8 0, .int .u8 0, .int .u8 0, .int .u8 0, .int .u8 0, .int .u8 0, .int .u8 0, .int .u8 0, .int .u8 0, .int .u8 0, .int .u8 0, .int .u8 0, .int .u8 0, .int .u8 0, .int .u8 0, .int .u8 0, .int .u8 0, .int .u8 0, .int .u8 0, .int .u8 0, .int .u8 0] 68
   have hAN := HA.out.alloc (.cells #[.int .u8 0, .int .u8 0, .int .u8 0, .int .u8 0, .int .u8 0, .int .u8 0, .int .u8 0, .int .u8 0, .int .u8 0, .int .u8 0, .int .u8 0, .int .u8 0, .int .u8 0, .int .u8 0, .int .u8 0, .int .u8 0, .int .u8 0, .int .u8 0, .int .u8 0, .int .u8 0, .int .u8 0, .int .u8 0, .int .u8 0, .int .u8 0, .int .u8 0, .int .u8 0, .int .u8 0, .int .u8 0, .int .u8 0, .int .u8 0, .int .u8 0, .int .u8 0] 68)
   have hON := HO.out.alloc (.cells #[.int .u8 0, .int .u8 0, .int .u8 0, .int .u8 0, .int .u8 0, .int .u8 0, .int .u8 0, .int .u8 0, .int .u8 0, .int .u8 0, .int .u8 0, .int .u8 0, .int .u8 0, .int .u8 0, .int .u8 0, .int .u8 0, .int .u8 0, .int .u8 0, .int .u8 0, .int .u8 0, .int .u8 0, .int .u8 0, .int .u8 0, .int .u8 0, .int .u8 0, .int .u8 0, .int .u8 0, .int .u8 0, .int .u8 0, .int .u8 0, .int .u8 0, .int .u8 0] 68)
   have hbelN : Below w.heap.size w (wr.alloc (.cells #[.int .u8 0, .int .u8 0, .int .u8 0, .int .u8 0, .int .u8 0, .int .u8 0, .int .u8 0, .int .u8 0, .int .u8 0, .int .u8 0, .int .u8 0, .int .u8 0, .int .u8 0, .int .u8 0, .int .u8 0, .int .u8 0, .int .u8 0, .int .u8 0, .int .u8 0, .int .u8 0, .int .u8 0, .int .u8 0, .int .u8 0, .int .u8 0, .int .u8 0, .int .u8 0, .int .u8 0, .int .u8 0, .int .u8 0, .int .u8 0, .int .u8 0, .int .u8 0] 68)) := belowBy
   have hlt2 : w.heap.size + 1 < wr.heap.size := HA.out.lt
   generalize wr.alloc (.cells #[.int .u8 0, .int .u8 0, .int .u8 0, .int .u8 0, .int .u8 0, .int .u8 0, .int .u8 0, .int .u8 0, .int .u8 0, .int .u8 0, .int .u8 0, .int .u8 0, .int .u8 0, .int .u8 0, .int .u8 0, .int .u8 0, .int .u8 0, .int .u8 0, .int .u8 0, .int .u8 0, .int .u8 0, .int .u8 0, .int .u8 0, .int .u8 0, .int .u8 0, .int .u8 0, .int .u8 0, .int .u8 0, .int .u8 0, .int .u8 0, .int .u8 0, .int .u8 0] 68) = W at *
   generalize wr.heap.size = g at *
   have HN := Lib.hid hN; have HAN := Lib.hid hAN; have HON := Lib.hid hON; have HLT := Lib.hid hlt2
   clear hN hAN hON hlt2 HA HO hbel
   have hb1 : ∀ v ∈ row 32 (uV (bR 32 R)), v.oneCell' = true := fun v hv => by
    simp [row] at hv
    obtain ⟨i, _, rfl⟩ := hv
    rfl
   have hsrc : 0 < (row 32 (uV (bR 32 R))).length → (some (⟨g, 0, none⟩ : Addr)) = some ⟨g, 0, none⟩ ∧ ∃ ad, (some (⟨w.heap.size + 1, 1, none⟩ : Addr)) = some ad ∧ ∀ j v, (row 32 (uV (bR 32 R)))[j]? = some v → W.drew.cell? (ad.add j) = some v := fun _ => ⟨rfl, _, rfl, fun j v hv => by
    have hj : j < 32 := by have := (List.getElem?_eq_some_iff.1 hv).1; rwa [row_len] at this
    rw [row_get hj] at hv
    rw [addr_add, Nat.add_comm 1 j, ← hv, (Blk.drew HAN.out).at (by omega)]
    unfold uV bR
    rw [show 33 - 1 - (j + 1) = 32 - 1 - j by omega]⟩
   go_region_law (refine step_copy_splice rfl (.tmp 80) (.tmp 81) 22 22 rfl 5 Tryz.underlying22 infoSz (some ⟨g, 0, none⟩) (some ⟨w.heap.size + 1, 1, none⟩) 32 32 32 32 (by simp [Act.eval, Act.put]) (by simp [Act.eval, Act.put]) g 0 [.int .u8 0, .int .u8 0, .int .u8 0, .int .u8 0, .int .u8 0, .int .u8 0, .int .u8 0, .int .u8 0, .int .u8 0, .int .u8 0, .int .u8 0, .int .u8 0, .int .u8 0, .int .u8 0, .int .u8 0, .int .u8 0, .int .u8 0, .int .u8 0, .int .u8 0, .int .u8 0, .int .u8 0, .int .u8 0, .int .u8 0, .int .u8 0, .int .u8 0, .int .u8 0, .int .u8 0, .int .u8 0, .int .u8 0, .int .u8 0, .int .u8 0, .int .u8 0] 68 (Blk.drew HN.out) (row 32 (uV (bR 32 R))) (by rw [row_len]; rfl) hsrc (by rw [row_len]; decide) hb1 g W (Below.drew (Below.refl _ _)) (Nat.le_refl _) ?_; intro w4 hg4 hb4)
   have hsp : splice [.int .u8 0, .int .u8 0, .int .u8 0, .int .u8 0, .int .u8 0, .int .u8 0, .int .u8 0, .int .u8 0, .int .u8 0, .int .u8 0, .int .u8 0, .int .u8 0, .int .u8 0, .int .u8 0, .int .u8 0, .int .u8 0, .int .u8 0, .int .u8 0, .int .u8 0, .int .u8 0, .int .u8 0, .int .u8 0, .int .u8 0, .int .u8 0, .int .u8 0, .int .u8 0, .int .u8 0, .int .u8 0, .int .u8 0, .int .u8 0, .int .u8 0, .int .u8 0] 0 (row 32 (uV (bR 32 R))) = row 32 (uV (bR 32 R)) := by
    unfold splice
    rw [row_len]
    simp
   rw [hsp] at hg4
   have hB4 : Blk w4 g (row 32 (uV (bR 32 R))) 68 := hg4.out
   have hO4 := HON.out.below hb4 (by have := HLT.out; omega)
   have hbel4 : Below w.heap.size w w4 := hbelN.trans (hb4.mono (by have := HLT.out; omega))
   have hAr := hB4.range
   have hst := st_blk hO4 (cs := row 32 (uV (bR 32 R))) (by rw [row_len]; rfl) hb1
   have hB5 := hO4.row (row 32 (uV (bR 32 R)))
   have hbel5 := below_setRow hbel4 (Nat.le_refl _) (row 32 (uV (bR 32 R))).toArray
   have HB5 := Lib.hid hB5
   generalize w4.setRow w.heap.size (row 32 (uV (bR 32 R))).toArray = w5 at *
   clear hsp hg4 hB4 hO4 hbel4 hb4 hB5 hsrc hb1 HN HAN HON HLT hbelN
   go_wp2_with (refine wpList_load_mid rfl 68 (.tmp 14) rfl g 0 rfl (row 32 (uV (bR 32 R))) _ hAr Tryz.underlying68 rfl (infoSc _) ?_)
   refine bodyPost_ret (v := .agg (row 32 (uV (bR 32 R))).toArray) (results_cell_row Tryz.results85 _ _ w.heap.size _ _ _ _ ?_ HB5.out Tryz.underlying68 ?_ (infoScA _)) ?_ ?_
   ·rfl
   ·rfl
   ·rfl
   ·exact ⟨by rw [HRR.out], hbel5⟩
end Go.Proofs.YtielgpefoameiaaGreat
namespace Go.Proofs.YtielgpefoameiaaGreat
open Go.RowKit
theorem rowB (n x : Nat) : row n (uV (bR n x)) = ((leB n x).reverse).map bV := by
 apply List.ext_getElem
 ·simp [row, leB_len]
 ·intro i h1 h2
  have hi : i < n := by simpa [row] using h1
  simp only [row, List.getElem_map, List.getElem_range, List.getElem_reverse, leB_get, leB_len, bV, uV, bR, dB, UInt8.toNat_ofNat']
  rw [p256]
theorem beN_leB (n x : Nat) : beN ((leB n x).reverse) = x % 256 ^ n := by
 unfold beN; rw [List.reverse_reverse, leN_leB, p256]
/-- The carry of a sum into byte m. -/
def cyB (a b m : Nat) : Nat := (a % 256 ^ m + b % 256 ^ m) / 256 ^ m
theorem cyB_zero (a b : Nat) : cyB a b 0 = 0 := by simp [cyB, Nat.mod_one]
theorem cyB_le (a b m : Nat) : cyB a b m ≤ 1 := by
 have h1 := Nat.mod_lt a (pow256 m); have h2 := Nat.mod_lt b (pow256 m)
 unfold cyB
 have : (a % 256 ^ m + b % 256 ^ m) / 256 ^ m < 2 := by rw [Nat.div_lt_iff_lt_mul (pow256 m)]; omega
 omega
theorem add_div256 (a b m : Nat) : (a + b) / 256 ^ m = a / 256 ^ m + b / 256 ^ m + cyB a b m := by
 have ea := Nat.div_add_mod a (256 ^ m)
 have eb := Nat.div_add_mod b (256 ^ m)
 have : a + b = (a % 256 ^ m + b % 256 ^ m) + 256 ^ m * (a / 256 ^ m + b / 256 ^ m) := by rw [Nat.mul_add]; omega
 rw [this, Nat.add_mul_div_left _ _ (pow256 m), Nat.add_comm]; rfl
theorem add_step (a b m : Nat) : dB (a + b) m = (dB a m + dB b m + cyB a b m) % 256 ∧ cyB a b (m + 1) = (dB a m + dB b m + cyB a b m) / 256 := by
 have e1 := add_div256 a b m
 have e2 := add_div256 a b (m + 1)
 have e3 := div_succ256 a m
 have e4 := div_succ256 b m
 have e5 := div_succ256 (a + b) m
 have h1 := cyB_le a b m
 have h2 := cyB_le a b (m + 1)
 unfold dB
 generalize cyB a b m = c at *
 generalize cyB a b (m + 1) = c' at *
 generalize (a + b) / 256 ^ (m + 1) = s' at *
 generalize (a + b) / 256 ^ m = s at *
 generalize a / 256 ^ (m + 1) = a' at *
 generalize b / 256 ^ (m + 1) = b' at *
 generalize a / 256 ^ m = x at *
 generalize b / 256 ^ m = y at *
 constructor <;> omega
theorem add_top {a b : Nat} (ha : a < 256 ^ 32) (hb : b < 256 ^ 32) : dB (a + b) 32 = cyB a b 32 := by
 have e := add_div256 a b 32
 have := cyB_le a b 32
 rw [Nat.div_eq_of_lt ha, Nat.div_eq_of_lt hb] at e
 unfold dB
 omega
/-- The value of a row, the greatest first. -/
def hv (f : Nat → Nat) : Nat → Nat
 | 0 => 0
 | n + 1 => 256 * hv f n + f n
theorem hv_congr {f g : Nat → Nat} : ∀ n, (∀ i, i < n → f i = g i) → hv f n = hv g n
 | 0, _ => rfl
 | n + 1, h => by simp only [hv]; rw [hv_congr n (fun i hi => h i (by omega)), h n (by omega)]
def updN (c : Nat → Nat) (m v i : Nat) : Nat := if i = m then v else c i
theorem hv_upd (c : Nat → Nat) (m a : Nat) : ∀ n, hv (updN c m (c m + a)) (m + 1 + n) = hv c (m + 1 + n) + a * 256 ^ n
 | 0 => by
  show 256 * hv (updN c m (c m + a)) m + updN c m (c m + a) m = 256 * hv c m + c m + a * 256 ^ 0
  rw [hv_congr (f := updN c m (c m + a)) (g := c) m (fun i hi => by unfold updN; rw [if_neg (by omega)])]
  simp only [updN, if_true]; omega
 | n + 1 => by
  show 256 * hv (updN c m (c m + a)) (m + 1 + n) + updN c m (c m + a) (m + 1 + n) = 256 * hv c (m + 1 + n) + c (m + 1 + n) + a * 256 ^ (n + 1)
  rw [hv_upd c m a n, Nat.pow_succ]
  simp only [updN, if_neg (show ¬ m + 1 + n = m by omega)]
  grind
theorem hv_bR (n x : Nat) : ∀ k, k ≤ n → hv (bR n x) k = x / 256 ^ (n - k) % 256 ^ k
 | 0, _ => by simp [hv, Nat.mod_one]
 | k + 1, h => by
  rw [hv, hv_bR n x k (by omega)]
  unfold bR dB
  rw [show n - k = (n - (k + 1)) + 1 by omega, div_succ256, show n - 1 - k = n - (k + 1) by omega]
  generalize x / 256 ^ (n - (k + 1)) = q
  rw [Nat.pow_succ, Nat.mul_comm (256 ^ k) 256, Nat.mod_mul]
  omega
theorem hv_full {n x : Nat} (h : x < 256 ^ n) : hv (bR n x) n = x := by
 rw [hv_bR n x n (Nat.le_refl _), Nat.sub_self, Nat.pow_zero, Nat.div_one, Nat.mod_eq_of_lt h]
def MB : Nat := 65025
theorem prodB_le (x y i k : Nat) : bR 32 x i * bR 32 y k ≤ MB := by
 have h1 := bR_lt 32 x i; have h2 := bR_lt 32 y k
 exact Nat.le_trans (Nat.mul_le_mul (show bR 32 x i ≤ 255 by omega) (show bR 32 y k ≤ 255 by omega)) (by decide)
structure MbIn (f g c : Nat → Nat) (i k : Nat) : Prop where
 lo : ∀ j, c j ≤ (i + 1) * MB
 hi : ∀ j, i + k + 1 ≤ j → c j ≤ i * MB
 v : hv c 64 = hv f i * 256 ^ (32 - i) * hv g 32 + f i * 256 ^ (31 - i) * (hv g k * 256 ^ (32 - k))
structure MbOut (f g c : Nat → Nat) (i : Nat) : Prop where
 lo : ∀ j, c j ≤ i * MB
 v : hv c 64 = hv f i * 256 ^ (32 - i) * hv g 32
theorem MbOut.start (f g : Nat → Nat) : MbOut f g (fun _ => 0) 0 := ⟨fun _ => by omega, by
 rw [show hv f 0 = 0 from rfl]
 simp only [Nat.zero_mul]
 have : ∀ n, hv (fun _ => 0) n = 0 := fun n => by induction n with | zero => rfl | succ n ih => simp [hv, ih]
 exact this 64⟩
theorem MbOut.into {f g c : Nat → Nat} {i : Nat} (h : MbOut f g c i) : MbIn f g c i 0 :=
 ⟨fun j => Nat.le_trans (h.lo j) (Nat.mul_le_mul_right _ (by omega)), fun j _ => h.lo j, by rw [h.v, show hv g 0 = 0 from rfl, Nat.zero_mul, Nat.mul_zero, Nat.add_zero]⟩
theorem MbIn.step {f g c : Nat → Nat} {i k : Nat} (h : MbIn f g c i k) (hk : k < 32) (hi : i < 32) (hp : f i * g k ≤ MB) : MbIn f g (updN c (i + k + 1) (c (i + k + 1) + f i * g k)) i (k + 1) := by
 have e : (i + 1) * MB = i * MB + MB := by rw [Nat.add_mul, Nat.one_mul]
 refine ⟨fun j => ?_, fun j hj => ?_, ?_⟩
 ·unfold updN
  split
  ·have := h.hi (i + k + 1) (Nat.le_refl _); omega
  ·exact h.lo j
 ·unfold updN
  rw [if_neg (by omega)]
  exact h.hi j (by omega)
 ·have e64 : (64 : Nat) = i + k + 1 + 1 + (62 - i - k) := by omega
  have hu := hv_upd c (i + k + 1) (f i * g k) (62 - i - k)
  rw [← e64] at hu
  rw [hu, h.v]
  show _ = _ + f i * 256 ^ (31 - i) * ((256 * hv g k + g k) * 256 ^ (32 - (k + 1)))
  have e1 : 62 - i - k = (31 - i) + (31 - k) := by omega
  have e2 : 32 - k = (31 - k) + 1 := by omega
  have e3 : 32 - (k + 1) = 31 - k := by omega
  rw [e1, e2, e3, Nat.pow_add 256 (31 - i) (31 - k), Nat.pow_succ]
  generalize hv f i * 256 ^ (32 - i) * hv g 32 = A
  generalize hv g k = B
  generalize 256 ^ (31 - i) = C
  generalize 256 ^ (31 - k) = D
  clear h hu e e64 e1 e2 e3 hp hk hi
  generalize f i = p
  generalize g k = q
  grind
theorem MbIn.out {f g c : Nat → Nat} {i : Nat} (hi : i < 32) (h : MbIn f g c i 32) : MbOut f g c (i + 1) :=
 ⟨h.lo, by
  rw [h.v, Nat.sub_self, Nat.pow_zero, Nat.mul_one]
  show _ = (256 * hv f i + f i) * 256 ^ (32 - (i + 1)) * hv g 32
  rw [show 32 - (i + 1) = 31 - i by omega, show 32 - i = (31 - i) + 1 by omega, Nat.pow_succ]
  generalize hv f i = A
  generalize 256 ^ (31 - i) = C
  generalize hv g 32 = D
  clear h hi
  generalize f i = p
  grind⟩
theorem MbOut.fin {x y : Nat} {c : Nat → Nat} (hx : x < 256 ^ 32) (hy : y < 256 ^ 32) (h : MbOut (bR 32 x) (bR 32 y) c 32) : hv c 64 = x * y := by
 rw [h.v, hv_full hx, hv_full hy, Nat.sub_self, Nat.pow_zero, Nat.mul_one]
/-- The carries of a row of columns, from its end. -/
def crN (c : Nat → Nat) : Nat → Nat
 | 0 => 0
 | m + 1 => (c (63 - m) + crN c m) / 256
theorem crN_le {c : Nat → Nat} (h : ∀ j, c j ≤ 32 * MB) : ∀ m, crN c m ≤ 10000
 | 0 => by simp [crN]
 | m + 1 => by
  have h1 := h (63 - m)
  have h2 := crN_le h m
  unfold crN
  unfold MB at h1
  omega
theorem crN_div (c : Nat → Nat) : ∀ m, m ≤ 64 → hv c 64 / 256 ^ m = hv c (64 - m) + crN c m
 | 0, _ => by simp [crN]
 | m + 1, h => by
  rw [div_succ256, crN_div c m (by omega), show 64 - m = (63 - m) + 1 by omega, hv, crN, show 64 - (m + 1) = 63 - m by omega]
  omega
theorem crN_digit (c : Nat → Nat) (m : Nat) (h : m < 64) : dB (hv c 64) m = (c (63 - m) + crN c m) % 256 := by
 unfold dB
 rw [crN_div c m (by omega), show 64 - m = (63 - m) + 1 by omega, hv]
 omega
end Go.Proofs.YtielgpefoameiaaGreat
namespace Go.Proofs.YtielgpefoameiaaGreat
open Go.RowKit
/-- A whole row of bytes of a number reads as them. -/
theorem rdRow {w : World} {g n E x : Nat} (h : Blk w g (row n (uV (bR n x))) E) (hm : n ≤ maxLen) : RdB w (some ⟨g, 0, none⟩) n n ((leB n x).reverse) := by
 rw [rowB] at h
 exact RdB.blk (l := (leB n x).reverse) [] (by simpa using h) (by simp [leB_len]) (Nat.le_refl _) hm
/-- Storing a row of 32 bytes into a whole block: the world behind it. -/
theorem st_sc {B : Nat} {w0 w : World} {g E : Nat} {old : List Value} (h : Blk w g old E) (hl : old.length = 32) (hb : Below B w0 w) (hg : B ≤ g) (x : Nat) :
  ∃ W, (storeCells ⟨g, 0, none⟩ (row 32 (uV (bR 32 x)))).run Tryz.prog w = .ok () W ∧ Blk W g (row 32 (uV (bR 32 x))) E ∧ Below B w0 W :=
 ⟨_, st_blk h (by rw [row_len, hl]) (one_rowB 32 _), h.row _, below_setRow hb hg _⟩
set_option maxRecDepth 100000 in
set_option maxHeartbeats 1000000 in
theorem rwide_any {a : Option Addr} {n cap : Nat} {l : List UInt8} (w : World) (h : RdB w a n cap l) :
  Calls Tryz.prog 34 #[.slice a n cap] w fun e w' => e = .returned (.agg (row 32 (uV (bR 32 (leN (first l 64) % Lq)))).toArray) ∧ Below w.heap.size w w' := by
 go_enter Tryz.func34, Tryz.ntmps34
 go_wp2_with (first | (go_at_call 87; go_must (refine (fill_any 64 (by omega) _ (h.below belowBy)).mono ?_; rintro e w1 ⟨rfl, hC, hb⟩; have hO := (Blk.new w #[.int .u8 0, .int .u8 0, .int .u8 0, .int .u8 0, .int .u8 0, .int .u8 0, .int .u8 0, .int .u8 0, .int .u8 0, .int .u8 0, .int .u8 0, .int .u8 0, .int .u8 0, .int .u8 0, .int .u8 0, .int .u8 0, .int .u8 0, .int .u8 0, .int .u8 0, .int .u8 0, .int .u8 0, .int .u8 0, .int .u8 0, .int .u8 0, .int .u8 0, .int .u8 0, .int .u8 0, .int .u8 0, .int .u8 0, .int .u8 0, .int .u8 0, .int .u8 0] 68).below' hb; have hbel := Below.call (show Below w.heap.size w _ from belowBy) hb; clear hb h; have hR := RdB.blk (l := first l 64) (n := 64) (cap := 64) [] (by simpa using hC) (first_len _ _) (by omega) (by unfold maxLen; omega); have HO := Lib.hid hO; clear hC hO))     | (go_at_call 86; go_must (refine (rturned_any _ hR (by omega) (by omega)).mono ?_; rintro e w2 ⟨g, n2, c2, r2, rfl, hg, hT, hl, hc, hm, hb⟩; (rw [List.length_reverse, first_len] at hl); subst hl; have hR2 := RdB.blk r2 hT (by rw [List.length_reverse, first_len]) hc hm; have HO2 := Lib.hid (HO.out.below' hb); have hbel2 := Below.call hbel hb; clear hb hT hR))     | (go_at_call 85; go_must (refine (rmod_any _ hR2 (by omega)).mono ?_; rintro e w3 ⟨rfl, hb⟩; obtain ⟨W3, hst3, hB3, hbel3⟩ := st_sc (HO2.out.below' hb) rfl (Below.call hbel2 hb) (Nat.le_refl _) (beN (first l 64).reverse % Lq); have HB3 := Lib.hid hB3; clear hb hR2 hB3)))
 refine bodyPost_ret (v := .agg (row 32 (uV (bR 32 (beN (first l 64).reverse % Lq)))).toArray) (results_cell_row Tryz.results34 _ _ w.heap.size _ _ _ _ ?_ HB3.out Tryz.underlying68 ?_ (infoScA _)) ?_ ?_
 ·rfl
 ·rfl
 ·rfl
 ·exact ⟨by unfold beN; rw [List.reverse_reverse], hbel3⟩
theorem NewBy.on {w w1 w' : World} {l : List UInt8} {e : Ending} (h : NewBy w1 l e w') (hb : Below w.heap.size w w1) : NewBy w l e w' := by
 obtain ⟨g, n, cap, r, he, hg, hB, h1, h2, h3, hb'⟩ := h
 exact ⟨g, n, cap, r, he, Nat.le_trans hb.size hg, hB, h1, h2, h3, Below.call hb hb'⟩
set_option maxRecDepth 100000 in
theorem rscbytes_any (x : Nat) (w : World) : Calls Tryz.prog 40 #[.agg (row 32 (uV (bR 32 x))).toArray] w (NewBy w (leB 32 x)) := by
 have HR : Hid (∀ W : World, ∀ g, g = W.heap.size → RdB (W.alloc (.cells (row 32 (uV (bR 32 x))).toArray 68)) (some ⟨g, 0, none⟩) 32 32 ((leB 32 x).reverse)) := Lib.hid fun W g hg => by
  subst hg; exact rdRow (Blk.new W _ _) (by unfold maxLen; omega)
 go_enter Tryz.func40, Tryz.ntmps40
 go_wp2_with (go_at_call 86; go_must (refine (rturned_any _ (HR.out _ _ rfl) (by omega) (by omega)).mono ?_; intro e w1 hN; rw [List.reverse_reverse] at hN; have hN2 := Lib.hid (NewBy.on hN (show Below w.heap.size w _ from belowBy)); clear hN; obtain ⟨g, n', cap', r, he, hr⟩ := hN2.out; subst he))
 go_ret
 exact hN2.out
theorem rmod_v {a : Option Addr} {n cap V : Nat} {l : List UInt8} {w : World} (hV : beN l % Lq = V) (h : RdB w a n cap l) (hn : n ≤ 1000) :
  Calls Tryz.prog 85 #[.slice a n cap] w fun e w' => e = .returned (.agg (row 32 (uV (bR 32 V))).toArray) ∧ Below w.heap.size w w' := by subst hV; exact rmod_any w h hn
/-- The sum, its last bytes reckoned. -/
def adV (x y t i : Nat) : Nat := if t + 1 ≤ i then dB (x + y) (32 - i) else 0
theorem adV_start (x y : Nat) : row 33 (uV fun _ => 0) = row 33 (uV (adV x y 32)) := row_ext fun i hi => by unfold uV adV; rw [if_neg (by omega)]
theorem make33 (w : World) : (Instr.makeSlice 22 (.int .i64 33) (.int .i64 33)).run Tryz.prog w = .ok (.slice (some ⟨w.heap.size, 0, none⟩) 33 33) (w.alloc (.cells (row 33 (uV fun _ => 0)).toArray 5)) := by kernel_rfl
theorem adV_step (x y t : Nat) : (row 33 (uV (adV x y (t + 1)))).set (t + 1) (.int .u8 (dB (x + y) (31 - t) : Nat)) = row 33 (uV (adV x y t)) := by
 refine row_set (t + 1) _ (by simp [uV, adV, show 32 - (t + 1) = 31 - t by omega]) (fun i _ hi => ?_)
 unfold uV adV
 by_cases h : t + 1 ≤ i
 ·rw [if_pos h, if_pos (by omega)]
 ·rw [if_neg h, if_neg (by omega)]
theorem adV_fin (x y : Nat) : (row 33 (uV (adV x y 0))).set 0 (.int .u8 (dB (x + y) 32 : Nat)) = row 33 (uV (bR 33 (x + y))) := by
 refine row_set 0 _ (by simp [uV, bR]) (fun i _ hi => ?_)
 unfold uV adV bR
 rw [if_pos (by omega)]
set_option maxRecDepth 100000 in
set_option maxHeartbeats 2000000 in
theorem rscadd_any {x y R : Nat} (hx : x < 256 ^ 32) (hy : y < 256 ^ 32) (hR : (x + y) % Lq = R) (w : World) :
  Calls Tryz.prog 38 #[.agg (row 32 (uV (bR 32 x))).toArray, .agg (row 32 (uV (bR 32 y))).toArray] w fun e w' => e = .returned (.agg (row 32 (uV (bR 32 R))).toArray) ∧ Below w.heap.size w w' := by
 have HT := Lib.hid (add_top hx hy)
 have HS : Hid (x + y < 256 ^ 33) := Lib.hid (by rw [Nat.pow_succ]; omega)
 have HRR := Lib.hid hR
 clear hx hy hR
 go_enter Tryz.func38, Tryz.ntmps38
 have hmk := make33
 go_upto_region 2 with fail
 clear hmk
 refine wp_gen (fun W => Blk W w.heap.size (row 32 (uV (bR 32 x))) 68 ∧ Blk W (w.heap.size + 1) (row 32 (uV (bR 32 y))) 68 ∧ Blk W (w.heap.size + 1 + 1) [.int .u8 0, .int .u8 0, .int .u8 0, .int .u8 0, .int .u8 0, .int .u8 0, .int .u8 0, .int .u8 0, .int .u8 0, .int .u8 0, .int .u8 0, .int .u8 0, .int .u8 0, .int .u8 0, .int .u8 0, .int .u8 0, .int .u8 0, .int .u8 0, .int .u8 0, .int .u8 0, .int .u8 0, .int .u8 0, .int .u8 0, .int .u8 0, .int .u8 0, .int .u8 0, .int .u8 0, .int .u8 0, .int .u8 0, .int .u8 0, .int .u8 0, .int .u8 0] 68 ∧ Blk W (w.heap.size + 1 + 1 + 1) (row 33 (uV (adV x y 32))) 5 ∧ Below w.heap.size w W) ?_ (fun W0 hW => ?_)
 ·rw [← adV_start]
  exact ⟨(((Blk.new w _ _).alloc _).alloc _).alloc _, ((Blk.new' (by simp)).alloc _).alloc _, (Blk.new' (by simp)).alloc _, Blk.new' (by simp), belowBy⟩
 obtain ⟨hA, hB, hO, hC, hbel⟩ := hW
 generalize Value.agg (row 32 (uV (bR 32 x))).toArray = V1
 generalize Value.agg (row 32 (uV (bR 32 y))).toArray = V2
 go_wp2
 go_loopw [6, 7] (fun cv i wr => ∃ t : Nat, t ≤ 32 ∧ i = .int .i64 ((t : Int) - 1) ∧ cv = .int .i64 (cyB x y (32 - t) : Nat) ∧ Blk wr w.heap.size (row 32 (uV (bR 32 x))) 68 ∧ Blk wr (w.heap.size + 1) (row 32 (uV (bR 32 y))) 68 ∧ Blk wr (w.heap.size + 1 + 1) [.int .u8 0, .int .u8 0, .int .u8 0, .int .u8 0, .int .u8 0, .int .u8 0, .int .u8 0, .int .u8 0, .int .u8 0, .int .u8 0, .int .u8 0, .int .u8 0, .int .u8 0, .int .u8 0, .int .u8 0, .int .u8 0, .int .u8 0, .int .u8 0, .int .u8 0, .int .u8 0, .int .u8 0, .int .u8 0, .int .u8 0, .int .u8 0, .int .u8 0, .int .u8 0, .int .u8 0, .int .u8 0, .int .u8 0, .int .u8 0, .int .u8 0, .int .u8 0] 68 ∧ Blk wr (w.heap.size + 1 + 1 + 1) (row 33 (uV (adV x y t))) 5 ∧ Below w.heap.size w wr) (fun _ i _ => (intOf i + 1).toNat)
 case atStart => exact ⟨32, by omega, rfl, by rw [Nat.sub_self, cyB_zero]; rfl, hA, hB, hO, hC, hbel⟩
 case round =>
  clear hA hB hO hC hbel W0
  obtain ⟨t, ht, rfl, rfl, hA, hB, hO, hC, hbel⟩ := hrel
  by_cases ht0 : t = 0
  ·subst ht0
   have hfr := hC.frozen 0
   have c1 := cyB_le x y 32
   have cC : (wr.cell? ⟨w.heap.size + 1 + 1 + 1, 0, none⟩).isSome = true := by rw [hC.at (by omega)]; rfl
   rw [Nat.sub_zero, ← HT.out]
   rw [← HT.out] at c1
   have hC2 := hC.set 0 (.int .u8 (dB (x + y) 32 : Nat))
   rw [adV_fin] at hC2
   have HO := Lib.hid (hO.other ⟨w.heap.size + 1 + 1 + 1, 0, none⟩ (by simp) (.int .u8 (dB (x + y) 32 : Nat)))
   have HR := Lib.hid (rdRow hC2 (by unfold maxLen; omega))
   have hbel2 : Below w.heap.size w (wr.setCell ⟨w.heap.size + 1 + 1 + 1, 0, none⟩ (.int .u8 (dB (x + y) 32 : Nat))) := belowBy
   have hc0 := hC.at (k := 0) (by omega)
   have HV : Hid (beN ((leB 33 (x + y)).reverse) % Lq = R) := Lib.hid (by rw [beN_leB, Nat.mod_eq_of_lt HS.out, HRR.out])
   unfold uV at hc0
   generalize dB (x + y) 32 = D at *
   rw [show (((0 : Nat) : Int) - 1) = -1 from rfl]
   clear hA hB hO hC hC2 hbel
   have hD1 : (D : Int) ≤ 1 := by omega
   go_upto_region 10 with fail
   clear hfr c1 cC hc0 hD1
   go_wp2_with fail
   refine (rmod_v HV.out HR.out (by omega)).mono ?_
   rintro e w3 ⟨rfl, hb⟩
   have HO3 := HO.out.below' hb
   obtain ⟨W3, hst3, hB3, hbel3⟩ := st_sc HO3 rfl (Below.call hbel2 hb) (by omega) R
   have HB3 := Lib.hid hB3
   clear hb hB3 HO3 hbel2 HT HO HR HV HRR HS
   go_simp
   rename_i aK
   refine aK _ _ ?_
   go_wp2
   refine bodyPost_ret (v := .agg (row 32 (uV (bR 32 R))).toArray) (results_cell_row Tryz.results38 _ _ (w.heap.size + 1 + 1) _ _ _ _ ?_ HB3.out Tryz.underlying68 ?_ (infoScA _)) ?_ ?_
   ·rfl
   ·rfl
   ·rfl
   ·exact ⟨rfl, hbel3⟩
  ·obtain ⟨i, rfl⟩ : ∃ i, t = i + 1 := ⟨t - 1, by omega⟩
   rw [show (((i + 1 : Nat) : Int) - 1) = (i : Int) from by omega]
   have e31 : 32 - (i + 1) = 31 - i := by omega
   rw [e31]
   obtain ⟨s1, s2⟩ := add_step x y (31 - i)
   have ca : wr.cell? ⟨w.heap.size, i, none⟩ = some (.int .u8 (dB x (31 - i) : Nat)) := hA.at (by omega)
   have cb : wr.cell? ⟨w.heap.size + 1, i, none⟩ = some (.int .u8 (dB y (31 - i) : Nat)) := hB.at (by omega)
   have a1 := dB_lt x (31 - i)
   have a2 := dB_lt y (31 - i)
   have a3 := cyB_le x y (31 - i)
   have hfr := hC.frozen (i + 1)
   have cc := hC.at (k := i + 1) (by omega)
   unfold uV at cc
   have i0 : (0 : Int) ≤ (i : Int) := by omega
   have i1 : (i : Int) < 32 := by omega
   obtain ⟨D, hD⟩ : ∃ D, D = dB (x + y) (31 - i) := ⟨_, rfl⟩
   obtain ⟨c', hc'⟩ : ∃ c', c' = cyB x y (31 - i + 1) := ⟨_, rfl⟩
   rw [← hD] at s1
   rw [← hc'] at s2
   have hC2 := hC.set (i + 1) (.int .u8 (D : Nat))
   rw [hD, adV_step] at hC2
   have HC := Lib.hid hC2
   have HA := Lib.hid (hA.other ⟨w.heap.size + 1 + 1 + 1, i + 1, none⟩ (by simp <;> omega) (.int .u8 (D : Nat)))
   have HB := Lib.hid (hB.other ⟨w.heap.size + 1 + 1 + 1, i + 1, none⟩ (by simp <;> omega) (.int .u8 (D : Nat)))
   have HO := Lib.hid (hO.other ⟨w.heap.size + 1 + 1 + 1, i + 1, none⟩ (by simp <;> omega) (.int .u8 (D : Nat)))
   have HBel : Hid (Below w.heap.size w (wr.setCell ⟨w.heap.size + 1 + 1 + 1, i + 1, none⟩ (.int .u8 (D : Nat)))) := Lib.hid (hbel.setCell (by simp <;> omega) _)
   rw [← hD] at HC
   have HCY := Lib.hid hc'
   generalize dB x (31 - i) = p at *
   generalize dB y (31 - i) = q at *
   generalize cyB x y (31 - i) = cc' at *
   obtain ⟨V, hV⟩ : ∃ V : Nat, V = p + q + cc' := ⟨_, rfl⟩
   rw [← hV] at s1 s2
   have hsum : (p : Int) + (q : Int) + (cc' : Int) = (V : Int) := by omega
   have hV1 : (V : Int) ≤ 1000 := by omega
   have f1 : (V : Int) % 256 = (D : Int) := by omega
   have f2 : (V : Int) / 256 = (c' : Int) := by omega
   clear hA hB hO hC hC2 hV hD hc' s1 s2 ht0 e31
   go_wp2
   go_region
   go_wp2
   go_roundw
   case rel => exact ⟨i, by omega, rfl, by rw [HCY.out, show 32 - i = 31 - i + 1 by omega], HA.out.drew, HB.out.drew, HO.out.drew, HC.out.drew, HBel.out.drew⟩
   case measure => simp [intOf]
set_option maxRecDepth 100000 in
/-- A digit of a number. -/
theorem rscbit_no (x : Nat) {k : Int} (hk : ¬ (0 ≤ k ∧ k ≤ 255)) (w : World) : Calls Tryz.prog 84 #[.agg (row 32 (uV (bR 32 x))).toArray, .int .i64 k] w fun e w' => e = .returned (.int .i64 0) ∧ Below w.heap.size w w' := by
 by_cases h0 : k < 0
 ·have d1 : decide (k < 0) = true := decide_eq_true h0
  clear hk h0
  go_enter Tryz.func84, Tryz.ntmps84
  go_wp2
  go_ret
  exact ⟨rfl, belowBy⟩
 ·have d1 : decide (k < 0) = false := decide_eq_false h0
  have d2 : decide (255 < k) = true := decide_eq_true (by omega)
  clear hk h0
  go_enter Tryz.func84, Tryz.ntmps84
  go_wp2
  go_ret
  exact ⟨rfl, belowBy⟩
theorem digit_bit (x k : Nat) (_h : k < 256) : dB x (k / 8) / 2 ^ (k % 8) % 2 = x / 2 ^ k % 2 := by
 unfold dB
 have e : x / 2 ^ k = x / 256 ^ (k / 8) / 2 ^ (k % 8) := by
  rw [Nat.div_div_eq_div_mul, p256, ← Nat.pow_add, show 8 * (k / 8) + k % 8 = k by omega]
 rw [e]
 generalize x / 256 ^ (k / 8) = q
 have : k % 8 = 0 ∨ k % 8 = 1 ∨ k % 8 = 2 ∨ k % 8 = 3 ∨ k % 8 = 4 ∨ k % 8 = 5 ∨ k % 8 = 6 ∨ k % 8 = 7 := by omega
 rcases this with h | h | h | h | h | h | h | h <;> rw [h] <;> simp <;> omega
set_option maxRecDepth 100000 in
theorem rscbit_yes (x k : Nat) (hk : k ≤ 255) (w : World) : Calls Tryz.prog 84 #[.agg (row 32 (uV (bR 32 x))).toArray, .int .i64 (k : Nat)] w fun e w' => e = .returned (.int .i64 (x / 2 ^ k % 2 : Nat)) ∧ Below w.heap.size w w' := by
 have HD := Lib.hid (digit_bit x k (by omega))
 have k0 : (0 : Int) ≤ (k : Int) := by omega
 have k1 : (k : Int) ≤ 255 := by omega
 have hA : ∀ W : World, ∀ g, g = W.heap.size → (W.alloc (.cells (row 32 (uV (bR 32 x))).toArray 68)).cell? ⟨g, 31 - k / 8, none⟩ = some (.int .u8 (dB x (k / 8) : Nat)) := fun W g hg => by
  subst hg
  have h := (Blk.new W (row 32 (uV (bR 32 x))).toArray 68).cell (31 - k / 8)
  rw [h]
  show (row 32 _)[31 - k / 8]? = _
  rw [row_get (by omega)]
  unfold uV bR
  rw [show 32 - 1 - (31 - k / 8) = k / 8 by omega]
 have hc : (w.alloc (.cells (row 32 (uV (bR 32 x))).toArray 68)).cell? ⟨w.heap.size, 31 - k / 8, none⟩ = some (.int .u8 (dB x (k / 8) : Nat)) := hA w _ rfl
 have hb := byte_bit (dB x (k / 8)) (k % 8) (dB_lt _ _)
 rw [HD.out] at hb
 generalize dB x (k / 8) = D at *
 have hbt : ((x / 2 ^ k % 2 : Nat) : Int) < 2 := by omega
 generalize x / 2 ^ k % 2 = bt at *
 have hsub : (31 : Int) - (k : Int) / 8 = ((31 - k / 8 : Nat) : Int) := by omega
 have hlt31 : ((31 - k / 8 : Nat) : Int) < 32 := by omega
 have hge31 : (0 : Int) ≤ ((31 - k / 8 : Nat) : Int) := by omega
 generalize hj : 31 - k / 8 = j at *
 clear hA hj
 go_enter Tryz.func84, Tryz.ntmps84
 go_wp2
 go_ret
 exact ⟨rfl, belowBy⟩
end Go.Proofs.YtielgpefoameiaaGreat
namespace Go.Proofs.YtielgpefoameiaaGreat
open Go.RowKit
/-- A row of columns. -/
def iV (f : Nat → Nat) (i : Nat) : Value := .int .i64 (f i : Nat)
theorem updN_row (n : Nat) (c : Nat → Nat) (m v : Nat) : (row n (iV c)).set m (.int .i64 (v : Nat)) = row n (iV (updN c m v)) :=
 row_set m _ (by simp [iV, updN]) (fun i _ hi => by simp [iV, updN, hi])
theorem make64i (w : World) : (Instr.makeSlice 83 (.int .i64 64) (.int .i64 64)).run Tryz.prog w = .ok (.slice (some ⟨w.heap.size, 0, none⟩) 64 64) (w.alloc (.cells (row 64 (iV fun _ => 0)).toArray 3)) := by kernel_rfl
theorem make64b (w : World) : (Instr.makeSlice 22 (.int .i64 64) (.int .i64 64)).run Tryz.prog w = .ok (.slice (some ⟨w.heap.size, 0, none⟩) 64 64) (w.alloc (.cells (row 64 (uV fun _ => 0)).toArray 5)) := by kernel_rfl
/-- The bytes, the last ones reckoned. -/
def ouV (c : Nat → Nat) (t i : Nat) : Nat := if t ≤ i then dB (hv c 64) (63 - i) else 0
theorem ouV_start (c : Nat → Nat) : row 64 (uV fun _ => 0) = row 64 (uV (ouV c 64)) := row_ext fun i hi => by unfold uV ouV; rw [if_neg (by omega)]
theorem ouV_step (c : Nat → Nat) (t : Nat) : (row 64 (uV (ouV c (t + 1)))).set t (.int .u8 (dB (hv c 64) (63 - t) : Nat)) = row 64 (uV (ouV c t)) := by
 refine row_set t _ (by simp [uV, ouV]) (fun i _ hi => ?_)
 unfold uV ouV
 by_cases h : t ≤ i
 ·rw [if_pos h, if_pos (by omega)]
 ·rw [if_neg h, if_neg (by omega)]
theorem ouV_full (c : Nat → Nat) : row 64 (uV (ouV c 0)) = row 64 (uV (bR 64 (hv c 64))) := row_ext fun i hi => by unfold uV ouV bR; rw [if_pos (by omega)]
set_option maxRecDepth 100000 in
set_option maxHeartbeats 4000000 in
theorem rscmul_any {x y R : Nat} (hx : x < 256 ^ 32) (hy : y < 256 ^ 32) (hR : x * y % Lq = R) (w : World) :
  Calls Tryz.prog 39 #[.agg (row 32 (uV (bR 32 x))).toArray, .agg (row 32 (uV (bR 32 y))).toArray] w fun e w' => e = .returned (.agg (row 32 (uV (bR 32 R))).toArray) ∧ Below w.heap.size w w' := by
 have HV : Hid (∀ c, MbOut (bR 32 x) (bR 32 y) c 32 → hv c 64 = x * y) := Lib.hid (fun c h => h.fin hx hy)
 have HP := Lib.hid (fun i k => prodB_le x y i k)
 have HS : Hid (x * y < 256 ^ 64) := Lib.hid (by
  have h := Nat.mul_lt_mul'' hx hy
  rw [← Nat.pow_add] at h; exact h)
 have HRR := Lib.hid hR
 clear hx hy hR
 have HF : Hid (∀ i, bR 32 x i < 256) := Lib.hid (bR_lt 32 x)
 have HG : Hid (∀ i, bR 32 y i < 256) := Lib.hid (bR_lt 32 y)
 generalize bR 32 x = f at *
 generalize bR 32 y = g at *
 go_enter Tryz.func39, Tryz.ntmps39
 have hmk := make64i
 go_upto_region 2 with fail
 clear hmk
 refine wp_gen (fun W => Blk W w.heap.size (row 32 (uV f)) 68 ∧ Blk W (w.heap.size + 1) (row 32 (uV g)) 68 ∧ Blk W (w.heap.size + 1 + 1) [.int .u8 0, .int .u8 0, .int .u8 0, .int .u8 0, .int .u8 0, .int .u8 0, .int .u8 0, .int .u8 0, .int .u8 0, .int .u8 0, .int .u8 0, .int .u8 0, .int .u8 0, .int .u8 0, .int .u8 0, .int .u8 0, .int .u8 0, .int .u8 0, .int .u8 0, .int .u8 0, .int .u8 0, .int .u8 0, .int .u8 0, .int .u8 0, .int .u8 0, .int .u8 0, .int .u8 0, .int .u8 0, .int .u8 0, .int .u8 0, .int .u8 0, .int .u8 0] 68 ∧ Blk W (w.heap.size + 1 + 1 + 1) (row 64 (iV fun _ => 0)) 3 ∧ Below w.heap.size w W) ?_ (fun W0 hW => ?_)
 ·exact ⟨(((Blk.new w _ _).alloc _).alloc _).alloc _, ((Blk.new' (by simp)).alloc _).alloc _, (Blk.new' (by simp)).alloc _, Blk.new' (by simp), belowBy⟩
 obtain ⟨hA, hB, hO, hC, hbel⟩ := hW
 generalize Value.agg (row 32 (uV f)).toArray = V1
 generalize Value.agg (row 32 (uV g)).toArray = V2
 go_wp2
 go_loopw [6] (fun i wr => ∃ (j : Nat) (c : Nat → Nat), j ≤ 32 ∧ i = .int .i64 j ∧ Blk wr w.heap.size (row 32 (uV f)) 68 ∧ Blk wr (w.heap.size + 1) (row 32 (uV g)) 68 ∧ Blk wr (w.heap.size + 1 + 1) [.int .u8 0, .int .u8 0, .int .u8 0, .int .u8 0, .int .u8 0, .int .u8 0, .int .u8 0, .int .u8 0, .int .u8 0, .int .u8 0, .int .u8 0, .int .u8 0, .int .u8 0, .int .u8 0, .int .u8 0, .int .u8 0, .int .u8 0, .int .u8 0, .int .u8 0, .int .u8 0, .int .u8 0, .int .u8 0, .int .u8 0, .int .u8 0, .int .u8 0, .int .u8 0, .int .u8 0, .int .u8 0, .int .u8 0, .int .u8 0, .int .u8 0, .int .u8 0] 68 ∧ Blk wr (w.heap.size + 1 + 1 + 1) (row 64 (iV c)) 3 ∧ MbOut f g c j ∧ Below w.heap.size w wr) (fun i _ => 32 - (intOf i).toNat)
 case atStart => exact ⟨0, fun _ => 0, by omega, rfl, hA, hB, hO, hC, MbOut.start f g, hbel⟩
 case round =>
  clear hA hB hO hC hbel W0
  obtain ⟨j, c, hj, rfl, hA, hB, hO, hC, hM, hbel⟩ := hrel
  by_cases hlj : j < 32
  ·have HA := Lib.hid hA; have HB := Lib.hid hB; have HO := Lib.hid hO; have HC := Lib.hid hC; have HM := Lib.hid hM
   clear hA hB hO hC hM
   obtain ⟨wo, rfl⟩ : ∃ wo : World, wo = wr := ⟨_, rfl⟩
   have hd : decide ((j : Int) < 32) = true := by simp; omega
   go_wp2
   go_loopw [7] (fun kk wr => ∃ (k : Nat) (c : Nat → Nat), k ≤ 32 ∧ kk = .int .i64 k ∧ Blk wr w.heap.size (row 32 (uV f)) 68 ∧ Blk wr (w.heap.size + 1) (row 32 (uV g)) 68 ∧ Blk wr (w.heap.size + 1 + 1) [.int .u8 0, .int .u8 0, .int .u8 0, .int .u8 0, .int .u8 0, .int .u8 0, .int .u8 0, .int .u8 0, .int .u8 0, .int .u8 0, .int .u8 0, .int .u8 0, .int .u8 0, .int .u8 0, .int .u8 0, .int .u8 0, .int .u8 0, .int .u8 0, .int .u8 0, .int .u8 0, .int .u8 0, .int .u8 0, .int .u8 0, .int .u8 0, .int .u8 0, .int .u8 0, .int .u8 0, .int .u8 0, .int .u8 0, .int .u8 0, .int .u8 0, .int .u8 0] 68 ∧ Blk wr (w.heap.size + 1 + 1 + 1) (row 64 (iV c)) 3 ∧ MbIn f g c j k ∧ Below w.heap.size w wr) (fun kk _ => 32 - (intOf kk).toNat)
   case atStart => exact ⟨0, c, by omega, rfl, HA.out, HB.out, HO.out, HC.out, HM.out.into, hbel⟩
   case round =>
    clear HA HB HO HC HM hbel
    obtain ⟨k, c, hk, rfl, hA, hB, hO, hC, hM, hbel⟩ := hrel
    by_cases hlk : k < 32
    ·obtain ⟨m, hm⟩ : ∃ m, m = j + k + 1 := ⟨_, rfl⟩
     have hcm := hM.hi (j + k + 1) (Nat.le_refl _)
     have hp := HP.out j k
     have HM := Lib.hid (hM.step hlk hlj hp)
     rw [← hm] at HM hcm
     have ca : wr.cell? ⟨w.heap.size, j, none⟩ = some (.int .u8 (f j : Nat)) := hA.at hlj
     have cb : wr.cell? ⟨w.heap.size + 1, k, none⟩ = some (.int .u8 (g k : Nat)) := hB.at hlk
     have cc : wr.cell? ⟨w.heap.size + 1 + 1 + 1, m, none⟩ = some (.int .i64 (c m : Nat)) := hC.at (by omega)
     have hwm' : (j : Int) + (k : Int) + 1 = (m : Int) := by omega
     have hj1 : (j : Int) < 32 := by omega
     have hk1 : (k : Int) < 32 := by omega
     have hm32 : m < 64 := by omega
     have hfj := HF.out j
     have hgk := HG.out k
     have hpr : ((f j : Nat) : Int) * ((g k : Nat) : Int) = ((f j * g k : Nat) : Int) := by simp
     have hcm2 : c m ≤ 31 * MB := Nat.le_trans hcm (Nat.mul_le_mul_right _ (by omega))
     have hsum : ((c m : Nat) : Int) + ((f j * g k : Nat) : Int) = ((c m + f j * g k : Nat) : Int) := by simp
     have hb1 : ((c m : Nat) : Int) ≤ 3000000 := by unfold MB at hcm2; omega
     have hb2 : ((f j * g k : Nat) : Int) ≤ 70000 := by unfold MB at hp; omega
     have hfr := hC.frozen m
     generalize hu : updN c m (c m + f j * g k) = u at *
     obtain ⟨s, hs⟩ : ∃ s, s = c m + f j * g k := ⟨_, rfl⟩
     have hC2 := hC.set m (.int .i64 (s : Nat))
     rw [show (row 64 (iV c)).set m (.int .i64 (s : Nat)) = row 64 (iV u) from by rw [← hu, hs]; exact updN_row 64 c m _] at hC2
     have HA := Lib.hid (hA.other ⟨w.heap.size + 1 + 1 + 1, m, none⟩ (by simp <;> omega) (.int .i64 (s : Nat)))
     have HB := Lib.hid (hB.other ⟨w.heap.size + 1 + 1 + 1, m, none⟩ (by simp <;> omega) (.int .i64 (s : Nat)))
     have HO := Lib.hid (hO.other ⟨w.heap.size + 1 + 1 + 1, m, none⟩ (by simp <;> omega) (.int .i64 (s : Nat)))
     have HC := Lib.hid hC2
     have HBel : Hid (Below w.heap.size w (wr.setCell ⟨w.heap.size + 1 + 1 + 1, m, none⟩ (.int .i64 (s : Nat)))) := Lib.hid (hbel.setCell (by simp <;> omega) _)
     rw [← hs] at hsum
     generalize f j = p at *
     generalize g k = q at *
     obtain ⟨pq, hpq⟩ : ∃ pq, pq = p * q := ⟨_, rfl⟩
     rw [← hpq] at hpr hsum hb2
     have hs1 : (s : Int) ≤ 4000000 := by omega
     generalize c m = cm at *
     clear hA hB hO hC hC2 hM hu hm hp hcm hcm2 hpq hs
     go_wp2
     go_region
     go_wp2
     go_roundw
     case rel => exact ⟨k + 1, u, by omega, by go_num, HA.out.drew, HB.out.drew, HO.out.drew, HC.out.drew, HM.out, HBel.out.drew⟩
     case measure => simp [intOf]; omega
    ·obtain rfl : k = 32 := by omega
     have HA := Lib.hid hA; have HB := Lib.hid hB; have HO := Lib.hid hO; have HC := Lib.hid hC; have HM := Lib.hid (hM.out hlj)
     clear hA hB hO hC hM hlk hk
     go_wp2
     go_roundw
     case rel => exact ⟨j + 1, c, by omega, by go_num, HA.out, HB.out, HO.out, HC.out, HM.out, hbel⟩
     case measure => simp [intOf]; omega
  ·obtain rfl : j = 32 := by omega
   have HVV := Lib.hid (HV.out c hM)
   have HL := Lib.hid hM.lo
   have HC := Lib.hid hC; have HO := Lib.hid hO
   clear hA hB hC hO hM hlj hj
   have hmk := make64b
   go_upto_region 10 with fail
   clear hmk
   have hq : w.heap.size + 1 + 1 + 1 < wr.heap.size := HC.out.lt
   refine wp_gen (fun W => Blk W (w.heap.size + 1 + 1) [.int .u8 0, .int .u8 0, .int .u8 0, .int .u8 0, .int .u8 0, .int .u8 0, .int .u8 0, .int .u8 0, .int .u8 0, .int .u8 0, .int .u8 0, .int .u8 0, .int .u8 0, .int .u8 0, .int .u8 0, .int .u8 0, .int .u8 0, .int .u8 0, .int .u8 0, .int .u8 0, .int .u8 0, .int .u8 0, .int .u8 0, .int .u8 0, .int .u8 0, .int .u8 0, .int .u8 0, .int .u8 0, .int .u8 0, .int .u8 0, .int .u8 0, .int .u8 0] 68 ∧ Blk W (w.heap.size + 1 + 1 + 1) (row 64 (iV c)) 3 ∧ Blk W wr.heap.size (row 64 (uV (ouV c 64))) 5 ∧ Below w.heap.size w W) ?_ (fun W0 hW => ?_)
   ·rw [← ouV_start]
    exact ⟨HO.out.alloc _, HC.out.alloc _, Blk.new' (by simp), belowBy⟩
   clear HO HC hbel
   generalize wr.heap.size = q at *
   have HQ := Lib.hid hq
   clear hq wr
   obtain ⟨hO, hC, hA, hbel⟩ := hW
   go_wp2
   go_loopw [9, 10] (fun cv i wr => ∃ t : Nat, t ≤ 64 ∧ i = .int .i64 ((t : Int) - 1) ∧ cv = .int .i64 (crN c (64 - t) : Nat) ∧ Blk wr (w.heap.size + 1 + 1) [.int .u8 0, .int .u8 0, .int .u8 0, .int .u8 0, .int .u8 0, .int .u8 0, .int .u8 0, .int .u8 0, .int .u8 0, .int .u8 0, .int .u8 0, .int .u8 0, .int .u8 0, .int .u8 0, .int .u8 0, .int .u8 0, .int .u8 0, .int .u8 0, .int .u8 0, .int .u8 0, .int .u8 0, .int .u8 0, .int .u8 0, .int .u8 0, .int .u8 0, .int .u8 0, .int .u8 0, .int .u8 0, .int .u8 0, .int .u8 0, .int .u8 0, .int .u8 0] 68 ∧ Blk wr (w.heap.size + 1 + 1 + 1) (row 64 (iV c)) 3 ∧ Blk wr q (row 64 (uV (ouV c t))) 5 ∧ Below w.heap.size w wr) (fun _ i _ => (intOf i + 1).toNat)
   case atStart => exact ⟨64, by omega, rfl, by rw [Nat.sub_self]; rfl, hO, hC, hA, hbel⟩
   case round =>
    clear hO hC hA hbel W0
    obtain ⟨t, ht, rfl, rfl, hO, hC, hA, hbel⟩ := hrel
    by_cases ht0 : t = 0
    ·subst ht0
     rw [ouV_full] at hA
     have HR := Lib.hid (rdRow hA (by unfold maxLen; omega))
     have HW : Hid (beN ((leB 64 (hv c 64)).reverse) % Lq = R) := Lib.hid (by rw [beN_leB, HVV.out, Nat.mod_eq_of_lt HS.out, HRR.out])
     have HO := Lib.hid hO
     rw [show (((0 : Nat) : Int) - 1) = -1 from rfl]
     clear hA hC hO HVV HS HRR HL HV HP HF HG
     go_wp2_with fail
     refine (rmod_v HW.out HR.out (by omega)).mono ?_
     rintro e w3 ⟨rfl, hb⟩
     have HO3 := HO.out.below' hb
     obtain ⟨W3, hst3, hB3, hbel3⟩ := st_sc HO3 rfl (Below.call hbel hb) (by omega) R
     have HB3 := Lib.hid hB3
     clear hb hB3 HO3 hbel HO HR HW
     go_simp
     rename_i aK
     refine aK _ _ ?_
     go_wp2
     refine bodyPost_ret (v := .agg (row 32 (uV (bR 32 R))).toArray) (results_cell_row Tryz.results39 _ _ (w.heap.size + 1 + 1) _ _ _ _ ?_ HB3.out Tryz.underlying68 ?_ (infoScA _)) ?_ ?_
     ·rfl
     ·rfl
     ·rfl
     ·exact ⟨rfl, hbel3⟩
    ·obtain ⟨i, rfl⟩ : ∃ i, t = i + 1 := ⟨t - 1, by omega⟩
     rw [show (((i + 1 : Nat) : Int) - 1) = (i : Int) from by omega]
     rw [show 64 - (i + 1) = 63 - i by omega]
     have s1 := crN_digit c (63 - i) (by omega)
     rw [show 63 - (63 - i) = i by omega] at s1
     have s2 : crN c (63 - i + 1) = (c i + crN c (63 - i)) / 256 := by
      show (c (63 - (63 - i)) + crN c (63 - i)) / 256 = _
      rw [show 63 - (63 - i) = i by omega]
     have s3 := crN_le HL.out (63 - i)
     have s4 := HL.out i
     have cc : wr.cell? ⟨w.heap.size + 1 + 1 + 1, i, none⟩ = some (.int .i64 (c i : Nat)) := hC.at (by omega)
     have cq := hA.at (k := i) (by omega)
     have hfr := hA.frozen i
     unfold uV at cq
     have i0 : (0 : Int) ≤ (i : Int) := by omega
     have i1 : (i : Int) < 64 := by omega
     obtain ⟨D, hD⟩ : ∃ D, D = dB (hv c 64) (63 - i) := ⟨_, rfl⟩
     obtain ⟨c', hc'⟩ : ∃ c', c' = crN c (63 - i + 1) := ⟨_, rfl⟩
     rw [← hD] at s1
     rw [← hc'] at s2
     have hA2 := hA.set i (.int .u8 (D : Nat))
     rw [hD, ouV_step] at hA2
     have HA := Lib.hid hA2
     have HC := Lib.hid (hC.other ⟨q, i, none⟩ (by have := HQ.out; simp; omega) (.int .u8 (D : Nat)))
     have HO := Lib.hid (hO.other ⟨q, i, none⟩ (by have := HQ.out; simp; omega) (.int .u8 (D : Nat)))
     have HBel : Hid (Below w.heap.size w (wr.setCell ⟨q, i, none⟩ (.int .u8 (D : Nat)))) := Lib.hid (hbel.setCell (by have := HQ.out; simp; omega) _)
     rw [← hD] at HA
     have HCY := Lib.hid hc'
     have hci : ((c i : Nat) : Int) ≤ 3000000 := by unfold MB at s4; omega
     generalize c i = ci at *
     generalize crN c (63 - i) = cr at *
     obtain ⟨V, hV⟩ : ∃ V : Nat, V = ci + cr := ⟨_, rfl⟩
     rw [← hV] at s1 s2
     have hsum : (ci : Int) + (cr : Int) = (V : Int) := by omega
     have hV1 : (V : Int) ≤ 4000000 := by omega
     have hcr1 : (cr : Int) ≤ 10000 := by omega
     have f1 : (V : Int) % 256 = (D : Int) := by omega
     have f2 : (V : Int) / 256 = (c' : Int) := by omega
     clear hA hC hO hA2 hV hD hc' s1 s2 s3 s4 ht0
     go_wp2
     go_roundw
     case rel => exact ⟨i, by omega, rfl, by rw [HCY.out, show 64 - i = 63 - i + 1 by omega], HO.out, HC.out, HA.out, HBel.out⟩
     case measure => simp [intOf]
end Go.Proofs.YtielgpefoameiaaGreat
namespace Go.Proofs.YtielgpefoameiaaGreat
open Go.RowKit
end Go.Proofs.YtielgpefoameiaaGreat
namespace Go.Proofs.YtielgpefoameiaaGreat
open Go Go.RowKit
theorem Lq_Pq : Lq < Pq := by decide +kernel
theorem Lq_0 : 0 < Lq := by unfold Lq; omega
theorem fn_sc {n : Nat} (h : n < Lq) : (fn n).val = n := Nat.mod_eq_of_lt (Nat.lt_trans h Lq_Pq)
theorem sc256 {n : Nat} (h : n < Lq) : n < 2 ^ 256 := Nat.lt_trans h (by decide +kernel)
/-- The program's numbers: four words. -/
def rS : Rp F where
 n := 4
 rep := fun x cs => x.val < Lq ∧ cs = [.int .u64 (lw x.val 0 : Nat), .int .u64 (lw x.val 1 : Nat), .int .u64 (lw x.val 2 : Nat), .int .u64 (lw x.val 3 : Nat)]
 pos := by omega
 len := fun _ _ h => by obtain ⟨_, rfl⟩ := h; rfl
 one := fun _ _ h v hv => by
  obtain ⟨_, rfl⟩ := h
  simp at hv
  rcases hv with rfl | rfl | rfl | rfl <;> rfl
theorem isS {n : Nat} (h : n < Lq) : IsFs rS (.agg #[.int .u64 (lw n 0 : Nat), .int .u64 (lw n 1 : Nat), .int .u64 (lw n 2 : Nat), .int .u64 (lw n 3 : Nat)]) [fn n] := ⟨_, rfl, Lims.single (R := rS) ⟨by rw [fn_sc h]; exact h, by rw [fn_sc h]⟩⟩
theorem of_isS {v : Value} {x : F} (h : IsFs rS v [x]) : x.val < Lq ∧ v = .agg #[.int .u64 (lw x.val 0 : Nat), .int .u64 (lw x.val 1 : Nat), .int .u64 (lw x.val 2 : Nat), .int .u64 (lw x.val 3 : Nat)] := by
 obtain ⟨cs, rfl, hc⟩ := h
 obtain ⟨h1, rfl⟩ := Lims.of_single hc
 exact ⟨h1, rfl⟩
/-- What bytes are read as, sums, products, opposites. -/
def wS (l : List UInt8) : F := fn (leN (first l 64) % Lq)
def dA (x y : F) : F := fn ((x.val + y.val) % Lq)
def dM (x y : F) : F := fn (x.val * y.val % Lq)
def bitI (x : F) (k : Int) : Int := if 0 ≤ k ∧ k ≤ 255 then ((x.val / 2 ^ k.toNat % 2 : Nat) : Int) else 0
theorem cWide {a : Option Addr} {n cap : Nat} {l : List UInt8} {x : F} {w : World} (hx : wS l = x) (h : RdB w a n cap l) :
  Calls Tryz.prog 20 #[.slice a n cap] w fun e w' => ∃ r, e = .returned r ∧ IsFs rS r [x] ∧ Below w.heap.size w w' := by
 subst hx
 exact (wide_any w h).mono fun _ _ ⟨he, hb⟩ => ⟨_, he, isS (Nat.mod_lt _ Lq_0), hb⟩
theorem cScBytes {v : Value} {x : F} (h : IsFs rS v [x]) (w : World) :
  Calls Tryz.prog 29 #[v] w fun e w' => ∃ g n cap r, e = .returned (.slice (some ⟨g, 0, none⟩) n cap) ∧ w.heap.size ≤ g ∧ Blk w' g ((leB 32 x.val).map bV ++ r) 5 ∧ (leB 32 x.val).length = n ∧ n ≤ cap ∧ cap ≤ maxLen ∧ Below w.heap.size w w' := by
 obtain ⟨_, rfl⟩ := of_isS h
 exact (bytes_blk x.val w).mono fun _ _ ⟨g, cap, r, he, hg, hB, h1, h2, hb⟩ => ⟨g, 32, cap, r, he, hg, hB, leB_len _ _, h1, h2, hb⟩
theorem cScAdd {v v' : Value} {x y : F} (h : IsFs rS v [x]) (h' : IsFs rS v' [y]) (w : World) :
  Calls Tryz.prog 27 #[v, v'] w fun e w' => ∃ r, e = .returned r ∧ IsFs rS r [dA x y] ∧ Below w.heap.size w w' := by
 obtain ⟨hx, rfl⟩ := of_isS h; obtain ⟨hy, rfl⟩ := of_isS h'
 have hc := add_any x.val y.val (by unfold Lq at hx hy; omega) w
 rw [once_mod (by omega)] at hc
 exact hc.mono fun _ _ ⟨he, hb⟩ => ⟨_, he, isS (Nat.mod_lt _ Lq_0), hb⟩
theorem cScMul {v v' : Value} {x y : F} (h : IsFs rS v [x]) (h' : IsFs rS v' [y]) (w : World) :
  Calls Tryz.prog 28 #[v, v'] w fun e w' => ∃ r, e = .returned r ∧ IsFs rS r [dM x y] ∧ Below w.heap.size w w' := by
 obtain ⟨hx, rfl⟩ := of_isS h; obtain ⟨hy, rfl⟩ := of_isS h'
 exact (scmul_any x.val y.val (sc256 hx) (sc256 hy) w).mono fun _ _ ⟨he, hb⟩ => ⟨_, he, isS (Nat.mod_lt _ Lq_0), hb⟩
theorem cScBit {v : Value} {x : F} {k z : Int} (hz : bitI x k = z) (h : IsFs rS v [x]) (w : World) :
  Calls Tryz.prog 61 #[v, .int .i64 k] w fun e w' => e = .returned (.int .i64 z) ∧ Below w.heap.size w w' := by
 obtain ⟨hx, rfl⟩ := of_isS h
 subst hz
 by_cases hk : 0 ≤ k ∧ k ≤ 255
 ·obtain ⟨j, rfl⟩ : ∃ j : Nat, k = j := ⟨k.toNat, by omega⟩
  rw [bitI, if_pos hk]
  exact scbit_any x.val j (by omega) w
 ·rw [bitI, if_neg hk]
  exact scbit_no x.val hk w
theorem tyS : TyOk rS 48 1 := ⟨⟨_, Tryz.underlying48, rfl⟩, by kernel_rfl⟩
theorem allocS (w : World) : (Instr.alloc 48 true (.tuple #[])).run Tryz.prog w = .ok (.pointer (some ⟨w.heap.size, 0, none⟩)) (w.alloc (.cells #[.int .u64 0, .int .u64 0, .int .u64 0, .int .u64 0] 48)) := by kernel_rfl
/-- The document's: 32 bytes, the greatest first. -/
def rC : Rp F where
 n := 32
 rep := fun x cs => x.val < Lq ∧ cs = row 32 (uV (bR 32 x.val))
 pos := by omega
 len := fun _ _ h => by obtain ⟨_, rfl⟩ := h; rw [row_len]
 one := fun _ _ h v hv => by obtain ⟨_, rfl⟩ := h; exact one_rowB 32 _ v hv
theorem isC {n : Nat} (h : n < Lq) : IsFs rC (.agg (row 32 (uV (bR 32 n))).toArray) [fn n] := ⟨_, rfl, Lims.single (R := rC) ⟨by rw [fn_sc h]; exact h, by rw [fn_sc h]⟩⟩
theorem of_isC {v : Value} {x : F} (h : IsFs rC v [x]) : x.val < Lq ∧ v = .agg (row 32 (uV (bR 32 x.val))).toArray := by
 obtain ⟨cs, rfl, hc⟩ := h
 obtain ⟨h1, rfl⟩ := Lims.of_single hc
 exact ⟨h1, rfl⟩
theorem sc32 {n : Nat} (h : n < Lq) : n < 256 ^ 32 := Nat.lt_trans h (by decide +kernel)
theorem kWide {a : Option Addr} {n cap : Nat} {l : List UInt8} {x : F} {w : World} (hx : wS l = x) (h : RdB w a n cap l) :
  Calls Tryz.prog 34 #[.slice a n cap] w fun e w' => ∃ r, e = .returned r ∧ IsFs rC r [x] ∧ Below w.heap.size w w' := by
 subst hx
 exact (rwide_any w h).mono fun _ _ ⟨he, hb⟩ => ⟨_, he, isC (Nat.mod_lt _ Lq_0), hb⟩
theorem kScBytes {v : Value} {x : F} (h : IsFs rC v [x]) (w : World) : Calls Tryz.prog 40 #[v] w (NewBy w (leB 32 x.val)) := by
 obtain ⟨_, rfl⟩ := of_isC h
 exact rscbytes_any x.val w
theorem kScAdd {v v' : Value} {x y : F} (h : IsFs rC v [x]) (h' : IsFs rC v' [y]) (w : World) :
  Calls Tryz.prog 38 #[v, v'] w fun e w' => ∃ r, e = .returned r ∧ IsFs rC r [dA x y] ∧ Below w.heap.size w w' := by
 obtain ⟨hx, rfl⟩ := of_isC h; obtain ⟨hy, rfl⟩ := of_isC h'
 exact (rscadd_any (sc32 hx) (sc32 hy) rfl w).mono fun _ _ ⟨he, hb⟩ => ⟨_, he, isC (Nat.mod_lt _ Lq_0), hb⟩
theorem kScMul {v v' : Value} {x y : F} (h : IsFs rC v [x]) (h' : IsFs rC v' [y]) (w : World) :
  Calls Tryz.prog 39 #[v, v'] w fun e w' => ∃ r, e = .returned r ∧ IsFs rC r [dM x y] ∧ Below w.heap.size w w' := by
 obtain ⟨hx, rfl⟩ := of_isC h; obtain ⟨hy, rfl⟩ := of_isC h'
 exact (rscmul_any (sc32 hx) (sc32 hy) rfl w).mono fun _ _ ⟨he, hb⟩ => ⟨_, he, isC (Nat.mod_lt _ Lq_0), hb⟩
theorem kScBit {v : Value} {x : F} {k z : Int} (hz : bitI x k = z) (h : IsFs rC v [x]) (w : World) :
  Calls Tryz.prog 84 #[v, .int .i64 k] w fun e w' => e = .returned (.int .i64 z) ∧ Below w.heap.size w w' := by
 obtain ⟨hx, rfl⟩ := of_isC h
 subst hz
 by_cases hk : 0 ≤ k ∧ k ≤ 255
 ·obtain ⟨j, rfl⟩ : ∃ j : Nat, k = j := ⟨k.toNat, by omega⟩
  rw [bitI, if_pos hk]
  exact rscbit_yes x.val j (by omega) w
 ·rw [bitI, if_neg hk]
  exact rscbit_no x.val hk w
theorem tySc : TyOk rC 68 1 := ⟨⟨_, Tryz.underlying68, rfl⟩, by kernel_rfl⟩
theorem allocSc (w : World) : (Instr.alloc 68 true (.tuple #[])).run Tryz.prog w = .ok (.pointer (some ⟨w.heap.size, 0, none⟩)) (w.alloc (.cells #[.int .u8 0, .int .u8 0, .int .u8 0, .int .u8 0, .int .u8 0, .int .u8 0, .int .u8 0, .int .u8 0, .int .u8 0, .int .u8 0, .int .u8 0, .int .u8 0, .int .u8 0, .int .u8 0, .int .u8 0, .int .u8 0, .int .u8 0, .int .u8 0, .int .u8 0, .int .u8 0, .int .u8 0, .int .u8 0, .int .u8 0, .int .u8 0, .int .u8 0, .int .u8 0, .int .u8 0, .int .u8 0, .int .u8 0, .int .u8 0, .int .u8 0, .int .u8 0] 68)) := by kernel_rfl
end Go.Proofs.YtielgpefoameiaaGreat
namespace Go.Proofs.YtielgpefoameiaaGreat
instance decEP : DecidableEq EP := fun P Q => decidable_of_iff (P.x = Q.x ∧ P.y = Q.y) ⟨fun h => Cp.ext' h.1 h.2, fun h => by subst h; exact ⟨rfl, rfl⟩⟩
theorem sub_nil {K : Type} [Lean.Grind.Field K] {y z : K} (h : y - z = 0) : y = z := by grind
theorem base_enc : encP base = 88 :: List.replicate 31 102 := by decide +kernel
/-- One digit more of a multiple. -/
theorem mul_digit (P : EP) (n k : Nat) : Cp.mul (n / 2 ^ k) P = if n / 2 ^ k % 2 = 1 then ((Cp.mul (n / 2 ^ (k + 1)) P).add (Cp.mul (n / 2 ^ (k + 1)) P)).add P else (Cp.mul (n / 2 ^ (k + 1)) P).add (Cp.mul (n / 2 ^ (k + 1)) P) := by
 rw [← Cp.mul_add]
 have h : n / 2 ^ (k + 1) = n / 2 ^ k / 2 := by rw [Nat.pow_succ, ← Nat.div_div_eq_div_mul]
 rw [h]
 generalize n / 2 ^ k = m
 split
 ·rename_i h1
  have e : m = m / 2 + m / 2 + 1 := by omega
  conv => lhs; rw [e]
  rfl
 ·rename_i h1
  have e : m = m / 2 + m / 2 := by omega
  conv => lhs; rw [e]
end Go.Proofs.YtielgpefoameiaaGreat
namespace Go.Proofs.YtielgpefoameiaaGreat
open Go.RowKit
def fV (f : Nat → Nat) (i : Nat) : Value := .int .u64 (f i : Nat)
theorem row5 (f : Nat → Value) : row 5 f = [f 0, f 1, f 2, f 3, f 4] := rfl
/-- The first k limbs carried, the others not yet. -/
def pasV (f : Nat → Nat) (c0 k i : Nat) : Value := if i < k then fV (pas f c0) i else fV f i
theorem pasV_at (f : Nat → Nat) (c0 k : Nat) : pasV f c0 k k = .int .u64 (f k : Nat) := by unfold pasV; rw [if_neg (by omega)]; rfl
theorem pasV_set (f : Nat → Nat) (c0 k : Nat) : (row 5 (pasV f c0 k)).set k (.int .u64 (pas f c0 k : Nat)) = row 5 (pasV f c0 (k + 1)) :=
 row_set k _ (by unfold pasV; rw [if_pos (by omega)]; rfl) (fun i _ h => by unfold pasV; by_cases h1 : i < k; rw [if_pos h1, if_pos (by omega)]; rw [if_neg h1, if_neg (by omega)])
theorem pasV_zero (f : Nat → Nat) (c0 : Nat) : row 5 (pasV f c0 0) = row 5 (fV f) := row_ext fun i _ => by unfold pasV; rw [if_neg (by omega)]
theorem pasV_five (f : Nat → Nat) (c0 : Nat) : row 5 (pasV f c0 5) = row 5 (fV (pas f c0)) := row_ext fun i h => by unfold pasV; rw [if_pos h]
theorem and51 (x : Nat) (h : x < 18446744073709551616) : bits BinOp.and IntKind.u64 (x : Int) 2251799813685247 = ((x % 2251799813685248 : Nat) : Int) := by
 rw [show (2251799813685247 : Int) = ((2251799813685247 : Nat) : Int) from rfl, u64_and_nat x 2251799813685247 h (by omega)]
 rw [show x &&& 2251799813685247 = x % 2251799813685248 from Nat.and_two_pow_sub_one_eq_mod x 51]
/-- What the walk wants of one step of a pass. -/
theorem pass_step (f : Nat → Nat) (c0 k : Nat) (h : f k + cr f c0 k < 18446744073709551616) :
  ∃ s : Int, IntKind.u64.wrap ((f k : Nat) + (cr f c0 k : Nat) : Int) = s ∧ 0 ≤ s ∧ s < 18446744073709551616 ∧ bits BinOp.and IntKind.u64 s 2251799813685247 = (pas f c0 k : Nat) ∧ s / 2251799813685248 = (cr f c0 (k + 1) : Nat) := by
 refine ⟨((f k + cr f c0 k : Nat) : Int), by rw [wrapU]; omega, by omega, by omega, and51 _ h, ?_⟩
 show _ = (((f k + cr f c0 k) / 2251799813685248 : Nat) : Int)
 omega
set_option maxRecDepth 100000 in
set_option maxHeartbeats 1000000 in
theorem carried_any (f : Nat → Nat) (hf : ∀ i, i < 5 → f i ≤ 9223372036854775808) (w : World) :
  Calls Tryz.prog 113 #[.agg #[.int .u64 (f 0 : Nat), .int .u64 (f 1 : Nat), .int .u64 (f 2 : Nat), .int .u64 (f 3 : Nat), .int .u64 (f 4 : Nat)]] w fun e w' => e = .returned (.agg #[.int .u64 (cF f 0 : Nat), .int .u64 (cF f 1 : Nat), .int .u64 (cF f 2 : Nat), .int .u64 (cF f 3 : Nat), .int .u64 (cF f 4 : Nat)]) ∧ Below w.heap.size w w' := by
 have HF := Lib.hid hf
 clear hf
 go_enter Tryz.func113, Tryz.ntmps113
 go_wp2
 refine wp_gen (fun W => Blk W w.heap.size (row 5 (fV f)) 50 ∧ Blk W (w.heap.size + 1) (row 5 (fV fun _ => 0)) 52 ∧ Below w.heap.size w W) ?_ (fun W hW => ?_)
 ·exact ⟨(Blk.new w _ _).alloc _, Blk.new' (by simp), belowBy⟩
 obtain ⟨hA, hO, hbel⟩ := hW
 refine wp_loop_rounds 3 ?_
 rw [rounds_succ]
 go_wp2
 go_loopw [3, 7] (fun c i wr => ∃ k : Nat, k ≤ 5 ∧ i = .int .i64 k ∧ c = .int .u64 (cr f 0 k : Nat) ∧ Blk wr w.heap.size (row 5 (pasV f 0 k)) 50 ∧ Blk wr (w.heap.size + 1) (row 5 (fV fun _ => 0)) 52 ∧ Below w.heap.size w wr) (fun _ i _ => 5 - (intOf i).toNat)
 case atStart => exact ⟨0, by omega, rfl, rfl, by rw [pasV_zero]; exact hA, hO, hbel⟩
 clear hA hO hbel
 have hb1 : ∀ k, k < 5 → f k + cr f 0 k < 18446744073709551616 := fun k hk => by
  have := HF.out k hk; have := cr_lt f 0 HF.out (by omega) k (by omega); omega
 have HB1 := Lib.hid hb1
 clear hb1
 case round =>
  obtain ⟨k, hk, rfl, rfl, hA, hO, hbel⟩ := hrel
  by_cases hlt : k < 5
  ·obtain ⟨s, hs, hs0, hs1, ha, hd⟩ := pass_step f 0 k (HB1.out k hlt)
   have hcell := hA.at hlt
   rw [pasV_at] at hcell
   have hfr := hA.frozen k
   have HD := Lib.hid hd
   have HA := Lib.hid ((hA.set k (.int .u64 s)).set k (.int .u64 (pas f 0 k : Nat)))
   have HO := Lib.hid ((hO.other ⟨w.heap.size, k, none⟩ (by simp) (.int .u64 s)).other ⟨w.heap.size, k, none⟩ (by simp) (.int .u64 (pas f 0 k : Nat)))
   clear hA hO hd
   go_wp2
   go_roundw
   case rel => exact ⟨k + 1, by omega, by go_num, by rw [HD.out], by have := HA.out; rw [List.set_set, pasV_set] at this; exact this, HO.out, belowBy⟩
   case measure => simp [intOf]; omega
  ·obtain rfl : k = 5 := by omega
   rw [pasV_five] at hA
   have hm : IntKind.u64.wrap (((cr f 0 5 : Nat) : Int) * 19) = ((cr f 0 5 * 19 : Nat) : Int) := by
    have := cr5 f HF.out; rw [wrapU]; omega
   have HC1 : Hid (cr f 0 5 * 19 ≤ 77843) := Lib.hid (by have := cr5 f HF.out; omega)
   clear hlt hk HB1
   generalize hc1 : cr f 0 5 * 19 = c1 at *
   have HC := Lib.hid hc1
   clear hc1
   go_wp2
   rw [rounds_succ]
   go_wp2
   clear hm
   go_loopw [3, 7] (fun c i wr => ∃ k : Nat, k ≤ 5 ∧ i = .int .i64 k ∧ c = .int .u64 (cr (pas f 0) c1 k : Nat) ∧ Blk wr w.heap.size (row 5 (pasV (pas f 0) c1 k)) 50 ∧ Blk wr (w.heap.size + 1) (row 5 (fV fun _ => 0)) 52 ∧ Below w.heap.size w wr) (fun _ i _ => 5 - (intOf i).toNat)
   case atStart => exact ⟨0, by omega, rfl, rfl, by rw [pasV_zero]; exact hA, hO, hbel⟩
   clear hA hO hbel
   have hb2 : ∀ k, k < 5 → pas f 0 k + cr (pas f 0) c1 k < 18446744073709551616 := fun k hk => by
    have := pas_lt f 0 k; have := cr_lt (pas f 0) c1 (fun i _ => by have := pas_lt f 0 i; omega) (by have := HC1.out; omega) k (by omega); omega
   have HB2 := Lib.hid hb2
   clear hb2
   case round =>
    obtain ⟨k, hk, rfl, rfl, hA, hO, hbel⟩ := hrel
    by_cases hlt : k < 5
    ·obtain ⟨s, hs, hs0, hs1, ha, hd⟩ := pass_step (pas f 0) c1 k (HB2.out k hlt)
     have hcell := hA.at hlt
     rw [pasV_at] at hcell
     have hfr := hA.frozen k
     have HD := Lib.hid hd
     have HA := Lib.hid ((hA.set k (.int .u64 s)).set k (.int .u64 (pas (pas f 0) c1 k : Nat)))
     have HO := Lib.hid ((hO.other ⟨w.heap.size, k, none⟩ (by simp) (.int .u64 s)).other ⟨w.heap.size, k, none⟩ (by simp) (.int .u64 (pas (pas f 0) c1 k : Nat)))
     clear hA hO hd
     go_wp2
     go_roundw
     case rel => exact ⟨k + 1, by omega, by go_num, by rw [HD.out], by have := HA.out; rw [List.set_set, pasV_set] at this; exact this, HO.out, belowBy⟩
     case measure => simp [intOf]; omega
    ·obtain rfl : k = 5 := by omega
     rw [pasV_five] at hA
     have h5 := cr_one (pas f 0) c1 (pas_lt f 0) (by have := HC1.out; omega) 5 (by omega)
     have h0 := pas_lt (pas f 0) c1 0
     have hm : IntKind.u64.wrap (((cr (pas f 0) c1 5 : Nat) : Int) * 19) = ((cr (pas f 0) c1 5 * 19 : Nat) : Int) := by rw [wrapU]; omega
     have hs : IntKind.u64.wrap (((pas (pas f 0) c1 0 : Nat) : Int) + ((cr (pas f 0) c1 5 * 19 : Nat) : Int)) = ((cF f 0 : Nat) : Int) := by
      rw [wrapU]; show _ = ((pas (pas f 0) (cr f 0 5 * 19) 0 + cr (pas f 0) (cr f 0 5 * 19) 5 * 19 : Nat) : Int)
      rw [HC.out]; omega
     rw [row5] at hA hO
     have hAc := hA.cell; have hAf := hA.frozen; have hOc := hO.cell; have hOf := hO.frozen
     unfold fV at hAc hOc
     rw [show pas (pas f 0) c1 1 = cF f 1 from by rw [← HC.out]; rfl, show pas (pas f 0) c1 2 = cF f 2 from by rw [← HC.out]; rfl, show pas (pas f 0) c1 3 = cF f 3 from by rw [← HC.out]; rfl, show pas (pas f 0) c1 4 = cF f 4 from by rw [← HC.out]; rfl] at hAc
     generalize cr (pas f 0) c1 5 * 19 = c2 at *
     generalize cr (pas f 0) c1 5 = c3 at *
     generalize pas (pas f 0) c1 0 = p0 at *
     clear h5 h0 hA hO hlt hk HB2
     go_wp2
     rw [rounds_succ]
     go_wp2
     exact bodyPost_ret (v := .agg #[.int .u64 (cF f 0 : Nat), .int .u64 (cF f 1 : Nat), .int .u64 (cF f 2 : Nat), .int .u64 (cF f 3 : Nat), .int .u64 (cF f 4 : Nat)]) (by simp [results, Tryz.results113, go_sem, hOc]) rfl ⟨rfl, belowBy⟩
end Go.Proofs.YtielgpefoameiaaGreat
namespace Go.Proofs.YtielgpefoameiaaGreat
open Go.RowKit
/-- The limbs f mean the number n (below p). -/
structure FE (f : Nat → Nat) (n : Nat) : Prop where
 lim : Lim f
 num : val f % Pq = n
theorem FE.lt {f : Nat → Nat} {n : Nat} (h : FE f n) : n < Pq := by rw [← h.num]; exact Nat.mod_lt _ Pq_pos
theorem Lim.lt {f : Nat → Nat} (h : Lim f) : ∀ i, i < 5 → f i < 2251799813685268 := by
 intro i hi
 have hh : i = 0 ∨ i = 1 ∨ i = 2 ∨ i = 3 ∨ i = 4 := by omega
 rcases hh with rfl | rfl | rfl | rfl | rfl
 ·exact h.l0
 ·have := h.l1; omega
 ·have := h.l2; omega
 ·have := h.l3; omega
 ·have := h.l4; omega
def addF (f g : Nat → Nat) (i : Nat) : Nat := f i + g i
theorem addF_val (f g : Nat → Nat) : val (addF f g) = val f + val g := by simp only [val, addF]; omega
theorem addF_at {f g : Nat → Nat} (hf : Lim f) (hg : Lim g) (i : Nat) (hi : i < 5) : IntKind.u64.wrap ((f i : Nat) + (g i : Nat) : Int) = (addF f g i : Nat) := by
 have := hf.lt i hi; have := hg.lt i hi
 unfold addF; rw [wrapU]; omega
set_option maxRecDepth 100000 in
set_option maxHeartbeats 1000000 in
theorem feadd_any {f g : Nat → Nat} {x y : Nat} (hf : FE f x) (hg : FE g y) (w : World) :
  Calls Tryz.prog 92 #[.agg #[.int .u64 (f 0 : Nat), .int .u64 (f 1 : Nat), .int .u64 (f 2 : Nat), .int .u64 (f 3 : Nat), .int .u64 (f 4 : Nat)], .agg #[.int .u64 (g 0 : Nat), .int .u64 (g 1 : Nat), .int .u64 (g 2 : Nat), .int .u64 (g 3 : Nat), .int .u64 (g 4 : Nat)]] w fun e w' => ∃ h, e = .returned (.agg #[.int .u64 (h 0 : Nat), .int .u64 (h 1 : Nat), .int .u64 (h 2 : Nat), .int .u64 (h 3 : Nat), .int .u64 (h 4 : Nat)]) ∧ FE h ((x + y) % Pq) ∧ Below w.heap.size w w' := by
 have s0 := addF_at hf.lim hg.lim 0 (by omega)
 have s1 := addF_at hf.lim hg.lim 1 (by omega)
 have s2 := addF_at hf.lim hg.lim 2 (by omega)
 have s3 := addF_at hf.lim hg.lim 3 (by omega)
 have s4 := addF_at hf.lim hg.lim 4 (by omega)
 have hb : ∀ i, i < 5 → addF f g i ≤ 9223372036854775808 := fun i hi => by
  have := hf.lim.lt i hi; have := hg.lim.lt i hi; unfold addF; omega
 have HB := Lib.hid hb
 have HR : Hid (FE (cF (addF f g)) ((x + y) % Pq)) := Lib.hid ⟨cF_lim _ hb, by rw [cF_val, addF_val, Nat.add_mod, hf.num, hg.num]⟩
 clear hb hf hg
 go_enter Tryz.func92, Tryz.ntmps92
 go_wp2
 refine wp_loop_rounds 6 ?_
 iterate 5 (rw [rounds_succ]; go_wp2; go_region; go_wp2)
 rw [rounds_succ]
 go_wp2_with (go_at_call 113; go_must (refine (carried_any (addF f g) HB.out _).mono ?_; rintro e w1 ⟨rfl, hb⟩; have hO := (show Blk _ (w.heap.size + 1 + 1) [.int .u64 0, .int .u64 0, .int .u64 0, .int .u64 0, .int .u64 0] 52 from (by repeat (first | (with_reducible refine Blk.drew ?_) | exact Blk.new' (by simp) | (with_reducible refine Blk.alloc ?_ _)))).below' hb; have hOc := hO.cell; have hOf := hO.frozen; have hbel : Below w.heap.size w w1 := Below.call belowBy hb; clear hb hO))
 exact bodyPost_ret (v := .agg #[.int .u64 (cF (addF f g) 0 : Nat), .int .u64 (cF (addF f g) 1 : Nat), .int .u64 (cF (addF f g) 2 : Nat), .int .u64 (cF (addF f g) 3 : Nat), .int .u64 (cF (addF f g) 4 : Nat)]) (by simp [results, Tryz.results92, go_sem, hOc]) rfl ⟨_, rfl, HR.out, belowBy⟩
def fourP (i : Nat) : Nat := if i = 0 then 9007199254740916 else 9007199254740988
def subF (f g : Nat → Nat) (i : Nat) : Nat := f i + (fourP i - g i)
theorem subF_val {f g : Nat → Nat} (hg : Lim g) : val (subF f g) + val g = val f + 4 * Pq := by
 have h0 := hg.l0; have h1 := hg.l1; have h2 := hg.l2; have h3 := hg.l3; have h4 := hg.l4
 simp only [val, subF, fourP, if_true, if_neg (show ¬ (1 = 0) by omega), if_neg (show ¬ (2 = 0) by omega), if_neg (show ¬ (3 = 0) by omega), if_neg (show ¬ (4 = 0) by omega), Pq]
 omega
theorem subF_at {f g : Nat → Nat} (hf : Lim f) (hg : Lim g) (i : Nat) (hi : i < 5) : IntKind.u64.wrap ((f i : Nat) + IntKind.u64.wrap ((fourP i : Nat) - (g i : Nat)) : Int) = (subF f g i : Nat) := by
 have := hf.lt i hi; have := hg.lt i hi
 have hk : 9007199254740916 ≤ fourP i ∧ fourP i ≤ 9007199254740988 := by unfold fourP; split <;> omega
 unfold subF; rw [wrapU, wrapU]; omega
theorem mod_sub {a b x y : Nat} (h : a + b = x + 4 * Pq) (hy : b % Pq = y) : a % Pq = (x % Pq + (Pq - y)) % Pq := by
 unfold Pq at *; omega
set_option maxRecDepth 100000 in
set_option maxHeartbeats 1000000 in
theorem fesub_any {f g : Nat → Nat} {x y : Nat} (hf : FE f x) (hg : FE g y) (w : World) :
  Calls Tryz.prog 90 #[.agg #[.int .u64 (f 0 : Nat), .int .u64 (f 1 : Nat), .int .u64 (f 2 : Nat), .int .u64 (f 3 : Nat), .int .u64 (f 4 : Nat)], .agg #[.int .u64 (g 0 : Nat), .int .u64 (g 1 : Nat), .int .u64 (g 2 : Nat), .int .u64 (g 3 : Nat), .int .u64 (g 4 : Nat)]] w fun e w' => ∃ h, e = .returned (.agg #[.int .u64 (h 0 : Nat), .int .u64 (h 1 : Nat), .int .u64 (h 2 : Nat), .int .u64 (h 3 : Nat), .int .u64 (h 4 : Nat)]) ∧ FE h ((x + (Pq - y)) % Pq) ∧ Below w.heap.size w w' := by
 have s0 : IntKind.u64.wrap ((f 0 : Nat) + IntKind.u64.wrap (9007199254740916 - (g 0 : Nat)) : Int) = (subF f g 0 : Nat) := subF_at hf.lim hg.lim 0 (by omega)
 have s1 : IntKind.u64.wrap ((f 1 : Nat) + IntKind.u64.wrap (9007199254740988 - (g 1 : Nat)) : Int) = (subF f g 1 : Nat) := subF_at hf.lim hg.lim 1 (by omega)
 have s2 : IntKind.u64.wrap ((f 2 : Nat) + IntKind.u64.wrap (9007199254740988 - (g 2 : Nat)) : Int) = (subF f g 2 : Nat) := subF_at hf.lim hg.lim 2 (by omega)
 have s3 : IntKind.u64.wrap ((f 3 : Nat) + IntKind.u64.wrap (9007199254740988 - (g 3 : Nat)) : Int) = (subF f g 3 : Nat) := subF_at hf.lim hg.lim 3 (by omega)
 have s4 : IntKind.u64.wrap ((f 4 : Nat) + IntKind.u64.wrap (9007199254740988 - (g 4 : Nat)) : Int) = (subF f g 4 : Nat) := subF_at hf.lim hg.lim 4 (by omega)
 have hb : ∀ i, i < 5 → subF f g i ≤ 9223372036854775808 := fun i hi => by
  have := hf.lim.lt i hi
  have hk : fourP i ≤ 9007199254740988 := by unfold fourP; split <;> omega
  unfold subF; omega
 have HB := Lib.hid hb
 have HR : Hid (FE (cF (subF f g)) ((x + (Pq - y)) % Pq)) := Lib.hid ⟨cF_lim _ hb, by rw [cF_val, mod_sub (subF_val hg.lim) hg.num, hf.num]⟩
 clear hb hf hg
 go_enter Tryz.func90, Tryz.ntmps90
 go_wp2
 refine wp_loop_rounds 6 ?_
 iterate 5 (rw [rounds_succ]; go_wp2; (try go_region); go_wp2)
 rw [rounds_succ]
 go_wp2_with (go_at_call 113; go_must (refine (carried_any (subF f g) HB.out _).mono ?_; rintro e w1 ⟨rfl, hb⟩; have hO := (show Blk _ (w.heap.size + 1 + 1) [.int .u64 0, .int .u64 0, .int .u64 0, .int .u64 0, .int .u64 0] 52 from (by repeat (first | (with_reducible refine Blk.drew ?_) | exact Blk.new' (by simp) | (with_reducible refine Blk.alloc ?_ _)))).below' hb; have hOc := hO.cell; have hOf := hO.frozen; have hbel : Below w.heap.size w w1 := Below.call belowBy hb; clear hb hO))
 exact bodyPost_ret (v := .agg #[.int .u64 (cF (subF f g) 0 : Nat), .int .u64 (cF (subF f g) 1 : Nat), .int .u64 (cF (subF f g) 2 : Nat), .int .u64 (cF (subF f g) 3 : Nat), .int .u64 (cF (subF f g) 4 : Nat)]) (by simp [results, Tryz.results90, go_sem, hOc]) rfl ⟨_, rfl, HR.out, belowBy⟩
theorem FE.zero : FE (fun _ => 0) 0 := ⟨⟨by omega, by omega, by omega, by omega, by omega⟩, by decide +kernel⟩
theorem buildE (w : World) : (Instr.build 52 #[]).run Tryz.prog w = .ok (.agg #[.int .u64 0, .int .u64 0, .int .u64 0, .int .u64 0, .int .u64 0]) w := by kernel_rfl
theorem fesub_zero {g : Nat → Nat} {y : Nat} (hg : FE g y) (w : World) :
  Calls Tryz.prog 90 #[.agg #[.int .u64 0, .int .u64 0, .int .u64 0, .int .u64 0, .int .u64 0], .agg #[.int .u64 (g 0 : Nat), .int .u64 (g 1 : Nat), .int .u64 (g 2 : Nat), .int .u64 (g 3 : Nat), .int .u64 (g 4 : Nat)]] w fun e w' => ∃ h, e = .returned (.agg #[.int .u64 (h 0 : Nat), .int .u64 (h 1 : Nat), .int .u64 (h 2 : Nat), .int .u64 (h 3 : Nat), .int .u64 (h 4 : Nat)]) ∧ FE h ((Pq - y) % Pq) ∧ Below w.heap.size w w' := by
 have := fesub_any FE.zero hg w
 rw [Nat.zero_add] at this; exact this
set_option maxRecDepth 100000 in
set_option maxHeartbeats 1000000 in
theorem feneg_any {f : Nat → Nat} {x : Nat} (hf : FE f x) (w : World) :
  Calls Tryz.prog 97 #[.agg #[.int .u64 (f 0 : Nat), .int .u64 (f 1 : Nat), .int .u64 (f 2 : Nat), .int .u64 (f 3 : Nat), .int .u64 (f 4 : Nat)]] w fun e w' => ∃ h, e = .returned (.agg #[.int .u64 (h 0 : Nat), .int .u64 (h 1 : Nat), .int .u64 (h 2 : Nat), .int .u64 (h 3 : Nat), .int .u64 (h 4 : Nat)]) ∧ FE h ((Pq - x) % Pq) ∧ Below w.heap.size w w' := by
 have hbE := buildE
 go_enter Tryz.func97, Tryz.ntmps97
 go_wp2_with (go_at_call 90; go_must (refine (fesub_zero hf _).mono ?_; rintro e w1 ⟨h, rfl, hr, hb⟩; have hO := (show Blk _ (w.heap.size + 1) [.int .u64 0, .int .u64 0, .int .u64 0, .int .u64 0, .int .u64 0] 52 from (by repeat (first | (with_reducible refine Blk.drew ?_) | exact Blk.new' (by simp) | (with_reducible refine Blk.alloc ?_ _)))).below' hb; have hOc := hO.cell; have hOf := hO.frozen; have hbel : Below w.heap.size w w1 := Below.call belowBy hb; clear hb hO))
 exact bodyPost_ret (v := .agg #[.int .u64 (h 0 : Nat), .int .u64 (h 1 : Nat), .int .u64 (h 2 : Nat), .int .u64 (h 3 : Nat), .int .u64 (h 4 : Nat)]) (by simp [results, Tryz.results97, go_sem, hOc]) rfl ⟨_, rfl, hr, belowBy⟩
def smallF (n i : Nat) : Nat := if i = 0 then n % 2251799813685248 else if i = 1 then n / 2251799813685248 else 0
theorem smallF_val (n : Nat) : val (smallF n) = n := by
 simp only [val, smallF, if_true, if_neg (show ¬ (1 = 0) by omega), if_neg (show ¬ (2 = 0) by omega), if_neg (show ¬ (3 = 0) by omega), if_neg (show ¬ (4 = 0) by omega), if_neg (show ¬ (2 = 1) by omega), if_neg (show ¬ (3 = 1) by omega), if_neg (show ¬ (4 = 1) by omega)]
 omega
theorem FE.small {n : Nat} (hn : n < 18446744073709551616) : FE (smallF n) n :=
 ⟨⟨by simp only [smallF, if_true]; omega, by simp [smallF]; omega, by simp [smallF], by simp [smallF], by simp [smallF]⟩, by rw [smallF_val, Nat.mod_eq_of_lt (by unfold Pq; omega)]⟩
set_option maxRecDepth 100000 in
set_option maxHeartbeats 1000000 in
theorem fesmall_any {n : Nat} (hn : n < 18446744073709551616) (w : World) :
  Calls Tryz.prog 89 #[.int .u64 n] w fun e w' => e = .returned (.agg #[.int .u64 (smallF n 0 : Nat), .int .u64 (smallF n 1 : Nat), .int .u64 (smallF n 2 : Nat), .int .u64 (smallF n 3 : Nat), .int .u64 (smallF n 4 : Nat)]) ∧ Below w.heap.size w w' := by
 have ha := and51 n hn
 have HD : Hid ((n : Int) / 2251799813685248 = (smallF n 1 : Nat)) := Lib.hid (by simp [smallF])
 have HE : Hid (((n % 2251799813685248 : Nat) : Int) = (smallF n 0 : Nat)) := Lib.hid (by simp [smallF])
 rw [HE.out] at ha
 clear hn
 go_enter Tryz.func89, Tryz.ntmps89
 go_wp2
 exact bodyPost_ret (v := .agg #[.int .u64 (smallF n 0 : Nat), .int .u64 ((n : Int) / 2251799813685248), .int .u64 0, .int .u64 0, .int .u64 0]) (by simp [results, Tryz.results89, go_sem]) rfl ⟨by rw [HD.out]; rfl, belowBy⟩
set_option maxRecDepth 100000 in
set_option maxHeartbeats 1000000 in
theorem fepick_any (b : Bool) (f g : Nat → Nat) (w : World) :
  Calls Tryz.prog 96 #[.bool b, .agg #[.int .u64 (f 0 : Nat), .int .u64 (f 1 : Nat), .int .u64 (f 2 : Nat), .int .u64 (f 3 : Nat), .int .u64 (f 4 : Nat)], .agg #[.int .u64 (g 0 : Nat), .int .u64 (g 1 : Nat), .int .u64 (g 2 : Nat), .int .u64 (g 3 : Nat), .int .u64 (g 4 : Nat)]] w fun e w' => e = .returned (.agg #[.int .u64 ((if b then f else g) 0 : Nat), .int .u64 ((if b then f else g) 1 : Nat), .int .u64 ((if b then f else g) 2 : Nat), .int .u64 ((if b then f else g) 3 : Nat), .int .u64 ((if b then f else g) 4 : Nat)]) ∧ Below w.heap.size w w' := by
 cases b
 ·go_enter Tryz.func96, Tryz.ntmps96
  go_wp2
  exact bodyPost_ret (v := .agg #[.int .u64 (g 0 : Nat), .int .u64 (g 1 : Nat), .int .u64 (g 2 : Nat), .int .u64 (g 3 : Nat), .int .u64 (g 4 : Nat)]) (by simp [results, Tryz.results96, go_sem]) rfl ⟨rfl, belowBy⟩
 ·go_enter Tryz.func96, Tryz.ntmps96
  go_wp2
  exact bodyPost_ret (v := .agg #[.int .u64 (f 0 : Nat), .int .u64 (f 1 : Nat), .int .u64 (f 2 : Nat), .int .u64 (f 3 : Nat), .int .u64 (f 4 : Nat)]) (by simp [results, Tryz.results96, go_sem]) rfl ⟨rfl, belowBy⟩
end Go.Proofs.YtielgpefoameiaaGreat
namespace Go.Proofs.YtielgpefoameiaaGreat
open Go.RowKit
/-- The two words of a number of 128 digits. -/
def whi (n : Nat) : Nat := n / 18446744073709551616
def wlo (n : Nat) : Nat := n % 18446744073709551616
theorem plus_num (n a b : Nat) (_ha : a < 18446744073709551616) (_hb : b < 18446744073709551616) (h : n + a * b < 340282366920938463463374607431768211456) :
  adds (mlo a b) (wlo n : Nat) 0 = (wlo (n + a * b) : Nat) ∧ adds (mhi a b) (whi n : Nat) (addc (mlo a b) (wlo n : Nat) 0) = (whi (n + a * b) : Nat) := by
 unfold adds addc mlo mhi wlo whi
 rw [show (a : Int) * (b : Int) = ((a * b : Nat) : Int) from by simp]
 generalize a * b = p at *
 constructor
 ·omega
 ·omega
theorem mhi_wd (a b : Nat) (ha : a < 18446744073709551616) (hb : b < 18446744073709551616) : Wd (mhi a b) := by
 have h5 : a * b ≤ 18446744073709551615 * 18446744073709551615 := Nat.mul_le_mul (by omega) (by omega)
 unfold mhi
 rw [show (a : Int) * (b : Int) = ((a * b : Nat) : Int) from by simp]
 generalize a * b = p at *
 exact ⟨by omega, by omega⟩
theorem wlo_wd (n : Nat) : Wd (wlo n : Nat) := by unfold wlo; exact ⟨by omega, by omega⟩
theorem whi_wd {n : Nat} (h : n < 340282366920938463463374607431768211456) : Wd (whi n : Nat) := by unfold whi; exact ⟨by omega, by omega⟩
set_option maxRecDepth 100000 in
set_option maxHeartbeats 1000000 in
theorem feplus_any (n a b : Nat) (ha : a < 18446744073709551616) (hb : b < 18446744073709551616) (h : n + a * b < 340282366920938463463374607431768211456) (w : World) :
  Calls Tryz.prog 112 #[.agg #[.int .u64 (whi n : Nat), .int .u64 (wlo n : Nat)], .int .u64 a, .int .u64 b] w fun e w' => e = .returned (.agg #[.int .u64 (whi (n + a * b) : Nat), .int .u64 (wlo (n + a * b) : Nat)]) ∧ Below w.heap.size w w' := by
 have hn := plus_num n a b ha hb h
 have h1 := fun w => add64 (mlo_wd a b) (wlo_wd n) Cy.zero w
 have h2 := fun w => add64 (mhi_wd a b ha hb) (whi_wd (n := n) (by omega)) (addc_cy (mlo_wd a b) (wlo_wd n) Cy.zero) w
 rw [hn.1] at h1
 rw [hn.2] at h2
 have HM := Lib.hid (fun w => mul64_o (x := a) (y := b) ⟨by omega, by omega⟩ ⟨by omega, by omega⟩ w)
 clear hn h ha hb
 go_enter Tryz.func112, Tryz.ntmps112
 go_wp2_with (go_at_call 69; go_must (refine (HM.out _).mono ?_; rintro e w1 ⟨rfl, rfl⟩))
 exact bodyPost_ret (v := .agg #[.int .u64 (whi (n + a * b) : Nat), .int .u64 (wlo (n + a * b) : Nat)]) (by simp [results, Tryz.results112, go_sem]) rfl ⟨rfl, belowBy⟩
theorem ix5_0 (x0 x1 x2 x3 x4 : Value) (w : World) : (Instr.index 50 (.agg #[x0, x1, x2, x3, x4]) (.int .i64 0)).run Tryz.prog w = .ok x0 w := by kernel_rfl
theorem ix5_1 (x0 x1 x2 x3 x4 : Value) (w : World) : (Instr.index 50 (.agg #[x0, x1, x2, x3, x4]) (.int .i64 1)).run Tryz.prog w = .ok x1 w := by kernel_rfl
theorem ix5_2 (x0 x1 x2 x3 x4 : Value) (w : World) : (Instr.index 50 (.agg #[x0, x1, x2, x3, x4]) (.int .i64 2)).run Tryz.prog w = .ok x2 w := by kernel_rfl
theorem ix5_3 (x0 x1 x2 x3 x4 : Value) (w : World) : (Instr.index 50 (.agg #[x0, x1, x2, x3, x4]) (.int .i64 3)).run Tryz.prog w = .ok x3 w := by kernel_rfl
theorem ix5_4 (x0 x1 x2 x3 x4 : Value) (w : World) : (Instr.index 50 (.agg #[x0, x1, x2, x3, x4]) (.int .i64 4)).run Tryz.prog w = .ok x4 w := by kernel_rfl
theorem ix5 (f : Nat → Nat) (k : Nat) (hk : k < 5) (w : World) : (Instr.index 50 (.agg #[.int .u64 (f 0 : Nat), .int .u64 (f 1 : Nat), .int .u64 (f 2 : Nat), .int .u64 (f 3 : Nat), .int .u64 (f 4 : Nat)]) (.int .i64 (k : Nat))).run Tryz.prog w = .ok (.int .u64 (f k : Nat)) w := by
 have h : k = 0 ∨ k = 1 ∨ k = 2 ∨ k = 3 ∨ k = 4 := by omega
 rcases h with rfl | rfl | rfl | rfl | rfl
 ·exact ix5_0 _ _ _ _ _ _
 ·exact ix5_1 _ _ _ _ _ _
 ·exact ix5_2 _ _ _ _ _ _
 ·exact ix5_3 _ _ _ _ _ _
 ·exact ix5_4 _ _ _ _ _ _
/-- The columns of a product, when i rows, and j products of the next one, were done. -/
def colStep (f g : Nat → Nat) (i j : Nat) (R : Nat → Nat) (k : Nat) : Nat :=
 if k = (i + j) % 5 then R k + (if 5 ≤ i + j then f i * 19 else f i) * g j else R k
def colJ (f g : Nat → Nat) (i : Nat) (R : Nat → Nat) : Nat → Nat → Nat
 | 0 => R
 | j + 1 => colStep f g i j (colJ f g i R j)
def colI (f g : Nat → Nat) : Nat → Nat → Nat
 | 0 => fun _ => 0
 | i + 1 => colJ f g i (colI f g i) 5
def col (f g : Nat → Nat) (i j : Nat) : Nat → Nat := colJ f g i (colI f g i) j
/-- The columns as cells. -/
def colV (R : Nat → Nat) (q : Nat) : Value := if q % 2 = 0 then .int .u64 (whi (R (q / 2)) : Nat) else .int .u64 (wlo (R (q / 2)) : Nat)
theorem col_succ (f g : Nat → Nat) (i j : Nat) : col f g i (j + 1) = colStep f g i j (col f g i j) := rfl
theorem colStep_le {f g R : Nat → Nat} {i j B : Nat} (hf : Lim f) (hg : Lim g) (hi : i < 5) (hj : j < 5) (h : ∀ k, R k ≤ B) (k : Nat) : colStep f g i j R k ≤ B + 96342400000000000000000000000000 := by
 have h1 := hf.lt i hi
 have h2 := hg.lt j hj
 have h3 : (if 5 ≤ i + j then f i * 19 else f i) ≤ 42784196460020092 := by split <;> omega
 have h4 : (if 5 ≤ i + j then f i * 19 else f i) * g j ≤ 96342400000000000000000000000000 := Nat.le_trans (Nat.mul_le_mul h3 (show g j ≤ 2251799813685268 by omega)) (by decide)
 have := h k
 unfold colStep
 generalize (if 5 ≤ i + j then f i * 19 else f i) * g j = z at *
 split <;> omega
theorem colJ_le {f g R : Nat → Nat} {i B : Nat} (hf : Lim f) (hg : Lim g) (hi : i < 5) (h : ∀ k, R k ≤ B) : ∀ j, j ≤ 5 → ∀ k, colJ f g i R j k ≤ B + j * 96342400000000000000000000000000
 | 0, _, k => by have := h k; simpa [colJ] using this
 | j + 1, hj, k => by
  have := colStep_le (j := j) hf hg hi (by omega) (colJ_le hf hg hi h j (by omega)) k
  show colStep f g i j (colJ f g i R j) k ≤ _
  omega
theorem colI_le {f g : Nat → Nat} (hf : Lim f) (hg : Lim g) : ∀ i, i ≤ 5 → ∀ k, colI f g i k ≤ 5 * i * 96342400000000000000000000000000
 | 0, _, k => by simp [colI]
 | i + 1, hi, k => by
  have := colJ_le hf hg (show i < 5 by omega) (colI_le hf hg i (by omega)) 5 (by omega) k
  show colJ f g i (colI f g i) 5 k ≤ _
  omega
theorem col_le {f g : Nat → Nat} (hf : Lim f) (hg : Lim g) (i j : Nat) (hi : i < 5) (hj : j ≤ 5) (k : Nat) : col f g i j k ≤ 25 * 96342400000000000000000000000000 := by
 have := colJ_le hf hg hi (colI_le hf hg i (by omega)) j hj k
 unfold col
 have h2 : 5 * i * 96342400000000000000000000000000 ≤ 20 * 96342400000000000000000000000000 := Nat.mul_le_mul_right _ (by omega)
 have h3 : j * 96342400000000000000000000000000 ≤ 5 * 96342400000000000000000000000000 := Nat.mul_le_mul_right _ (by omega)
 omega
theorem colV_hi (R : Nat → Nat) (m : Nat) : colV R (m * 2) = .int .u64 (whi (R m) : Nat) := by
 unfold colV; rw [if_pos (by omega), show m * 2 / 2 = m from by omega]
theorem colV_lo (R : Nat → Nat) (m : Nat) : colV R (m * 2 + 1) = .int .u64 (wlo (R m) : Nat) := by
 unfold colV; rw [if_neg (by omega), show (m * 2 + 1) / 2 = m from by omega]
theorem colV_set (R : Nat → Nat) (m v : Nat) : ((row 10 (colV R)).set (m * 2) (.int .u64 (whi v : Nat))).set (m * 2 + 1) (.int .u64 (wlo v : Nat)) = row 10 (colV fun k => if k = m then v else R k) := by
 rw [row_set (g := fun q => if q = m * 2 then .int .u64 (whi v : Nat) else colV R q) (m * 2) _ (by simp) (fun i _ h => by simp [h])]
 refine row_set _ _ ?_ (fun i _ h => ?_)
 ·rw [colV_lo, if_pos rfl]
 ·by_cases h1 : i = m * 2
  ·subst h1; rw [if_pos rfl, colV_hi, if_pos rfl]
  ·rw [if_neg h1]
   unfold colV
   simp only [if_neg (show ¬ i / 2 = m by omega)]
theorem col_big (f g : Nat → Nat) (i j : Nat) (h : 5 ≤ i + j) (hi : i < 5) (hj : j < 5) : col f g i (j + 1) = fun k => if k = i + j - 5 then col f g i j (i + j - 5) + f i * 19 * g j else col f g i j k := by
 rw [col_succ]; funext k; unfold colStep
 rw [show (i + j) % 5 = i + j - 5 from by omega]
 by_cases hk : k = i + j - 5
 ·subst hk; rw [if_pos rfl, if_pos rfl, if_pos h]
 ·rw [if_neg hk, if_neg hk]
theorem col_low (f g : Nat → Nat) (i j : Nat) (h : ¬ 5 ≤ i + j) : col f g i (j + 1) = fun k => if k = i + j then col f g i j (i + j) + f i * g j else col f g i j k := by
 rw [col_succ]; funext k; unfold colStep
 rw [show (i + j) % 5 = i + j from by omega]
 by_cases hk : k = i + j
 ·subst hk; rw [if_pos rfl, if_pos rfl, if_neg h]
 ·rw [if_neg hk, if_neg hk]
theorem row10 (f : Nat → Value) : row 10 f = [f 0, f 1, f 2, f 3, f 4, f 5, f 6, f 7, f 8, f 9] := rfl
theorem colV_0 (R : Nat → Nat) : colV R 0 = .int .u64 (whi (R 0) : Nat) := rfl
theorem colV_1 (R : Nat → Nat) : colV R 1 = .int .u64 (wlo (R 0) : Nat) := rfl
theorem colV_2 (R : Nat → Nat) : colV R 2 = .int .u64 (whi (R 1) : Nat) := rfl
theorem colV_3 (R : Nat → Nat) : colV R 3 = .int .u64 (wlo (R 1) : Nat) := rfl
theorem colV_4 (R : Nat → Nat) : colV R 4 = .int .u64 (whi (R 2) : Nat) := rfl
theorem colV_5 (R : Nat → Nat) : colV R 5 = .int .u64 (wlo (R 2) : Nat) := rfl
theorem colV_6 (R : Nat → Nat) : colV R 6 = .int .u64 (whi (R 3) : Nat) := rfl
theorem colV_7 (R : Nat → Nat) : colV R 7 = .int .u64 (wlo (R 3) : Nat) := rfl
theorem colV_8 (R : Nat → Nat) : colV R 8 = .int .u64 (whi (R 4) : Nat) := rfl
theorem colV_9 (R : Nat → Nat) : colV R 9 = .int .u64 (wlo (R 4) : Nat) := rfl
/-- The columns are the product, but for 2^255, that is 19. -/
theorem col_val (f g : Nat → Nat) : val (col f g 5 0) % Pq = val f * val g % Pq := by
 have e : val f * val g = (f 0 * g 0 + 2251799813685248 * ((f 0 * g 1 + f 1 * g 0) + 2251799813685248 * ((f 0 * g 2 + f 1 * g 1 + f 2 * g 0) + 2251799813685248 * ((f 0 * g 3 + f 1 * g 2 + f 2 * g 1 + f 3 * g 0) + 2251799813685248 * (f 0 * g 4 + f 1 * g 3 + f 2 * g 2 + f 3 * g 1 + f 4 * g 0))))) +
   57896044618658097711785492504343953926634992332820282019728792003956564819968 * ((f 1 * g 4 + f 2 * g 3 + f 3 * g 2 + f 4 * g 1) + 2251799813685248 * ((f 2 * g 4 + f 3 * g 3 + f 4 * g 2) + 2251799813685248 * ((f 3 * g 4 + f 4 * g 3) + 2251799813685248 * (f 4 * g 4)))) := by
  unfold val; grind
 rw [e, add_mul_mod19]
 congr 1
 simp [val, col, colJ, colI, colStep]
 grind
theorem ixw_0 (x0 x1 x2 x3 x4 x5 x6 x7 x8 x9 : Value) (w : World) : (Instr.index 129 (.agg #[x0, x1, x2, x3, x4, x5, x6, x7, x8, x9]) (.int .i64 0)).run Tryz.prog w = .ok (.agg #[x0, x1]) w := by kernel_rfl
theorem ixw_1 (x0 x1 x2 x3 x4 x5 x6 x7 x8 x9 : Value) (w : World) : (Instr.index 129 (.agg #[x0, x1, x2, x3, x4, x5, x6, x7, x8, x9]) (.int .i64 1)).run Tryz.prog w = .ok (.agg #[x2, x3]) w := by kernel_rfl
theorem ixw_2 (x0 x1 x2 x3 x4 x5 x6 x7 x8 x9 : Value) (w : World) : (Instr.index 129 (.agg #[x0, x1, x2, x3, x4, x5, x6, x7, x8, x9]) (.int .i64 2)).run Tryz.prog w = .ok (.agg #[x4, x5]) w := by kernel_rfl
theorem ixw_3 (x0 x1 x2 x3 x4 x5 x6 x7 x8 x9 : Value) (w : World) : (Instr.index 129 (.agg #[x0, x1, x2, x3, x4, x5, x6, x7, x8, x9]) (.int .i64 3)).run Tryz.prog w = .ok (.agg #[x6, x7]) w := by kernel_rfl
theorem ixw_4 (x0 x1 x2 x3 x4 x5 x6 x7 x8 x9 : Value) (w : World) : (Instr.index 129 (.agg #[x0, x1, x2, x3, x4, x5, x6, x7, x8, x9]) (.int .i64 4)).run Tryz.prog w = .ok (.agg #[x8, x9]) w := by kernel_rfl
theorem ixw (R : Nat → Nat) (k : Nat) (hk : k < 5) (w : World) : (Instr.index 129 (.agg #[.int .u64 (whi (R 0) : Nat), .int .u64 (wlo (R 0) : Nat), .int .u64 (whi (R 1) : Nat), .int .u64 (wlo (R 1) : Nat), .int .u64 (whi (R 2) : Nat), .int .u64 (wlo (R 2) : Nat), .int .u64 (whi (R 3) : Nat), .int .u64 (wlo (R 3) : Nat), .int .u64 (whi (R 4) : Nat), .int .u64 (wlo (R 4) : Nat)]) (.int .i64 (k : Nat))).run Tryz.prog w = .ok (.agg #[.int .u64 (whi (R k) : Nat), .int .u64 (wlo (R k) : Nat)]) w := by
 have h : k = 0 ∨ k = 1 ∨ k = 2 ∨ k = 3 ∨ k = 4 := by omega
 rcases h with rfl | rfl | rfl | rfl | rfl
 ·exact ixw_0 _ _ _ _ _ _ _ _ _ _ _
 ·exact ixw_1 _ _ _ _ _ _ _ _ _ _ _
 ·exact ixw_2 _ _ _ _ _ _ _ _ _ _ _
 ·exact ixw_3 _ _ _ _ _ _ _ _ _ _ _
 ·exact ixw_4 _ _ _ _ _ _ _ _ _ _ _
theorem lo51 (n : Nat) : bits BinOp.and IntKind.u64 (wlo n : Nat) 2251799813685247 = ((n % 2251799813685248 : Nat) : Int) := by
 rw [and51 _ (by unfold wlo; omega)]; unfold wlo; omega
theorem hi51 (n : Nat) (h : n < 41538374868278621028243970633760768) : bits BinOp.or IntKind.u64 (IntKind.u64.wrap ((whi n : Nat) * 8192 : Int)) ((wlo n : Nat) / 2251799813685248 : Int) = ((n / 2251799813685248 : Nat) : Int) := by
 have h1 : whi n < 2251799813685248 := by unfold whi; omega
 have h2 : wlo n / 2251799813685248 < 2 ^ 13 := by unfold wlo; omega
 rw [wrapU, show ((whi n : Nat) * 8192 : Int) % 18446744073709551616 = ((whi n * 8192 : Nat) : Int) from by omega, show ((wlo n : Nat) : Int) / 2251799813685248 = ((wlo n / 2251799813685248 : Nat) : Int) from by omega, u64_or_nat _ _ (by omega) (by omega)]
 have h3 := Nat.shiftLeft_add_eq_or_of_lt h2 (whi n)
 rw [Nat.shiftLeft_eq] at h3
 rw [show whi n * 8192 = whi n * 2 ^ 13 from rfl, ← h3]
 unfold whi wlo; omega
theorem feplus_one (n a : Nat) (ha : a < 18446744073709551616) (h : n + a < 340282366920938463463374607431768211456) (w : World) :
  Calls Tryz.prog 112 #[.agg #[.int .u64 (whi n : Nat), .int .u64 (wlo n : Nat)], .int .u64 a, .int .u64 1] w fun e w' => e = .returned (.agg #[.int .u64 (whi (n + a) : Nat), .int .u64 (wlo (n + a) : Nat)]) ∧ Below w.heap.size w w' := by
 have := feplus_any n a 1 ha (by omega) (by omega) w
 rw [Nat.mul_one] at this; exact this
theorem feplus_low (n a b : Nat) (hn : n < 18446744073709551616) (ha : a < 18446744073709551616) (hb : b < 18446744073709551616) (h : n + a * b < 340282366920938463463374607431768211456) (w : World) :
  Calls Tryz.prog 112 #[.agg #[.int .u64 0, .int .u64 n], .int .u64 a, .int .u64 b] w fun e w' => e = .returned (.agg #[.int .u64 (whi (n + a * b) : Nat), .int .u64 (wlo (n + a * b) : Nat)]) ∧ Below w.heap.size w w' := by
 have := feplus_any n a b ha hb h w
 rw [show whi n = 0 from Nat.div_eq_of_lt hn, show wlo n = n from Nat.mod_eq_of_lt hn] at this; exact this
/-- The limbs of a product ahead of the last carrying. -/
def mulF (R : Nat → Nat) (i : Nat) : Nat :=
 if i = 0 then (pas R 0 0 + cr R 0 5 * 19) % 2251799813685248 else if i = 1 then pas R 0 1 + (pas R 0 0 + cr R 0 5 * 19) / 2251799813685248 else pas R 0 i
theorem mulF_val (R : Nat → Nat) : val (mulF R) % Pq = val R % Pq := by
 have h := pas_val R 0
 rw [Nat.add_zero] at h
 rw [← h, add_mul_mod19]
 congr 1
 simp only [val, mulF, if_true, if_neg (show ¬ (1 = 0) by omega), if_neg (show ¬ (2 = 0) by omega), if_neg (show ¬ (3 = 0) by omega), if_neg (show ¬ (4 = 0) by omega), if_neg (show ¬ (2 = 1) by omega), if_neg (show ¬ (3 = 1) by omega), if_neg (show ¬ (4 = 1) by omega)]
 omega
theorem crR (R : Nat → Nat) (h : ∀ k, R k ≤ 25 * 96342400000000000000000000000000) : ∀ k, cr R 0 k ≤ 1100000000000000000
 | 0 => by simp [cr]
 | k + 1 => by have h1 := crR R h k; have h2 := h k; rw [cr]; omega
def lowV (R : Nat → Nat) (k i : Nat) : Value := if i < k then .int .u64 (pas R 0 i : Nat) else .int .u64 0
theorem lowV_set (R : Nat → Nat) (k : Nat) : (row 5 (lowV R k)).set k (.int .u64 (pas R 0 k : Nat)) = row 5 (lowV R (k + 1)) :=
 row_set k _ (by unfold lowV; rw [if_pos (by omega)]) (fun i _ h => by unfold lowV; by_cases h1 : i < k; rw [if_pos h1, if_pos (by omega)]; rw [if_neg h1, if_neg (by omega)])
set_option maxRecDepth 100000 in
set_option maxHeartbeats 2000000 in
theorem femul_any {f g : Nat → Nat} {x y : Nat} (hf : FE f x) (hg : FE g y) (w : World) :
  Calls Tryz.prog 63 #[.agg #[.int .u64 (f 0 : Nat), .int .u64 (f 1 : Nat), .int .u64 (f 2 : Nat), .int .u64 (f 3 : Nat), .int .u64 (f 4 : Nat)], .agg #[.int .u64 (g 0 : Nat), .int .u64 (g 1 : Nat), .int .u64 (g 2 : Nat), .int .u64 (g 3 : Nat), .int .u64 (g 4 : Nat)]] w fun e w' => ∃ h, e = .returned (.agg #[.int .u64 (h 0 : Nat), .int .u64 (h 1 : Nat), .int .u64 (h 2 : Nat), .int .u64 (h 3 : Nat), .int .u64 (h 4 : Nat)]) ∧ FE h (x * y % Pq) ∧ Below w.heap.size w w' := by
 go_enter Tryz.func63, Tryz.ntmps63
 go_wp2
 refine wp_gen (fun W => Blk W (w.heap.size + 1) (row 5 (fV g)) 52 ∧ Blk W (w.heap.size + 1 + 1 + 1) (row 10 (colV (col f g 0 0))) 129 ∧ Blk W (w.heap.size + 1 + 1) (row 5 (fV fun _ => 0)) 52 ∧ Below w.heap.size w W) ?_ (fun W hW => ?_)
 ·exact ⟨((Blk.new' (by simp)).alloc _).alloc _, (by rw [show row 10 (colV (col f g 0 0)) = [.int .u64 0, .int .u64 0, .int .u64 0, .int .u64 0, .int .u64 0, .int .u64 0, .int .u64 0, .int .u64 0, .int .u64 0, .int .u64 0] from by simp [row, List.range, List.range.loop, colV, col, colJ, colI, whi, wlo]]; exact Blk.new' (by simp)), (by rw [show row 5 (fV fun _ => 0) = [.int .u64 0, .int .u64 0, .int .u64 0, .int .u64 0, .int .u64 0] from rfl]; exact (Blk.new' (by simp)).alloc _), belowBy⟩
 obtain ⟨hb1, hw1, ho1, hbl1⟩ := hW
 go_loopw [17] (fun i wr => ∃ k : Nat, k ≤ 5 ∧ i = .int .i64 k ∧ Blk wr (w.heap.size + 1) (row 5 (fV g)) 52 ∧ Blk wr (w.heap.size + 1 + 1 + 1) (row 10 (colV (col f g k 0))) 129 ∧ Blk wr (w.heap.size + 1 + 1) (row 5 (fV fun _ => 0)) 52 ∧ Below w.heap.size w wr) (fun i _ => 5 - (intOf i).toNat)
 case atStart => exact ⟨0, by omega, rfl, hb1, hw1, ho1, hbl1⟩
 case round =>
  clear hb1 hw1 ho1 hbl1 W
  obtain ⟨i, hi, rfl, hbB, hwB, hoB, hbl⟩ := hrel
  obtain ⟨wo, hwo⟩ : ∃ wo : World, wo = wr := ⟨_, rfl⟩
  by_cases hlt : i < 5
  ·have hx := ix5 f i hlt
   have hdd : decide ((i : Int) < 5) = true := by simp; omega
   have hbc := hbB.cell
   rw [row5] at hbc
   unfold fV at hbc
   go_wp2
   clear hx hbc
   go_loopw [23] (fun j wr => ∃ k : Nat, k ≤ 5 ∧ j = .int .i64 k ∧ Blk wr (w.heap.size + 1) (row 5 (fV g)) 52 ∧ Blk wr (w.heap.size + 1 + 1 + 1) (row 10 (colV (col f g i k))) 129 ∧ Blk wr (w.heap.size + 1 + 1) (row 5 (fV fun _ => 0)) 52 ∧ Below w.heap.size w wr) (fun j _ => 5 - (intOf j).toNat)
   case atStart => exact ⟨0, by omega, rfl, hbB, hwB, hoB, hbl⟩
   case round =>
    subst hwo
    clear hbB hwB hoB hbl
    obtain ⟨j, hj, rfl, hbB, hwB, hoB, hbl⟩ := hrel
    by_cases hlt' : j < 5
    ·have hy := ix5 g j hlt'
     by_cases h5 : 5 ≤ i + j
     ·have d5 : decide ((5 : Int) ≤ (i : Int) + (j : Int)) = true := by simp; omega
      have hm : i + j - 5 < 5 := by omega
      have c1 : wr.cell? ⟨w.heap.size + 1 + 1 + 1, (i + j - 5) * 2, none⟩ = some (.int .u64 (whi (col f g i j (i + j - 5)) : Nat)) := by rw [hwB.at (by omega), colV_hi]
      have c2 : wr.cell? ⟨w.heap.size + 1 + 1 + 1, (i + j - 5) * 2 + 1, none⟩ = some (.int .u64 (wlo (col f g i j (i + j - 5)) : Nat)) := by rw [hwB.at (by omega), colV_lo]
      have h19 : IntKind.u64.wrap ((f i : Nat) * 19 : Int) = ((f i * 19 : Nat) : Int) := by have := hf.lim.lt i hlt; rw [wrapU]; omega
      have hP := fun W => feplus_any (col f g i j (i + j - 5)) (f i * 19) (g j) (by have := hf.lim.lt i hlt; omega) (by have := hg.lim.lt j hlt'; omega) (by
       have h1 := col_le hf.lim hg.lim i (j + 1) (by omega) (by omega) (i + j - 5)
       rw [col_big f g i j h5 hlt hlt'] at h1
       simp only [if_true] at h1
       omega) W
      have HP := Lib.hid hP
      have HC := Lib.hid (col_big f g i j h5 hlt hlt')
      have HB := Lib.hid hbB; have HW := Lib.hid hwB; have HO := Lib.hid hoB
      clear hP hbB hwB hoB
      generalize hn : col f g i j (i + j - 5) + f i * 19 * g j = n at *
      clear hn
      generalize f i * 19 = a19 at *
      go_wp2_with (go_at_call 112; go_must (refine (HP.out _).mono ?_; rintro e w1 ⟨rfl, hb⟩; have hB1 := HB.out.below' hb; have hW1 := HW.out.below' hb; have hO1 := HO.out.below' hb; have hbl1 := Below.call hbl hb; have e1 := hW1.cell ((i + j - 5) * 2); have e2 := hW1.cell ((i + j - 5) * 2 + 1); rw [row_get (by omega)] at e1 e2; have ef := hW1.frozen; clear hb hbl c1 c2))
      go_roundw
      case rel => exact ⟨j + 1, by omega, by go_num, (hB1.other _ (by simp; omega) _).other _ (by simp; omega) _, by rw [HC.out, ← colV_set]; exact (hW1.set _ _).set _ _, (hO1.other _ (by simp) _).other _ (by simp) _, belowBy⟩
      case measure => simp [intOf]; omega
     ·have d5 : decide ((5 : Int) ≤ (i : Int) + (j : Int)) = false := by simp; omega
      have hm : i + j < 5 := by omega
      have c1 : wr.cell? ⟨w.heap.size + 1 + 1 + 1, (i + j) * 2, none⟩ = some (.int .u64 (whi (col f g i j (i + j)) : Nat)) := by rw [hwB.at (by omega), colV_hi]
      have c2 : wr.cell? ⟨w.heap.size + 1 + 1 + 1, (i + j) * 2 + 1, none⟩ = some (.int .u64 (wlo (col f g i j (i + j)) : Nat)) := by rw [hwB.at (by omega), colV_lo]
      have hP := fun W => feplus_any (col f g i j (i + j)) (f i) (g j) (by have := hf.lim.lt i hlt; omega) (by have := hg.lim.lt j hlt'; omega) (by
       have h1 := col_le hf.lim hg.lim i (j + 1) (by omega) (by omega) (i + j)
       rw [col_low f g i j h5] at h1
       simp only [if_true] at h1
       omega) W
      have HP := Lib.hid hP
      have HC := Lib.hid (col_low f g i j h5)
      have HB := Lib.hid hbB; have HW := Lib.hid hwB; have HO := Lib.hid hoB
      clear hP hbB hwB hoB
      generalize hn : col f g i j (i + j) + f i * g j = n at *
      clear hn
      go_wp2_with (go_at_call 112; go_must (refine (HP.out _).mono ?_; rintro e w1 ⟨rfl, hb⟩; have hB1 := HB.out.below' hb; have hW1 := HW.out.below' hb; have hO1 := HO.out.below' hb; have hbl1 := Below.call hbl hb; have e1 := hW1.cell ((i + j) * 2); have e2 := hW1.cell ((i + j) * 2 + 1); rw [row_get (by omega)] at e1 e2; have ef := hW1.frozen; clear hb hbl c1 c2))
      go_roundw
      case rel => exact ⟨j + 1, by omega, by go_num, (hB1.other _ (by simp; omega) _).other _ (by simp; omega) _, by rw [HC.out, ← colV_set]; exact (hW1.set _ _).set _ _, (hO1.other _ (by simp) _).other _ (by simp) _, belowBy⟩
      case measure => simp [intOf]; omega
    ·obtain rfl : j = 5 := by omega
     clear hlt' hj
     go_wp2
     go_roundw
     case rel => exact ⟨i + 1, by omega, by go_num, hbB, hwB, hoB, hbl⟩
     case measure => simp [intOf]; omega
  ·obtain rfl : i = 5 := by omega
   clear hwo hlt hi hbB
   have hR : ∀ k, col f g 5 0 k ≤ 25 * 96342400000000000000000000000000 := col_le hf.lim hg.lim 4 5 (by omega) (by omega)
   have HV := Lib.hid (col_val f g)
   have HF := Lib.hid hf; have HG := Lib.hid hg
   clear hf hg
   generalize col f g 5 0 = R at *
   rw [row10] at hwB
   rw [row5] at hoB
   unfold fV at hoB
   simp only [colV_0, colV_1, colV_2, colV_3, colV_4, colV_5, colV_6, colV_7, colV_8, colV_9] at hwB
   have hwc := hwB.cell
   have hwlt := hwB.lt
   have HR := Lib.hid hR
   have HO := Lib.hid hoB
   clear hR hwB hoB
   go_wp2
   clear hwc
   obtain ⟨wo, rfl⟩ : ∃ wo : World, wo = wr := ⟨_, rfl⟩
   have hB0 : Below w.heap.size w (wo.alloc (.cells #[.int .u64 0, .int .u64 0, .int .u64 0, .int .u64 0, .int .u64 0] 50)) := belowBy
   have hL0 : Blk (wo.alloc (.cells #[.int .u64 0, .int .u64 0, .int .u64 0, .int .u64 0, .int .u64 0] 50)) wo.heap.size (row 5 (lowV R 0)) 50 := Blk.new wo _ _
   have hO0 := (HO.out).alloc (.cells #[.int .u64 0, .int .u64 0, .int .u64 0, .int .u64 0, .int .u64 0] 50)
   have HO1 := Lib.hid hO0
   have hwl : w.heap.size + 1 + 1 < wo.heap.size := HO.out.lt
   have hwz : w.heap.size ≤ wo.heap.size := by omega
   clear HO hO0 hbl hwlt
   go_loopw [11, 61] (fun c i wx => ∃ k : Nat, k ≤ 5 ∧ i = .int .i64 k ∧ c = .int .u64 (cr R 0 k : Nat) ∧ Blk wx wo.heap.size (row 5 (lowV R k)) 50 ∧ Hid (Blk wx (w.heap.size + 1 + 1) [.int .u64 0, .int .u64 0, .int .u64 0, .int .u64 0, .int .u64 0] 52) ∧ Below w.heap.size w wx) (fun _ i _ => 5 - (intOf i).toNat)
   case atStart => exact ⟨0, by omega, rfl, rfl, hL0, HO1, hB0⟩
   case round =>
    clear hL0 HO1 hB0
    obtain ⟨k, hk, rfl, rfl, hL, HO, hbel⟩ := hrel
    by_cases hlt : k < 5
    ·have hx := ixw R k hlt
     have hcr := crR R HR.out k
     have hRk := HR.out k
     have hP := fun W => feplus_one (R k) (cr R 0 k) (by omega) (by omega) W
     have hlo : bits BinOp.and IntKind.u64 (wlo (R k + cr R 0 k) : Nat) 2251799813685247 = ((pas R 0 k : Nat) : Int) := lo51 _
     have hhi : bits BinOp.or IntKind.u64 (IntKind.u64.wrap ((whi (R k + cr R 0 k) : Nat) * 8192 : Int)) ((wlo (R k + cr R 0 k) : Nat) / 2251799813685248 : Int) = ((cr R 0 (k + 1) : Nat) : Int) := hi51 _ (by omega)
     have HP := Lib.hid hP
     have HL := Lib.hid hL
     have hLs := hL.lt
     have hOs := HO.out.lt
     clear hcr hRk hP hL
     generalize hn : R k + cr R 0 k = n at *
     clear hn
     go_wp2_with (go_at_call 112; go_must (refine (HP.out _).mono ?_; rintro e w1 ⟨rfl, hb⟩; have hV1 := (Blk.new wr #[.int .u64 (whi (R k) : Nat), .int .u64 (wlo (R k) : Nat)] 128).below' hb; have hL1 := (HL.out.alloc _).below' hb; have hO1 := (HO.out.alloc _).below' hb; have hbl1 := Below.call (show Below w.heap.size w _ from belowBy) hb; have vc := hV1.cell; have vf := hV1.frozen; have lc := hL1.at hlt; have lf := hL1.frozen k; rw [show lowV R k k = .int .u64 0 from if_neg (by omega)] at lc; have hne : ¬ wo.heap.size = wr.heap.size := (by omega); have hne2 : ¬ wr.heap.size = wo.heap.size := (by omega); have HL1 := Lib.hid hL1; have HO1 := Lib.hid hO1; clear hb hV1 hL1 hO1 HL HO))
     go_roundw
     case rel => exact ⟨k + 1, by omega, by go_num, rfl, by have := ((HL1.out.other ⟨wr.heap.size, 0, none⟩ (by simp; omega) (.int .u64 (whi n : Nat))).other ⟨wr.heap.size, 1, none⟩ (by simp; omega) (.int .u64 (wlo n : Nat))).set k (.int .u64 (pas R 0 k : Nat)); rw [lowV_set] at this; exact this, ((HO1.out.other _ (by simp; omega) _).other _ (by simp; omega) _).other _ (by simp; omega) _, belowBy⟩
     case measure => simp [intOf]; omega
    ·obtain rfl : k = 5 := by omega
     have hcr := crR R HR.out 5
     have hL5 : row 5 (lowV R 5) = [.int .u64 (pas R 0 0 : Nat), .int .u64 (pas R 0 1 : Nat), .int .u64 (pas R 0 2 : Nat), .int .u64 (pas R 0 3 : Nat), .int .u64 (pas R 0 4 : Nat)] := rfl
     rw [hL5] at hL
     clear hL5
     have hp := pas_lt R 0
     have HP0 := Lib.hid (fun W => feplus_low (pas R 0 0) (cr R 0 5) 19 (by have := hp 0; omega) (by omega) (by omega) (by have := hp 0; omega) W)
     have hlo : bits BinOp.and IntKind.u64 (wlo (pas R 0 0 + cr R 0 5 * 19) : Nat) 2251799813685247 = ((mulF R 0 : Nat) : Int) := lo51 _
     have hhi : IntKind.u64.wrap ((pas R 0 1 : Nat) + bits BinOp.or IntKind.u64 (IntKind.u64.wrap ((whi (pas R 0 0 + cr R 0 5 * 19) : Nat) * 8192 : Int)) ((wlo (pas R 0 0 + cr R 0 5 * 19) : Nat) / 2251799813685248 : Int) : Int) = ((mulF R 1 : Nat) : Int) := by
      rw [hi51 _ (by have := hp 0; omega), wrapU]
      have := hp 0; have := hp 1
      show _ = ((pas R 0 1 + (pas R 0 0 + cr R 0 5 * 19) / 2251799813685248 : Nat) : Int)
      omega
     have hbd : ∀ i, i < 5 → mulF R i ≤ 9223372036854775808 := fun i _ => by
      have := hp 0; have := hp 1; have := hp i
      unfold mulF; split
      ·omega
      ·split <;> omega
     have HQ : Hid (FE (cF (mulF R)) (x * y % Pq)) := Lib.hid ⟨cF_lim _ hbd, by rw [cF_val, mulF_val, HV.out, Nat.mul_mod, HF.out.num, HG.out.num]⟩
     have HBD := Lib.hid hbd
     rw [show pas R 0 2 = mulF R 2 from rfl, show pas R 0 3 = mulF R 3 from rfl, show pas R 0 4 = mulF R 4 from rfl] at hL
     have HL := Lib.hid hL
     clear hcr hp hbd hL hk hlt
     have hLc := HL.out.cell
     have hLf := HL.out.frozen
     have hLl := HL.out.lt
     have hOl := HO.out.lt
     generalize pas R 0 0 + cr R 0 5 * 19 = n at *
     go_wp2_with (first             | (go_at_call 112; go_must (refine (HP0.out _).mono ?_; rintro e w1 ⟨rfl, hb⟩; have hL1 := HL.out.below' hb; have lc := hL1.cell; have lf := hL1.frozen; have hO1 := HO.out.below' hb; have hbl1 := Below.call hbel hb; have HL1 := Lib.hid hL1; have HO1 := Lib.hid hO1; have hlt1 := hL1.lt; have hot1 := hO1.lt; have hne : ¬ wo.heap.size = w1.heap.size := (by omega); have hne2 : ¬ w1.heap.size = wo.heap.size := (by omega); clear hb hL1 hO1 HL HO HP0))             | (go_at_call 113; go_must (refine (carried_any (mulF R) HBD.out _).mono ?_; rintro e w2 ⟨rfl, hb⟩; have hO2 := (((HO1.out.other ⟨wo.heap.size, 0, none⟩ (by simp; omega) (.int .u64 (mulF R 0 : Nat))).other ⟨wo.heap.size, 1, none⟩ (by simp; omega) (.int .u64 (mulF R 1 : Nat))).alloc _).below' hb; have oc := hO2.cell; have of := hO2.frozen; have hbl2 := Below.call (show Below w.heap.size w _ from belowBy) hb; clear hb hO2 lc lf)))
     exact bodyPost_ret (v := .agg #[.int .u64 (cF (mulF R) 0 : Nat), .int .u64 (cF (mulF R) 1 : Nat), .int .u64 (cF (mulF R) 2 : Nat), .int .u64 (cF (mulF R) 3 : Nat), .int .u64 (cF (mulF R) 4 : Nat)]) (by simp [results, Tryz.results63, go_sem, oc]) rfl ⟨_, rfl, HQ.out, belowBy⟩
end Go.Proofs.YtielgpefoameiaaGreat
namespace Go.Proofs.YtielgpefoameiaaGreat
open Go.RowKit
theorem pow_step (x N j : Nat) : (x ^ (N / 2 ^ (j + 1)) % Pq) * (x ^ (N / 2 ^ (j + 1)) % Pq) % Pq = x ^ (2 * (N / 2 ^ (j + 1))) % Pq := by
 rw [← Nat.mul_mod, ← Nat.pow_add]; congr 2; omega
theorem half_step (N j : Nat) : N / 2 ^ j = 2 * (N / 2 ^ (j + 1)) + N / 2 ^ j % 2 := by
 rw [Nat.pow_succ, ← Nat.div_div_eq_div_mul]; omega
/-- The exponent's digit, as the walk tests it. -/
theorem dig_test (N j : Nat) (x : Int) (hx : x = (lw N (j / 64) : Nat)) : (bits BinOp.and IntKind.u64 (x / 2 ^ (j % 64)) 1 == 1) = decide (N / 2 ^ j % 2 = 1) := by
 subst hx
 have hq : lw N (j / 64) / 2 ^ (j % 64) < 18446744073709551616 := Nat.lt_of_le_of_lt (Nat.div_le_self _ _) (lw_lt _ _)
 rw [show ((lw N (j / 64) : Nat) : Int) / 2 ^ (j % 64) = ((lw N (j / 64) / 2 ^ (j % 64) : Nat) : Int) from by simp, show (1 : Int) = ((1 : Nat) : Int) from rfl, u64_and_nat _ 1 hq (by omega), Nat.and_one_is_mod, lw_bit]
 generalize N / 2 ^ j % 2 = b
 by_cases hb : b = 1
 ·subst hb; simp
 ·rw [decide_eq_false hb, beq_eq_false_iff_ne]; omega
theorem pow_odd (x N j : Nat) (h : N / 2 ^ j % 2 = 1) : x ^ (N / 2 ^ j) % Pq = (x ^ (N / 2 ^ (j + 1)) % Pq) * (x ^ (N / 2 ^ (j + 1)) % Pq) % Pq * x % Pq := by
 have e : N / 2 ^ j = 2 * (N / 2 ^ (j + 1)) + 1 := by have := half_step N j; omega
 rw [pow_step, e, Nat.pow_succ]
 generalize x ^ (2 * (N / 2 ^ (j + 1))) = y
 rw [Nat.mul_mod (y % Pq), Nat.mod_mod, ← Nat.mul_mod]
set_option maxRecDepth 100000 in
set_option maxHeartbeats 1000000 in
theorem power_any {f : Nat → Nat} {x : Nat} (N T : Nat) (hT1 : T ≤ 256) (hT2 : 256 ≤ T) (hN : N < 2 ^ T) (hf : FE f x) (w : World) :
  Calls Tryz.prog 111 #[.agg #[.int .u64 (f 0 : Nat), .int .u64 (f 1 : Nat), .int .u64 (f 2 : Nat), .int .u64 (f 3 : Nat), .int .u64 (f 4 : Nat)], .agg #[.int .u64 (lw N 0 : Nat), .int .u64 (lw N 1 : Nat), .int .u64 (lw N 2 : Nat), .int .u64 (lw N 3 : Nat)]] w fun e w' => ∃ h, e = .returned (.agg #[.int .u64 (h 0 : Nat), .int .u64 (h 1 : Nat), .int .u64 (h 2 : Nat), .int .u64 (h 3 : Nat), .int .u64 (h 4 : Nat)]) ∧ FE h (x ^ N % Pq) ∧ Below w.heap.size w w' := by
 have HN := Lib.hid hN; have HF := Lib.hid hf
 clear hN hf
 go_enter Tryz.func111, Tryz.ntmps111
 go_upto_region 2 with (go_at_call 89; go_must (refine (fesmall_any (n := 1) (by omega) _).mono ?_; rintro e w1 ⟨rfl, hb⟩))
 refine wp_gen (fun W => Blk W w.heap.size [.int .u64 (f 0 : Nat),.int .u64 (f 1 : Nat),.int .u64 (f 2 : Nat),.int .u64 (f 3 : Nat),.int .u64 (f 4 : Nat)] 52 ∧ Blk W (w.heap.size + 1) (row 4 (wV N)) 46 ∧ Blk W (w.heap.size + 1 + 1) [.int .u64 0, .int .u64 0, .int .u64 0, .int .u64 0, .int .u64 0] 52 ∧ (∃ h, FE h (x ^ (N / 2 ^ T) % Pq) ∧ Blk W w1.heap.size [.int .u64 (h 0 : Nat),.int .u64 (h 1 : Nat),.int .u64 (h 2 : Nat),.int .u64 (h 3 : Nat),.int .u64 (h 4 : Nat)] 52) ∧ Below w.heap.size w W) ?_ (fun W hW => ?_)
 ·refine ⟨(((Blk.new w _ _).alloc _).alloc _ |>.below' hb).alloc _, (((Blk.new' (by simp)).alloc _).below' hb).alloc _, ((Blk.new' (by simp)).below' hb).alloc _, ⟨smallF 1, ?_, Blk.new w1 _ _⟩, Below.alloc' (Below.call belowBy hb) _⟩
  rw [Nat.div_eq_of_lt HN.out, Nat.pow_zero]
  exact FE.small (by omega)
 have hs1 : w.heap.size + 1 + 1 < w1.heap.size := by have := hb.size; simp at this; omega
 obtain ⟨hA, hK, hO, hH, hbel⟩ := hW
 clear hb
 generalize w1.heap.size = g at *
 clear w1
 go_wp2
 go_loopw [6] (fun i wr => ∃ k : Nat, k ≤ 256 ∧ i = .int .i64 ((k : Int) - 1) ∧ Blk wr w.heap.size [.int .u64 (f 0 : Nat),.int .u64 (f 1 : Nat),.int .u64 (f 2 : Nat),.int .u64 (f 3 : Nat),.int .u64 (f 4 : Nat)] 52 ∧ Blk wr (w.heap.size + 1) (row 4 (wV N)) 46 ∧ Blk wr (w.heap.size + 1 + 1) [.int .u64 0, .int .u64 0, .int .u64 0, .int .u64 0, .int .u64 0] 52 ∧ (∃ h, FE h (x ^ (N / 2 ^ k) % Pq) ∧ Blk wr g [.int .u64 (h 0 : Nat),.int .u64 (h 1 : Nat),.int .u64 (h 2 : Nat),.int .u64 (h 3 : Nat),.int .u64 (h 4 : Nat)] 52) ∧ Below w.heap.size w wr) (fun i _ => (intOf i + 1).toNat)
 case atStart => exact ⟨T, by omega, by congr 1; omega, hA, hK, hO, hH, hbel⟩
 case round =>
  clear hA hK hO hH hbel W
  obtain ⟨k, hk, rfl, hA, hK, hO, ⟨h, hh, hH⟩, hbel⟩ := hrel
  by_cases hk0 : k = 0
  ·subst hk0
   rw [Nat.pow_zero, Nat.div_one] at hh
   have hHc := hH.cell; have hOc := hO.cell; have hOf := hO.frozen
   rw [show (((0 : Nat) : Int) - 1) = -1 from rfl]
   clear hA hK hO hH hk
   go_wp2
   exact bodyPost_ret (v := .agg #[.int .u64 (h 0 : Nat), .int .u64 (h 1 : Nat), .int .u64 (h 2 : Nat), .int .u64 (h 3 : Nat), .int .u64 (h 4 : Nat)]) (by simp [results, Tryz.results111, go_sem, hOc]) rfl ⟨_, rfl, hh, belowBy⟩
  ·obtain ⟨j, rfl⟩ : ∃ j, k = j + 1 := ⟨k - 1, by omega⟩
   rw [show (((j + 1 : Nat) : Int) - 1) = (j : Int) from by omega]
   have hj4 : j / 64 < 4 := by omega
   obtain ⟨xi, hxi⟩ : ∃ xi : Int, xi = (lw N (j / 64) : Nat) := ⟨_, rfl⟩
   have HD := Lib.hid (dig_test N j xi hxi)
   have hx0 : 0 ≤ xi := by omega
   have hx1 : xi < 18446744073709551616 := by have := lw_lt N (j / 64); omega
   have HK := Lib.hid (show ∀ W, Blk W (w.heap.size + 1) (row 4 (wV N)) 46 → W.cell? ⟨w.heap.size + 1, j / 64, none⟩ = some (.int .u64 xi) from fun W h => by rw [h.at hj4, hxi]; rfl)
   have hHc := hH.cell
   have HA0 := Lib.hid hA; have HK0 := Lib.hid hK; have HO0 := Lib.hid hO; have HH0 := Lib.hid hH
   clear hxi hA hK hO hH hk0
   by_cases hb : N / 2 ^ j % 2 = 1
   ·have hd : (bits BinOp.and IntKind.u64 (xi / 2 ^ (j % 64)) 1 == 1) = true := by rw [HD.out, decide_eq_true hb]
    have HB := Lib.hid hb
    clear hb
    go_wp2_with (go_at_call 63; first | ((with_reducible refine (femul_any hh hh _).mono ?_); rintro e w1 ⟨h1, rfl, hh1, hb1⟩; have hH1 := HH0.out.below' hb1; have hHf := hH1.frozen; have hHc1 := hH1.cell; have kc := HK.out _ (HK0.out.below' hb1); have ac := (HA0.out.below' hb1).cell; have hg1 : ¬ g = w.heap.size + 1 := (by omega); have hg2 : ¬ g = w.heap.size := (by omega); have hg3 : ¬ w.heap.size + 1 = g := (by omega); have hg4 : ¬ w.heap.size = g := (by omega); have HA1 := Lib.hid (HA0.out.below' hb1); have HK1 := Lib.hid (HK0.out.below' hb1); have HO1 := Lib.hid (HO0.out.below' hb1); have HH1 := Lib.hid hH1; have hbel1 := Below.call hbel hb1; clear hb1 hH1 hHc HA0 HK0 HO0 HH0 hbel) | ((with_reducible refine (femul_any hh1 HF.out _).mono ?_); rintro e w2 ⟨h2, rfl, hh2, hb2⟩; have hH2 := (((((HH1.out.set 0 (.int .u64 (h1 0 : Nat))).set 1 (.int .u64 (h1 1 : Nat))).set 2 (.int .u64 (h1 2 : Nat))).set 3 (.int .u64 (h1 3 : Nat))).set 4 (.int .u64 (h1 4 : Nat))).below' hb2; have hHf2 := hH2.frozen; have hHc2 := hH2.cell; have HH2 := Lib.hid hH2; have HA2 := Lib.hid ((((((HA1.out.other ⟨g, 0, none⟩ (by simp; omega) (.int .u64 (h1 0 : Nat))).other ⟨g, 1, none⟩ (by simp; omega) (.int .u64 (h1 1 : Nat))).other ⟨g, 2, none⟩ (by simp; omega) (.int .u64 (h1 2 : Nat))).other ⟨g, 3, none⟩ (by simp; omega) (.int .u64 (h1 3 : Nat))).other ⟨g, 4, none⟩ (by simp; omega) (.int .u64 (h1 4 : Nat))).below' hb2); have HK2 := Lib.hid ((((((HK1.out.other ⟨g, 0, none⟩ (by simp; omega) (.int .u64 (h1 0 : Nat))).other ⟨g, 1, none⟩ (by simp; omega) (.int .u64 (h1 1 : Nat))).other ⟨g, 2, none⟩ (by simp; omega) (.int .u64 (h1 2 : Nat))).other ⟨g, 3, none⟩ (by simp; omega) (.int .u64 (h1 3 : Nat))).other ⟨g, 4, none⟩ (by simp; omega) (.int .u64 (h1 4 : Nat))).below' hb2); have HO2 := Lib.hid ((((((HO1.out.other ⟨g, 0, none⟩ (by simp; omega) (.int .u64 (h1 0 : Nat))).other ⟨g, 1, none⟩ (by simp; omega) (.int .u64 (h1 1 : Nat))).other ⟨g, 2, none⟩ (by simp; omega) (.int .u64 (h1 2 : Nat))).other ⟨g, 3, none⟩ (by simp; omega) (.int .u64 (h1 3 : Nat))).other ⟨g, 4, none⟩ (by simp; omega) (.int .u64 (h1 4 : Nat))).below' hb2); have hbel2 := Below.call (show Below w.heap.size w _ from belowBy) hb2; clear hb2 hH2 hHc1 hHf kc ac HA1 HK1 HO1 HH1 hbel1))
    go_roundw
    case rel => exact ⟨j, by omega, rfl, (((((HA2.out.other ⟨g, 0, none⟩ (by simp; omega) (.int .u64 (h2 0 : Nat))).other ⟨g, 1, none⟩ (by simp; omega) (.int .u64 (h2 1 : Nat))).other ⟨g, 2, none⟩ (by simp; omega) (.int .u64 (h2 2 : Nat))).other ⟨g, 3, none⟩ (by simp; omega) (.int .u64 (h2 3 : Nat))).other ⟨g, 4, none⟩ (by simp; omega) (.int .u64 (h2 4 : Nat))), (((((HK2.out.other ⟨g, 0, none⟩ (by simp; omega) (.int .u64 (h2 0 : Nat))).other ⟨g, 1, none⟩ (by simp; omega) (.int .u64 (h2 1 : Nat))).other ⟨g, 2, none⟩ (by simp; omega) (.int .u64 (h2 2 : Nat))).other ⟨g, 3, none⟩ (by simp; omega) (.int .u64 (h2 3 : Nat))).other ⟨g, 4, none⟩ (by simp; omega) (.int .u64 (h2 4 : Nat))), (((((HO2.out.other ⟨g, 0, none⟩ (by simp; omega) (.int .u64 (h2 0 : Nat))).other ⟨g, 1, none⟩ (by simp; omega) (.int .u64 (h2 1 : Nat))).other ⟨g, 2, none⟩ (by simp; omega) (.int .u64 (h2 2 : Nat))).other ⟨g, 3, none⟩ (by simp; omega) (.int .u64 (h2 3 : Nat))).other ⟨g, 4, none⟩ (by simp; omega) (.int .u64 (h2 4 : Nat))), ⟨h2, by rw [pow_odd x N j HB.out]; exact hh2, (((((HH2.out.set 0 (.int .u64 (h2 0 : Nat))).set 1 (.int .u64 (h2 1 : Nat))).set 2 (.int .u64 (h2 2 : Nat))).set 3 (.int .u64 (h2 3 : Nat))).set 4 (.int .u64 (h2 4 : Nat)))⟩, belowBy⟩
    case measure => simp [intOf] <;> omega
   ·have hd : (bits BinOp.and IntKind.u64 (xi / 2 ^ (j % 64)) 1 == 1) = false := by rw [HD.out, decide_eq_false hb]
    have HB : Hid (N / 2 ^ j % 2 = 0) := Lib.hid (by omega)
    clear hb
    go_wp2_with (go_at_call 63; first | ((with_reducible refine (femul_any hh hh _).mono ?_); rintro e w1 ⟨h1, rfl, hh1, hb1⟩; have hH1 := HH0.out.below' hb1; have hHf := hH1.frozen; have hHc1 := hH1.cell; have kc := HK.out _ (HK0.out.below' hb1); have ac := (HA0.out.below' hb1).cell; have hg1 : ¬ g = w.heap.size + 1 := (by omega); have hg2 : ¬ g = w.heap.size := (by omega); have hg3 : ¬ w.heap.size + 1 = g := (by omega); have hg4 : ¬ w.heap.size = g := (by omega); have HA1 := Lib.hid (HA0.out.below' hb1); have HK1 := Lib.hid (HK0.out.below' hb1); have HO1 := Lib.hid (HO0.out.below' hb1); have HH1 := Lib.hid hH1; have hbel1 := Below.call hbel hb1; clear hb1 hH1 hHc HA0 HK0 HO0 HH0 hbel))
    go_roundw
    case rel => exact ⟨j, by omega, rfl, (((((HA1.out.other ⟨g, 0, none⟩ (by simp; omega) (.int .u64 (h1 0 : Nat))).other ⟨g, 1, none⟩ (by simp; omega) (.int .u64 (h1 1 : Nat))).other ⟨g, 2, none⟩ (by simp; omega) (.int .u64 (h1 2 : Nat))).other ⟨g, 3, none⟩ (by simp; omega) (.int .u64 (h1 3 : Nat))).other ⟨g, 4, none⟩ (by simp; omega) (.int .u64 (h1 4 : Nat))), (((((HK1.out.other ⟨g, 0, none⟩ (by simp; omega) (.int .u64 (h1 0 : Nat))).other ⟨g, 1, none⟩ (by simp; omega) (.int .u64 (h1 1 : Nat))).other ⟨g, 2, none⟩ (by simp; omega) (.int .u64 (h1 2 : Nat))).other ⟨g, 3, none⟩ (by simp; omega) (.int .u64 (h1 3 : Nat))).other ⟨g, 4, none⟩ (by simp; omega) (.int .u64 (h1 4 : Nat))), (((((HO1.out.other ⟨g, 0, none⟩ (by simp; omega) (.int .u64 (h1 0 : Nat))).other ⟨g, 1, none⟩ (by simp; omega) (.int .u64 (h1 1 : Nat))).other ⟨g, 2, none⟩ (by simp; omega) (.int .u64 (h1 2 : Nat))).other ⟨g, 3, none⟩ (by simp; omega) (.int .u64 (h1 3 : Nat))).other ⟨g, 4, none⟩ (by simp; omega) (.int .u64 (h1 4 : Nat))), ⟨h1, by rw [half_step, HB.out, Nat.add_zero, ← pow_step]; exact hh1, (((((HH1.out.set 0 (.int .u64 (h1 0 : Nat))).set 1 (.int .u64 (h1 1 : Nat))).set 2 (.int .u64 (h1 2 : Nat))).set 3 (.int .u64 (h1 3 : Nat))).set 4 (.int .u64 (h1 4 : Nat)))⟩, belowBy⟩
    case measure => simp [intOf] <;> omega
set_option maxRecDepth 100000 in
set_option maxHeartbeats 1000000 in
theorem feinv_any {f : Nat → Nat} {x : Nat} (hf : FE f x) (w : World) :
  Calls Tryz.prog 62 #[.agg #[.int .u64 (f 0 : Nat), .int .u64 (f 1 : Nat), .int .u64 (f 2 : Nat), .int .u64 (f 3 : Nat), .int .u64 (f 4 : Nat)]] w fun e w' => ∃ h, e = .returned (.agg #[.int .u64 (h 0 : Nat), .int .u64 (h 1 : Nat), .int .u64 (h 2 : Nat), .int .u64 (h 3 : Nat), .int .u64 (h 4 : Nat)]) ∧ FE h (x ^ expInv % Pq) ∧ Below w.heap.size w w' := by
 have hP := fun W => power_any expInv (8 * 32) (by omega) (by omega) (by decide +kernel) hf W
 rw [show lw expInv 0 = 18446744073709551595 from by decide +kernel, show lw expInv 1 = 18446744073709551615 from by decide +kernel, show lw expInv 2 = 18446744073709551615 from by decide +kernel, show lw expInv 3 = 9223372036854775807 from by decide +kernel] at hP
 have HP := Lib.hid hP
 clear hP
 go_enter Tryz.func62, Tryz.ntmps62
 go_wp2_with (go_at_call 111; go_must (refine (HP.out _).mono ?_; rintro e w1 ⟨h, rfl, hr, hb⟩; have hO := (show Blk _ (w.heap.size + 1) [.int .u64 0, .int .u64 0, .int .u64 0, .int .u64 0, .int .u64 0] 52 from (by repeat (first | (with_reducible refine Blk.drew ?_) | exact Blk.new' (by simp) | (with_reducible refine Blk.alloc ?_ _)))).below' hb; have hOc := hO.cell; have hOf := hO.frozen; have hbel : Below w.heap.size w w1 := Below.call belowBy hb; clear hb hO))
 exact bodyPost_ret (v := .agg #[.int .u64 (h 0 : Nat), .int .u64 (h 1 : Nat), .int .u64 (h 2 : Nat), .int .u64 (h 3 : Nat), .int .u64 (h 4 : Nat)]) (by simp [results, Tryz.results62, go_sem, hOc]) rfl ⟨_, rfl, hr, belowBy⟩
end Go.Proofs.YtielgpefoameiaaGreat
namespace Go.Proofs.YtielgpefoameiaaGreat
open Go.RowKit
/-- A digit of 51 binary digits. -/
def dg (n i : Nat) : Nat := n / 2 ^ (51 * i) % 2251799813685248
theorem dg_lt (n i : Nat) : dg n i < 2251799813685248 := Nat.mod_lt _ (by omega)
theorem dg_of (f : Nat → Nat) (h : ∀ i, f i < 2251799813685248) (i : Nat) (hi : i < 5) : dg (val f) i = f i := by
 have h0 := h 0; have h1 := h 1; have h2 := h 2; have h3 := h 3; have h4 := h 4
 have hh : i = 0 ∨ i = 1 ∨ i = 2 ∨ i = 3 ∨ i = 4 := by omega
 unfold dg val
 rcases hh with rfl | rfl | rfl | rfl | rfl <;> simp only [Nat.reduceMul, Nat.reducePow] <;> omega
theorem pas_small (f : Nat → Nat) (c0 : Nat) : val (pas f c0) < 57896044618658097711785492504343953926634992332820282019728792003956564819968 := by
 have h0 := pas_lt f c0 0; have h1 := pas_lt f c0 1; have h2 := pas_lt f c0 2; have h3 := pas_lt f c0 3; have h4 := pas_lt f c0 4
 unfold val; omega
theorem cr_five (f : Nat → Nat) (c0 : Nat) : cr f c0 5 = (val f + c0) / 57896044618658097711785492504343953926634992332820282019728792003956564819968 ∧ val (pas f c0) = (val f + c0) % 57896044618658097711785492504343953926634992332820282019728792003956564819968 := by
 have h1 := pas_val f c0
 have h2 := pas_small f c0
 omega
theorem Lim.val {f : Nat → Nat} (h : Lim f) : val f < 57896044618658097711785492504343953926634992332820282019728792003956564819968 + 20 := by
 have := h.l0; have := h.l1; have := h.l2; have := h.l3; have := h.l4
 unfold Go.Proofs.YtielgpefoameiaaGreat.val; omega
theorem whole_num {f : Nat → Nat} {x : Nat} (h : FE f x) : val (pas f (cr f 19 5 * 19)) = x := by
 have h1 := h.lim.val
 rw [(cr_five f _).2, (cr_five f 19).1, ← h.num]
 unfold Pq
 generalize val f = v at *
 by_cases hv : v < 57896044618658097711785492504343953926634992332820282019728792003956564819949
 ·rw [Nat.div_eq_of_lt (show v + 19 < 57896044618658097711785492504343953926634992332820282019728792003956564819968 by omega), Nat.mod_eq_of_lt hv, Nat.mod_eq_of_lt (by omega)]
  omega
 ·rw [show (v + 19) / 57896044618658097711785492504343953926634992332820282019728792003956564819968 = 1 by omega]
  omega
theorem whole_dg {f : Nat → Nat} {x : Nat} (h : FE f x) (i : Nat) (hi : i < 5) : pas f (cr f 19 5 * 19) i = dg x i := by
 rw [← whole_num h]; exact (dg_of _ (pas_lt _ _) i hi).symm
theorem FE.carry {f : Nat → Nat} {x : Nat} (h : FE f x) : FE (cF f) x := ⟨cF_lim f (fun i hi => by have := h.lim.lt i hi; omega), by rw [cF_val, h.num]⟩
theorem FE.sum_lt {f : Nat → Nat} {x : Nat} (h : FE f x) (c0 k : Nat) (hc : c0 ≤ 19) (hk : k < 5) : f k + cr f c0 k < 18446744073709551616 := by
 have h1 := h.lim.lt k hk
 have h2 := cr_lt f c0 (fun i hi => by have := h.lim.lt i hi; omega) (by omega) k (by omega)
 omega
set_option maxRecDepth 100000 in
set_option maxHeartbeats 1000000 in
theorem whole_any {f : Nat → Nat} {x : Nat} (hf : FE f x) (w : World) :
  Calls Tryz.prog 114 #[.agg #[.int .u64 (f 0 : Nat), .int .u64 (f 1 : Nat), .int .u64 (f 2 : Nat), .int .u64 (f 3 : Nat), .int .u64 (f 4 : Nat)]] w fun e w' => e = .returned (.agg #[.int .u64 (dg x 0 : Nat), .int .u64 (dg x 1 : Nat), .int .u64 (dg x 2 : Nat), .int .u64 (dg x 3 : Nat), .int .u64 (dg x 4 : Nat)]) ∧ Below w.heap.size w w' := by
 have hb1 : ∀ i, i < 5 → f i ≤ 9223372036854775808 := fun i hi => by have := hf.lim.lt i hi; omega
 have hb2 : ∀ i, i < 5 → cF f i ≤ 9223372036854775808 := fun i hi => by have := hf.carry.lim.lt i hi; omega
 have HB1 := Lib.hid hb1; have HB2 := Lib.hid hb2
 have HE := Lib.hid hf.carry.carry
 clear hb1 hb2 hf
 have fld : ∀ (x0 x1 x2 x3 x4 : Value) (w : World), (Instr.field 52 (.agg #[x0, x1, x2, x3, x4]) 0).run Tryz.prog w = .ok (.agg #[x0, x1, x2, x3, x4]) w := fun _ _ _ _ _ _ => by kernel_rfl
 go_enter Tryz.func114, Tryz.ntmps114
 go_upto_region 3 with (go_at_call 113; first | ((with_reducible refine (carried_any f HB1.out _).mono ?_); rintro e w1 ⟨rfl, hb1⟩; have hO1 := (show Blk _ (w.heap.size + 1) [.int .u64 0, .int .u64 0, .int .u64 0, .int .u64 0, .int .u64 0] 50 from (by repeat (first | (with_reducible refine Blk.drew ?_) | exact Blk.new' (by simp) | (with_reducible refine Blk.alloc ?_ _)))).below' hb1; have hbel1 : Below w.heap.size w w1 := Below.call belowBy hb1; clear hb1) | ((with_reducible refine (carried_any (cF f) HB2.out _).mono ?_); rintro e w2 ⟨rfl, hb2⟩; have hL2 := (Blk.new w1 #[.int .u64 (cF f 0 : Nat),.int .u64 (cF f 1 : Nat),.int .u64 (cF f 2 : Nat),.int .u64 (cF f 3 : Nat),.int .u64 (cF f 4 : Nat)] 50).below' hb2; have hO2 := (hO1.alloc _).below' hb2; have hbel2 : Below w.heap.size w w2 := Below.call (show Below w.heap.size w _ from belowBy) hb2; have lc := hL2.cell; have lf := hL2.frozen; have hg : w.heap.size + 1 < w1.heap.size := hO1.lt; clear hb2 hbel1 hO1))
 refine wp_gen (fun W => Blk W w1.heap.size (row 5 (fV (cF (cF f)))) 50 ∧ Blk W (w.heap.size + 1) [.int .u64 0, .int .u64 0, .int .u64 0, .int .u64 0, .int .u64 0] 50 ∧ Below w.heap.size w W) ?_ (fun W hW => ?_)
 ·exact ⟨(((((hL2.set 0 (.int .u64 (cF (cF f) 0 : Nat))).set 1 (.int .u64 (cF (cF f) 1 : Nat))).set 2 (.int .u64 (cF (cF f) 2 : Nat))).set 3 (.int .u64 (cF (cF f) 3 : Nat))).set 4 (.int .u64 (cF (cF f) 4 : Nat))), (((((hO2.other _ (by simp; omega) _).other _ (by simp; omega) _).other _ (by simp; omega) _).other _ (by simp; omega) _).other _ (by simp; omega) _), belowBy⟩
 obtain ⟨hA, hO, hbel⟩ := hW
 clear hbel2 lc lf hL2 hO2
 generalize w1.heap.size = g at *
 clear w1 w2
 generalize cF (cF f) = G at *
 have HS := Lib.hid (fun k hk => HE.out.sum_lt 19 k (by omega) hk)
 go_wp2
 go_loopw [4, 14] (fun c i wr => ∃ k : Nat, k ≤ 5 ∧ i = .int .i64 k ∧ c = .int .u64 (cr G 19 k : Nat) ∧ Blk wr g (row 5 (fV G)) 50 ∧ Blk wr (w.heap.size + 1) [.int .u64 0, .int .u64 0, .int .u64 0, .int .u64 0, .int .u64 0] 50 ∧ Below w.heap.size w wr) (fun _ i _ => 5 - (intOf i).toNat)
 case atStart => exact ⟨0, by omega, rfl, rfl, hA, hO, hbel⟩
 case round =>
  clear hA hO hbel W
  obtain ⟨k, hk, rfl, rfl, hA, hO, hbel⟩ := hrel
  by_cases hlt : k < 5
  ·obtain ⟨s, hs, hs0, hs1, ha, hd⟩ := pass_step G 19 k (HS.out k hlt)
   have hcell : wr.cell? ⟨g, k, none⟩ = some (.int .u64 (G k : Nat)) := hA.at hlt
   have HD := Lib.hid hd
   have HA := Lib.hid hA; have HO := Lib.hid hO
   clear hA hO hd ha
   go_wp2
   go_roundw
   case rel => exact ⟨k + 1, by omega, by go_num, by rw [HD.out], HA.out, HO.out, hbel⟩
   case measure => simp [intOf]; omega
  ·obtain rfl : k = 5 := by omega
   have h5 : cr G 19 5 ≤ 1 := by
    have := HE.out.lim.val
    rw [(cr_five G 19).1]; omega
   have hm : IntKind.u64.wrap (((cr G 19 5 : Nat) : Int) * 19) = ((cr G 19 5 * 19 : Nat) : Int) := by rw [wrapU]; omega
   have HW := Lib.hid (fun i hi => whole_dg HE.out i hi)
   have h19 : cr G 19 5 * 19 ≤ 19 := by omega
   have HS2 := Lib.hid (fun k hk => HE.out.sum_lt (cr G 19 5 * 19) k h19 hk)
   clear h5 h19 hlt hk HS
   generalize cr G 19 5 * 19 = c1 at *
   go_wp2
   clear hm
   go_loopw [4, 26] (fun c i wr => ∃ k : Nat, k ≤ 5 ∧ i = .int .i64 k ∧ c = .int .u64 (cr G c1 k : Nat) ∧ Blk wr g (row 5 (pasV G c1 k)) 50 ∧ Blk wr (w.heap.size + 1) [.int .u64 0, .int .u64 0, .int .u64 0, .int .u64 0, .int .u64 0] 50 ∧ Below w.heap.size w wr) (fun _ i _ => 5 - (intOf i).toNat)
   case atStart => exact ⟨0, by omega, rfl, rfl, by rw [pasV_zero]; exact hA, hO, hbel⟩
   clear hA hO hbel
   case round =>
    obtain ⟨k, hk, rfl, rfl, hA, hO, hbel⟩ := hrel
    by_cases hlt : k < 5
    ·obtain ⟨s, hs, hs0, hs1, ha, hd⟩ := pass_step G c1 k (HS2.out k hlt)
     have hcell := hA.at hlt
     rw [pasV_at] at hcell
     have hfr := hA.frozen k
     have HD := Lib.hid hd
     have HA := Lib.hid ((hA.set k (.int .u64 s)).set k (.int .u64 (pas G c1 k : Nat)))
     have HO := Lib.hid ((hO.other ⟨g, k, none⟩ (by simp; omega) (.int .u64 s)).other ⟨g, k, none⟩ (by simp; omega) (.int .u64 (pas G c1 k : Nat)))
     clear hA hO hd
     go_wp2
     go_roundw
     case rel => exact ⟨k + 1, by omega, by go_num, by rw [HD.out], by have := HA.out; rw [List.set_set, pasV_set] at this; exact this, HO.out, belowBy⟩
     case measure => simp [intOf]; omega
    ·obtain rfl : k = 5 := by omega
     rw [pasV_five, row5] at hA
     unfold fV at hA
     rw [HW.out 0 (by omega), HW.out 1 (by omega), HW.out 2 (by omega), HW.out 3 (by omega), HW.out 4 (by omega)] at hA
     have hAc := hA.cell; have hOc := hO.cell; have hOf := hO.frozen
     clear hA hO
     go_wp2
     exact bodyPost_ret (v := .agg #[.int .u64 (dg x 0 : Nat), .int .u64 (dg x 1 : Nat), .int .u64 (dg x 2 : Nat), .int .u64 (dg x 3 : Nat), .int .u64 (dg x 4 : Nat)]) (by simp [results, Tryz.results114, go_sem, hOc]) rfl ⟨rfl, belowBy⟩
end Go.Proofs.YtielgpefoameiaaGreat
namespace Go.Proofs.YtielgpefoameiaaGreat
open Go.RowKit
theorem keep5 (g : Nat) (f : Nat → Nat) {w w' : World} (h : w.cell? ⟨g, 0, none⟩ = some (.int .u64 (f 0 : Nat)) ∧ w.cell? ⟨g, 1, none⟩ = some (.int .u64 (f 1 : Nat)) ∧ w.cell? ⟨g, 2, none⟩ = some (.int .u64 (f 2 : Nat)) ∧ w.cell? ⟨g, 3, none⟩ = some (.int .u64 (f 3 : Nat)) ∧ w.cell? ⟨g, 4, none⟩ = some (.int .u64 (f 4 : Nat))) (hb : Below w.heap.size w w') : w'.cell? ⟨g, 0, none⟩ = some (.int .u64 (f 0 : Nat)) ∧ w'.cell? ⟨g, 1, none⟩ = some (.int .u64 (f 1 : Nat)) ∧ w'.cell? ⟨g, 2, none⟩ = some (.int .u64 (f 2 : Nat)) ∧ w'.cell? ⟨g, 3, none⟩ = some (.int .u64 (f 3 : Nat)) ∧ w'.cell? ⟨g, 4, none⟩ = some (.int .u64 (f 4 : Nat)) := by
 obtain ⟨h0, h1, h2, h3, h4⟩ := h
 exact ⟨by rw [hb.cell (cell_lt h0)]; exact h0, by rw [hb.cell (cell_lt h1)]; exact h1, by rw [hb.cell (cell_lt h2)]; exact h2, by rw [hb.cell (cell_lt h3)]; exact h3, by rw [hb.cell (cell_lt h4)]; exact h4⟩
theorem dg_zero (x : Nat) : dg x 0 % 2 = x % 2 := by simp only [dg, Nat.mul_zero, Nat.pow_zero, Nat.div_one]; omega
theorem odd_num (x : Nat) : (bits BinOp.and IntKind.u64 (dg x 0 : Nat) 1 == 1) = decide (x % 2 = 1) := by
 have h := dg_lt x 0
 rw [show (1 : Int) = ((1 : Nat) : Int) from rfl, u64_and_nat _ 1 (by omega) (by omega), Nat.and_one_is_mod, dg_zero]
 generalize hb : x % 2 = b
 by_cases h1 : b = 1
 ·subst h1; simp
 ·rw [decide_eq_false h1, beq_eq_false_iff_ne]; omega
set_option maxRecDepth 100000 in
set_option maxHeartbeats 1000000 in
theorem feodd_any {f : Nat → Nat} {x : Nat} (hf : FE f x) (w : World) :
  Calls Tryz.prog 65 #[.agg #[.int .u64 (f 0 : Nat), .int .u64 (f 1 : Nat), .int .u64 (f 2 : Nat), .int .u64 (f 3 : Nat), .int .u64 (f 4 : Nat)]] w fun e w' => e = .returned (.bool (decide (x % 2 = 1))) ∧ Below w.heap.size w w' := by
 have HO := Lib.hid (odd_num x)
 have hi := ix5_0
 go_enter Tryz.func65, Tryz.ntmps65
 go_wp2_with (go_at_call 114; go_must (refine (whole_any hf _).mono ?_; rintro e w1 ⟨rfl, hb⟩; have hbel : Below w.heap.size w w1 := Below.call belowBy hb; clear hb))
 go_ret
 exact ⟨ret_bool HO.out, belowBy⟩
theorem dg_ext {x y : Nat} (hx : x < Pq) (hy : y < Pq) (h : ∀ i, i < 5 → dg x i = dg y i) : x = y := by
 have key : ∀ n, n < Pq → val (dg n) = n := by
  intro n hn
  unfold Pq at hn
  simp only [val, dg, Nat.reduceMul, Nat.reducePow]
  omega
 rw [← key x hx, ← key y hy]
 simp only [val, h 0 (by omega), h 1 (by omega), h 2 (by omega), h 3 (by omega), h 4 (by omega)]
set_option maxRecDepth 100000 in
set_option maxHeartbeats 1000000 in
theorem fesame_any {f g : Nat → Nat} {x y : Nat} (hf : FE f x) (hg : FE g y) (w : World) :
  Calls Tryz.prog 94 #[.agg #[.int .u64 (f 0 : Nat), .int .u64 (f 1 : Nat), .int .u64 (f 2 : Nat), .int .u64 (f 3 : Nat), .int .u64 (f 4 : Nat)], .agg #[.int .u64 (g 0 : Nat), .int .u64 (g 1 : Nat), .int .u64 (g 2 : Nat), .int .u64 (g 3 : Nat), .int .u64 (g 4 : Nat)]] w fun e w' => e = .returned (.bool (decide (x = y))) ∧ Below w.heap.size w w' := by
 have HE : Hid (([((dg x 0 : Nat) : Int), (dg x 1 : Nat), (dg x 2 : Nat), (dg x 3 : Nat), (dg x 4 : Nat)] == [((dg y 0 : Nat) : Int), (dg y 1 : Nat), (dg y 2 : Nat), (dg y 3 : Nat), (dg y 4 : Nat)]) = decide (x = y)) := by
  refine Lib.hid ?_
  by_cases h : x = y
  ·subst h; simp
  ·rw [decide_eq_false h, beq_eq_false_iff_ne]
   intro h'
   simp only [List.cons.injEq, Int.natCast_inj, and_true] at h'
   refine h (dg_ext hf.lt hg.lt fun i hi => ?_)
   have hh : i = 0 ∨ i = 1 ∨ i = 2 ∨ i = 3 ∨ i = 4 := by omega
   rcases hh with rfl | rfl | rfl | rfl | rfl <;> simp [h']
 have hq : ∀ w : World, (Op.equalIn 10000 50 (.agg #[.int .u64 (dg x 0 : Nat), .int .u64 (dg x 1 : Nat), .int .u64 (dg x 2 : Nat), .int .u64 (dg x 3 : Nat), .int .u64 (dg x 4 : Nat)]) (.agg #[.int .u64 (dg y 0 : Nat), .int .u64 (dg y 1 : Nat), .int .u64 (dg y 2 : Nat), .int .u64 (dg y 3 : Nat), .int .u64 (dg y 4 : Nat)])).run Tryz.prog w = .ok ([((dg x 0 : Nat) : Int), (dg x 1 : Nat), (dg x 2 : Nat), (dg x 3 : Nat), (dg x 4 : Nat)] == [((dg y 0 : Nat) : Int), (dg y 1 : Nat), (dg y 2 : Nat), (dg y 3 : Nat), (dg y 4 : Nat)]) w :=
  fun w => eqArr w 9998 50 45 5 .u64 Tryz.underlying50 Tryz.underlying45 (fun _ => by kernel_rfl) [((dg x 0 : Nat) : Int), (dg x 1 : Nat), (dg x 2 : Nat), (dg x 3 : Nat), (dg x 4 : Nat)] [((dg y 0 : Nat) : Int), (dg y 1 : Nat), (dg y 2 : Nat), (dg y 3 : Nat), (dg y 4 : Nat)] rfl rfl
 generalize ([((dg x 0 : Nat) : Int), (dg x 1 : Nat), (dg x 2 : Nat), (dg x 3 : Nat), (dg x 4 : Nat)] == [((dg y 0 : Nat) : Int), (dg y 1 : Nat), (dg y 2 : Nat), (dg y 3 : Nat), (dg y 4 : Nat)]) = q at *
 have HF := Lib.hid hf; have HG := Lib.hid hg
 clear hf hg
 go_enter Tryz.func94, Tryz.ntmps94
 go_wp2
 refine wp_gen (fun W => (W.cell? ⟨w.heap.size, 0, none⟩ = some (.int .u64 (f 0 : Nat)) ∧ W.cell? ⟨w.heap.size, 1, none⟩ = some (.int .u64 (f 1 : Nat)) ∧ W.cell? ⟨w.heap.size, 2, none⟩ = some (.int .u64 (f 2 : Nat)) ∧ W.cell? ⟨w.heap.size, 3, none⟩ = some (.int .u64 (f 3 : Nat)) ∧ W.cell? ⟨w.heap.size, 4, none⟩ = some (.int .u64 (f 4 : Nat))) ∧ (W.cell? ⟨w.heap.size + 1, 0, none⟩ = some (.int .u64 (g 0 : Nat)) ∧ W.cell? ⟨w.heap.size + 1, 1, none⟩ = some (.int .u64 (g 1 : Nat)) ∧ W.cell? ⟨w.heap.size + 1, 2, none⟩ = some (.int .u64 (g 2 : Nat)) ∧ W.cell? ⟨w.heap.size + 1, 3, none⟩ = some (.int .u64 (g 3 : Nat)) ∧ W.cell? ⟨w.heap.size + 1, 4, none⟩ = some (.int .u64 (g 4 : Nat))) ∧ Below w.heap.size w W) ?_ (fun W0 hW => ?_)
 ·exact ⟨⟨((Blk.new w _ _).alloc _).cell 0, ((Blk.new w _ _).alloc _).cell 1, ((Blk.new w _ _).alloc _).cell 2, ((Blk.new w _ _).alloc _).cell 3, ((Blk.new w _ _).alloc _).cell 4⟩, ⟨(Blk.new' (by simp)).cell 0, (Blk.new' (by simp)).cell 1, (Blk.new' (by simp)).cell 2, (Blk.new' (by simp)).cell 3, (Blk.new' (by simp)).cell 4⟩, belowBy⟩
 have hst : ∀ W W' : World, ((W.cell? ⟨w.heap.size, 0, none⟩ = some (.int .u64 (f 0 : Nat)) ∧ W.cell? ⟨w.heap.size, 1, none⟩ = some (.int .u64 (f 1 : Nat)) ∧ W.cell? ⟨w.heap.size, 2, none⟩ = some (.int .u64 (f 2 : Nat)) ∧ W.cell? ⟨w.heap.size, 3, none⟩ = some (.int .u64 (f 3 : Nat)) ∧ W.cell? ⟨w.heap.size, 4, none⟩ = some (.int .u64 (f 4 : Nat))) ∧ (W.cell? ⟨w.heap.size + 1, 0, none⟩ = some (.int .u64 (g 0 : Nat)) ∧ W.cell? ⟨w.heap.size + 1, 1, none⟩ = some (.int .u64 (g 1 : Nat)) ∧ W.cell? ⟨w.heap.size + 1, 2, none⟩ = some (.int .u64 (g 2 : Nat)) ∧ W.cell? ⟨w.heap.size + 1, 3, none⟩ = some (.int .u64 (g 3 : Nat)) ∧ W.cell? ⟨w.heap.size + 1, 4, none⟩ = some (.int .u64 (g 4 : Nat))) ∧ Below w.heap.size w W) → Below W.heap.size W W' → ((W'.cell? ⟨w.heap.size, 0, none⟩ = some (.int .u64 (f 0 : Nat)) ∧ W'.cell? ⟨w.heap.size, 1, none⟩ = some (.int .u64 (f 1 : Nat)) ∧ W'.cell? ⟨w.heap.size, 2, none⟩ = some (.int .u64 (f 2 : Nat)) ∧ W'.cell? ⟨w.heap.size, 3, none⟩ = some (.int .u64 (f 3 : Nat)) ∧ W'.cell? ⟨w.heap.size, 4, none⟩ = some (.int .u64 (f 4 : Nat))) ∧ (W'.cell? ⟨w.heap.size + 1, 0, none⟩ = some (.int .u64 (g 0 : Nat)) ∧ W'.cell? ⟨w.heap.size + 1, 1, none⟩ = some (.int .u64 (g 1 : Nat)) ∧ W'.cell? ⟨w.heap.size + 1, 2, none⟩ = some (.int .u64 (g 2 : Nat)) ∧ W'.cell? ⟨w.heap.size + 1, 3, none⟩ = some (.int .u64 (g 3 : Nat)) ∧ W'.cell? ⟨w.heap.size + 1, 4, none⟩ = some (.int .u64 (g 4 : Nat))) ∧ Below w.heap.size w W') := by
  rintro W W' ⟨h1, h2, h3⟩ hb
  exact ⟨keep5 _ _ h1 hb, keep5 _ _ h2 hb, Below.call h3 hb⟩
 have hst' := Lib.hid hst; have HS0 := Lib.hid (show (fun W => (W.cell? ⟨w.heap.size, 0, none⟩ = some (.int .u64 (f 0 : Nat)) ∧ W.cell? ⟨w.heap.size, 1, none⟩ = some (.int .u64 (f 1 : Nat)) ∧ W.cell? ⟨w.heap.size, 2, none⟩ = some (.int .u64 (f 2 : Nat)) ∧ W.cell? ⟨w.heap.size, 3, none⟩ = some (.int .u64 (f 3 : Nat)) ∧ W.cell? ⟨w.heap.size, 4, none⟩ = some (.int .u64 (f 4 : Nat))) ∧ (W.cell? ⟨w.heap.size + 1, 0, none⟩ = some (.int .u64 (g 0 : Nat)) ∧ W.cell? ⟨w.heap.size + 1, 1, none⟩ = some (.int .u64 (g 1 : Nat)) ∧ W.cell? ⟨w.heap.size + 1, 2, none⟩ = some (.int .u64 (g 2 : Nat)) ∧ W.cell? ⟨w.heap.size + 1, 3, none⟩ = some (.int .u64 (g 3 : Nat)) ∧ W.cell? ⟨w.heap.size + 1, 4, none⟩ = some (.int .u64 (g 4 : Nat))) ∧ Below w.heap.size w W) W0.drew from ⟨hW.1, hW.2.1, hW.2.2.drew⟩)
 clear hst hW
 have hst := hst'
 clear hst'
 go_region_held3 (fun W => (W.cell? ⟨w.heap.size, 0, none⟩ = some (.int .u64 (f 0 : Nat)) ∧ W.cell? ⟨w.heap.size, 1, none⟩ = some (.int .u64 (f 1 : Nat)) ∧ W.cell? ⟨w.heap.size, 2, none⟩ = some (.int .u64 (f 2 : Nat)) ∧ W.cell? ⟨w.heap.size, 3, none⟩ = some (.int .u64 (f 3 : Nat)) ∧ W.cell? ⟨w.heap.size, 4, none⟩ = some (.int .u64 (f 4 : Nat))) ∧ (W.cell? ⟨w.heap.size + 1, 0, none⟩ = some (.int .u64 (g 0 : Nat)) ∧ W.cell? ⟨w.heap.size + 1, 1, none⟩ = some (.int .u64 (g 1 : Nat)) ∧ W.cell? ⟨w.heap.size + 1, 2, none⟩ = some (.int .u64 (g 2 : Nat)) ∧ W.cell? ⟨w.heap.size + 1, 3, none⟩ = some (.int .u64 (g 3 : Nat)) ∧ W.cell? ⟨w.heap.size + 1, 4, none⟩ = some (.int .u64 (g 4 : Nat))) ∧ Below w.heap.size w W) (first | (exact HS0.out) | (first | assumption | (refine hst.out _ _ ?_ hb; assumption) | (refine hst.out _ _ ?_ (Below.alloc' (Below.refl _ _) _); assumption) | (refine hst.out _ _ ?_ (Below.drew (Below.refl _ _)); assumption))) ((go_at_call 114; first | ((with_reducible refine (whole_any HF.out _).mono ?_); rintro e w1 ⟨rfl, hb⟩) | ((with_reducible refine (whole_any HG.out _).mono ?_); rintro e w1 ⟨rfl, hb⟩)))
 go_wp2
 go_ret
 have hf : ∀ W : World, ((W.cell? ⟨w.heap.size, 0, none⟩ = some (.int .u64 (f 0 : Nat)) ∧ W.cell? ⟨w.heap.size, 1, none⟩ = some (.int .u64 (f 1 : Nat)) ∧ W.cell? ⟨w.heap.size, 2, none⟩ = some (.int .u64 (f 2 : Nat)) ∧ W.cell? ⟨w.heap.size, 3, none⟩ = some (.int .u64 (f 3 : Nat)) ∧ W.cell? ⟨w.heap.size, 4, none⟩ = some (.int .u64 (f 4 : Nat))) ∧ (W.cell? ⟨w.heap.size + 1, 0, none⟩ = some (.int .u64 (g 0 : Nat)) ∧ W.cell? ⟨w.heap.size + 1, 1, none⟩ = some (.int .u64 (g 1 : Nat)) ∧ W.cell? ⟨w.heap.size + 1, 2, none⟩ = some (.int .u64 (g 2 : Nat)) ∧ W.cell? ⟨w.heap.size + 1, 3, none⟩ = some (.int .u64 (g 3 : Nat)) ∧ W.cell? ⟨w.heap.size + 1, 4, none⟩ = some (.int .u64 (g 4 : Nat))) ∧ Below w.heap.size w W) → Below w.heap.size w W := fun W h => h.2.2
 exact ⟨ret_bool HE.out, hf _ (by assumption)⟩
end Go.Proofs.YtielgpefoameiaaGreat
namespace Go.Proofs.YtielgpefoameiaaGreat
open Go.RowKit
/-- The limb that two words make. -/
theorem limb_or (x y : Nat) (s t : Nat) (hs : s ≤ 64) (ht : t + s = 64) (hx : x < 18446744073709551616) :
  bits BinOp.and IntKind.u64 (bits BinOp.or IntKind.u64 ((x : Int) / 2 ^ s) (IntKind.u64.wrap ((y : Int) * 2 ^ t))) 2251799813685247 = ((x / 2 ^ s + y * 2 ^ t % 18446744073709551616) % 2251799813685248 : Nat) := by
 have h0 : x / 2 ^ s < 2 ^ t := by
  apply Nat.div_lt_of_lt_mul
  rw [← Nat.pow_add, show s + t = 64 from by omega]; exact hx
 have h1 : 2 ^ t ≤ 2 ^ 64 := Nat.pow_le_pow_right (by omega) (by omega)
 rw [wrapU, show ((x : Int) / 2 ^ s) = ((x / 2 ^ s : Nat) : Int) from by simp, show ((y : Int) * 2 ^ t) % 18446744073709551616 = ((y * 2 ^ t % 18446744073709551616 : Nat) : Int) from by simp, u64_or_nat _ _ (by omega) (Nat.mod_lt _ (by omega))]
 have e : y * 2 ^ t % 18446744073709551616 = (y % 2 ^ s) * 2 ^ t := by
  rw [show (18446744073709551616 : Nat) = 2 ^ t * 2 ^ s from by rw [← Nat.pow_add, ht], Nat.mul_comm y, Nat.mul_mod_mul_left, Nat.mul_comm]
 have h2 : y % 2 ^ s * 2 ^ t < 18446744073709551616 := by rw [← e]; exact Nat.mod_lt _ (by omega)
 have h3 : x / 2 ^ s ||| y % 2 ^ s * 2 ^ t = x / 2 ^ s + y % 2 ^ s * 2 ^ t := by
  have h4 := Nat.shiftLeft_add_eq_or_of_lt h0 (y % 2 ^ s)
  rw [Nat.shiftLeft_eq] at h4
  rw [Nat.or_comm, ← h4, Nat.add_comm]
 rw [e, h3]
 apply and51
 rw [← h3]
 exact Nat.or_lt_two_pow (n := 64) (by omega) h2
theorem of0 (n : Nat) : bits BinOp.and IntKind.u64 (lw n 0 : Nat) 2251799813685247 = (dg n 0 : Nat) := by
 rw [and51 _ (lw_lt _ _)]; simp only [lw, dg, Nat.mul_zero, Nat.pow_zero, Nat.div_one]; omega
theorem of1 (n : Nat) : bits BinOp.and IntKind.u64 (bits BinOp.or IntKind.u64 ((lw n 0 : Nat) / 2251799813685248) (IntKind.u64.wrap ((lw n 1 : Nat) * 8192))) 2251799813685247 = (dg n 1 : Nat) := by
 have h := limb_or (lw n 0) (lw n 1) 51 13 (by omega) (by omega) (lw_lt _ _)
 have e : (((lw n 0 : Nat) : Int) / 2 ^ 51) = (lw n 0 : Nat) / 2251799813685248 := rfl
 refine Eq.trans (show _ = _ from h) ?_
 congr 1
 simp only [lw, dg, Nat.reduceMul, Nat.reducePow]; omega
theorem of2 (n : Nat) : bits BinOp.and IntKind.u64 (bits BinOp.or IntKind.u64 ((lw n 1 : Nat) / 274877906944) (IntKind.u64.wrap ((lw n 2 : Nat) * 67108864))) 2251799813685247 = (dg n 2 : Nat) := by
 have h := limb_or (lw n 1) (lw n 2) 38 26 (by omega) (by omega) (lw_lt _ _)
 refine Eq.trans (show _ = _ from h) ?_
 congr 1
 simp only [lw, dg, Nat.reduceMul, Nat.reducePow]; omega
theorem of3 (n : Nat) : bits BinOp.and IntKind.u64 (bits BinOp.or IntKind.u64 ((lw n 2 : Nat) / 33554432) (IntKind.u64.wrap ((lw n 3 : Nat) * 549755813888))) 2251799813685247 = (dg n 3 : Nat) := by
 have h := limb_or (lw n 2) (lw n 3) 25 39 (by omega) (by omega) (lw_lt _ _)
 refine Eq.trans (show _ = _ from h) ?_
 congr 1
 simp only [lw, dg, Nat.reduceMul, Nat.reducePow]; omega
theorem of4 (n : Nat) : bits BinOp.and IntKind.u64 ((lw n 3 : Nat) / 4096) 2251799813685247 = (dg n 4 : Nat) := by
 have := lw_lt n 3
 rw [show ((lw n 3 : Nat) : Int) / 4096 = ((lw n 3 / 4096 : Nat) : Int) from by simp, and51 _ (by omega)]
 simp only [lw, dg, Nat.reduceMul, Nat.reducePow]; omega
theorem dg_val (n : Nat) : val (dg n) = n % 57896044618658097711785492504343953926634992332820282019728792003956564819968 := by
 simp only [val, dg, Nat.reduceMul, Nat.reducePow]; omega
theorem FE.of (n : Nat) : FE (dg n) (n % 57896044618658097711785492504343953926634992332820282019728792003956564819968 % Pq) :=
 ⟨⟨by have := dg_lt n 0; omega, dg_lt _ _, dg_lt _ _, dg_lt _ _, dg_lt _ _⟩, by rw [dg_val]⟩
theorem row4_zero : row 4 (wV 0) = [.int .u64 0, .int .u64 0, .int .u64 0, .int .u64 0] := by simp only [row4, wV0]
set_option maxRecDepth 100000 in
set_option maxHeartbeats 1000000 in
theorem feof_any {a : Option Addr} {n cap : Nat} {l : List UInt8} (w : World) (h : RdB w a n cap l) :
  Calls Tryz.prog 110 #[.slice a n cap] w fun e w' => e = .returned (.agg #[.int .u64 (dg (leN (first l 32)) 0 : Nat), .int .u64 (dg (leN (first l 32)) 1 : Nat), .int .u64 (dg (leN (first l 32)) 2 : Nat), .int .u64 (dg (leN (first l 32)) 3 : Nat), .int .u64 (dg (leN (first l 32)) 4 : Nat)]) ∧ Below w.heap.size w w' := by
 have hlen := first_len l 32
 generalize hfl : first l 32 = fl at *
 have HF := Lib.hid hfl; have HL := Lib.hid hlen
 clear hfl hlen
 go_enter Tryz.func110, Tryz.ntmps110
 go_wp2_with (go_at_call 55; go_must (refine (first_any 32 (by omega) _ (h.below belowBy)).mono ?_; rintro e w1 ⟨rfl, hB, hb⟩))
 rw [HF.out] at hB
 have hB1 : Blk w1 (w.heap.size + 1) (fl.map bV) 5 := by simpa using hB
 clear hB
 have hg : w.heap.size + 1 < w1.heap.size := hB1.lt
 refine wp_gen (fun W => Blk W w1.heap.size (row 4 (wV (leN (fl.take 0)))) 46 ∧ Blk W w.heap.size [.int .u64 0, .int .u64 0, .int .u64 0, .int .u64 0, .int .u64 0] 52 ∧ Blk W (w.heap.size + 1) (fl.map bV) 5 ∧ Below w.heap.size w W) ?_ (fun W hW => ?_)
 ·refine ⟨?_, ((Blk.new w _ _).below' hb).alloc _, hB1.alloc _, Below.alloc' (Below.call belowBy hb) _⟩
  rw [List.take_zero, show leN [] = 0 from rfl, row4_zero]
  exact Blk.new w1 _ _
 obtain ⟨hA, hO, hB2, hbel⟩ := hW
 clear hb h hB1
 generalize w1.heap.size = g at *
 clear w1
 go_wp2
 go_loopw [9] (fun i wr => ∃ k : Nat, k ≤ 32 ∧ i = .int .i64 k ∧ Blk wr g (row 4 (wV (leN (fl.take k)))) 46 ∧ Blk wr w.heap.size [.int .u64 0, .int .u64 0, .int .u64 0, .int .u64 0, .int .u64 0] 52 ∧ Blk wr (w.heap.size + 1) (fl.map bV) 5 ∧ Below w.heap.size w wr) (fun i _ => 32 - (intOf i).toNat)
 case atStart => exact ⟨0, by omega, rfl, hA, hO, hB2, hbel⟩
 case round =>
  clear hA hO hB2 hbel W
  obtain ⟨k, hk, rfl, hA, hO, hB, hbel⟩ := hrel
  by_cases hlt : k < 32
  ·have hkl : k < fl.length := by rw [HL.out]; exact hlt
   have hcb : wr.cell? ⟨w.heap.size + 1, k, none⟩ = some (.int .u8 (fl[k].toNat : Int)) := by rw [hB.cell]; simp [hkl, bV]
   have HT := Lib.hid (leN_take fl k hkl)
   have hn := leN_take_lt fl k
   have HC := Lib.hid (fl[k].toNat_lt)
   generalize leN (fl.take k) = x at *
   generalize fl[k].toNat = c at *
   obtain ⟨ci, hci⟩ : ∃ ci : Int, ci = (c : Int) := ⟨_, rfl⟩
   have HI := Lib.hid hci
   rw [← hci] at hcb
   have hc0 : 0 ≤ ci := by omega
   have hc1 : ci < 256 := by have := HC.out; omega
   clear hci
   have hq : k / 8 < 4 := by omega
   have ca : wr.cell? ⟨g, k / 8, none⟩ = some (.int .u64 (lw x (k / 8) : Nat)) := hA.at hq
   have cf := hA.frozen (k / 8)
   have HN := Lib.hid hn
   have HS := Lib.hid (or_byteI x k c ci HI.out HN.out HC.out)
   have HO := Lib.hid hO; have HB := Lib.hid hB; have HA := Lib.hid hA
   clear hn hO hB hA
   go_wp2
   go_region
   rw [HS.out]
   have hA2 := HA.out.set (k / 8) (wV (x + c * 256 ^ k) (k / 8))
   rw [row_set (g := wV (x + c * 256 ^ k)) _ _ rfl (fun i _ hi => by unfold wV; rw [or_other x k c i HN.out HC.out hi])] at hA2
   have hO2 := HO.out.other ⟨g, k / 8, none⟩ (by simp; omega) (wV (x + c * 256 ^ k) (k / 8))
   have hB2 := HB.out.other ⟨g, k / 8, none⟩ (by simp; omega) (wV (x + c * 256 ^ k) (k / 8))
   have HA2 := Lib.hid hA2; have HO2 := Lib.hid hO2; have HB2 := Lib.hid hB2
   clear hA2 hO2 hB2 ca cf hcb
   go_wp2
   go_roundw
   case rel => exact ⟨k + 1, by omega, by go_num, by rw [HT.out]; exact HA2.out.drew, HO2.out.drew, HB2.out.drew, belowBy⟩
   case measure => simp [intOf] <;> omega
  ·obtain rfl : k = 32 := by omega
   rw [List.take_of_length_le (by rw [HL.out]; omega)] at hA
   clear hB hlt hk
   generalize hx : leN fl = x at *
   have HX := Lib.hid hx
   clear hx
   have g0 : wr.cell? ⟨g, 0, none⟩ = some (.int .u64 (lw x 0 : Nat)) := hA.at (by omega); have g1 : wr.cell? ⟨g, 1, none⟩ = some (.int .u64 (lw x 1 : Nat)) := hA.at (by omega); have g2 : wr.cell? ⟨g, 2, none⟩ = some (.int .u64 (lw x 2 : Nat)) := hA.at (by omega); have g3 : wr.cell? ⟨g, 3, none⟩ = some (.int .u64 (lw x 3 : Nat)) := hA.at (by omega)
   have hOc := hO.cell; have hOf := hO.frozen
   have e0 := of0 x; have e1 := of1 x; have e2 := of2 x; have e3 := of3 x; have e4 := of4 x
   clear hA hO
   go_wp2
   exact bodyPost_ret (v := .agg #[.int .u64 (dg x 0 : Nat), .int .u64 (dg x 1 : Nat), .int .u64 (dg x 2 : Nat), .int .u64 (dg x 3 : Nat), .int .u64 (dg x 4 : Nat)]) (by simp [results, Tryz.results110, go_sem, hOc]) rfl ⟨by rw [HX.out], belowBy⟩
end Go.Proofs.YtielgpefoameiaaGreat
namespace Go.Proofs.YtielgpefoameiaaGreat
open Go.RowKit
theorem or_shl (a b t : Nat) (ht : t ≤ 64) (ha : a < 2 ^ t) : bits BinOp.or IntKind.u64 (a : Int) (IntKind.u64.wrap ((b : Int) * 2 ^ t)) = ((a + b * 2 ^ t) % 18446744073709551616 : Nat) := by
 obtain ⟨s, hs⟩ : ∃ s, t + s = 64 := ⟨64 - t, by omega⟩
 have h1 : 2 ^ t ≤ 2 ^ 64 := Nat.pow_le_pow_right (by omega) ht
 have e : b * 2 ^ t % 18446744073709551616 = (b % 2 ^ s) * 2 ^ t := by
  rw [show (18446744073709551616 : Nat) = 2 ^ t * 2 ^ s from by rw [← Nat.pow_add, hs], Nat.mul_comm b, Nat.mul_mod_mul_left, Nat.mul_comm]
 have h2 : b % 2 ^ s * 2 ^ t < 18446744073709551616 := by rw [← e]; exact Nat.mod_lt _ (by omega)
 have h3 : a ||| b % 2 ^ s * 2 ^ t = a + b % 2 ^ s * 2 ^ t := by
  have h4 := Nat.shiftLeft_add_eq_or_of_lt ha (b % 2 ^ s)
  rw [Nat.shiftLeft_eq] at h4
  rw [Nat.or_comm, ← h4, Nat.add_comm]
 have h5 : a ||| b % 2 ^ s * 2 ^ t < 18446744073709551616 := Nat.or_lt_two_pow (n := 64) (by omega) h2
 rw [h3] at h5
 rw [wrapU, show ((b : Int) * 2 ^ t) % 18446744073709551616 = ((b * 2 ^ t % 18446744073709551616 : Nat) : Int) from by simp, u64_or_nat _ _ (by omega) (Nat.mod_lt _ (by omega)), Nat.add_mod, e, h3, Nat.mod_eq_of_lt (show a < 18446744073709551616 by omega), Nat.mod_eq_of_lt h5]
theorem by0 (n : Nat) : bits BinOp.or IntKind.u64 (dg n 0 : Nat) (IntKind.u64.wrap ((dg n 1 : Nat) * 2251799813685248)) = (lw n 0 : Nat) := by
 have h := or_shl (dg n 0) (dg n 1) 51 (by omega) (dg_lt _ _)
 refine Eq.trans (show _ = _ from h) ?_
 congr 1
 simp only [lw, dg, Nat.reduceMul, Nat.reducePow]; omega
theorem by1 (n : Nat) : bits BinOp.or IntKind.u64 ((dg n 1 : Nat) / 8192) (IntKind.u64.wrap ((dg n 2 : Nat) * 274877906944)) = (lw n 1 : Nat) := by
 have := dg_lt n 1
 have h := or_shl (dg n 1 / 8192) (dg n 2) 38 (by omega) (by omega)
 refine Eq.trans (show _ = _ from h) ?_
 congr 1
 simp only [lw, dg, Nat.reduceMul, Nat.reducePow]; omega
theorem by2 (n : Nat) : bits BinOp.or IntKind.u64 ((dg n 2 : Nat) / 67108864) (IntKind.u64.wrap ((dg n 3 : Nat) * 33554432)) = (lw n 2 : Nat) := by
 have := dg_lt n 2
 have h := or_shl (dg n 2 / 67108864) (dg n 3) 25 (by omega) (by omega)
 refine Eq.trans (show _ = _ from h) ?_
 congr 1
 simp only [lw, dg, Nat.reduceMul, Nat.reducePow]; omega
theorem by3 (n : Nat) (hn : n < Pq) : bits BinOp.or IntKind.u64 ((dg n 3 : Nat) / 549755813888) (IntKind.u64.wrap ((dg n 4 : Nat) * 4096)) = (lw n 3 : Nat) := by
 have := dg_lt n 3
 have h := or_shl (dg n 3 / 549755813888) (dg n 4) 12 (by omega) (by omega)
 refine Eq.trans (show _ = _ from h) ?_
 congr 1
 unfold Pq at hn
 simp only [lw, dg, Nat.reduceMul, Nat.reducePow]; omega
theorem by_flat (n : Nat) : [leB 8 (lw n 0), leB 8 (lw n 1), leB 8 (lw n 2), leB 8 (lw n 3)].flatten = leB 32 n := by
 rw [show (32 : Nat) = 8 * (3 + 1) from rfl, leB_words, show 8 * 3 = 8 * (2 + 1) from rfl, leB_words, show 8 * 2 = 8 * (1 + 1) from rfl, leB_words, show 8 * 1 = 8 * (0 + 1) from rfl, leB_words]
 simp [leB]
theorem RdB.of8 {w : World} {g : Nat} {n : Nat} (h : Blk w g ((leB 8 n).map bV) 5) : RdB w (some ⟨g, 0, none⟩) 8 8 (leB 8 n) :=
 RdB.blk [] (by rw [List.append_nil]; exact h) (leB_len _ _) (Nat.le_refl _) (by unfold maxLen; omega)
theorem own_base {w : World} {B' B E n : Nat} {v : Value} {xs : List Value} (h : w.ownsRow B' E 1 v n xs) (hB : B ≤ B') : w.ownsRow B E 1 v n xs := by
 obtain ⟨h1, h2⟩ := h
 refine ⟨h1, ?_⟩
 rcases h2 with h2 | ⟨g, cap, cur, hv, hg, r⟩
 ·exact .inl h2
 ·exact .inr ⟨g, cap, cur, hv, Nat.le_trans hB hg, r⟩
set_option maxRecDepth 100000 in
set_option maxHeartbeats 1000000 in
theorem febytes_own {f : Nat → Nat} {x : Nat} (hf : FE f x) (w : World) :
  Calls Tryz.prog 64 #[.agg #[.int .u64 (f 0 : Nat), .int .u64 (f 1 : Nat), .int .u64 (f 2 : Nat), .int .u64 (f 3 : Nat), .int .u64 (f 4 : Nat)]] w fun e w' => ∃ v, e = .returned v ∧ w'.ownsRow w.heap.size 5 1 v 32 ((leB 32 x).map bV) ∧ Below w.heap.size w w' := by
 have e0 := by0 x; have e1 := by1 x; have e2 := by2 x; have e3 := by3 x hf.lt
 have HFL := Lib.hid (by_flat x)
 have HW0 := Lib.hid (lw_lt x 0); have HW1 := Lib.hid (lw_lt x 1); have HW2 := Lib.hid (lw_lt x 2); have HW3 := Lib.hid (lw_lt x 3)
 have HF := Lib.hid hf
 clear hf
 go_enter Tryz.func64, Tryz.ntmps64
 go_upto_region 2 with (go_at_call 114; go_must (refine (whole_any HF.out _).mono ?_; rintro e w1 ⟨rfl, hb⟩; have hbel : Below w.heap.size w w1 := Below.call belowBy hb; clear hb))
 refine wp_gen (fun W => (W.cell? ⟨w1.heap.size, 0, none⟩ = some (.int .u64 (dg x 0 : Nat)) ∧ W.cell? ⟨w1.heap.size, 1, none⟩ = some (.int .u64 (dg x 1 : Nat)) ∧ W.cell? ⟨w1.heap.size, 2, none⟩ = some (.int .u64 (dg x 2 : Nat)) ∧ W.cell? ⟨w1.heap.size, 3, none⟩ = some (.int .u64 (dg x 3 : Nat)) ∧ W.cell? ⟨w1.heap.size, 4, none⟩ = some (.int .u64 (dg x 4 : Nat))) ∧ Below w.heap.size w W) ?_ (fun W0 hW => ?_)
 ·exact ⟨⟨(Blk.new w1 _ _).cell 0, (Blk.new w1 _ _).cell 1, (Blk.new w1 _ _).cell 2, (Blk.new w1 _ _).cell 3, (Blk.new w1 _ _).cell 4⟩, belowBy⟩
 clear hbel
 generalize w1.heap.size = g at *
 clear w1
 have hst : ∀ W W' : World, ((W.cell? ⟨g, 0, none⟩ = some (.int .u64 (dg x 0 : Nat)) ∧ W.cell? ⟨g, 1, none⟩ = some (.int .u64 (dg x 1 : Nat)) ∧ W.cell? ⟨g, 2, none⟩ = some (.int .u64 (dg x 2 : Nat)) ∧ W.cell? ⟨g, 3, none⟩ = some (.int .u64 (dg x 3 : Nat)) ∧ W.cell? ⟨g, 4, none⟩ = some (.int .u64 (dg x 4 : Nat))) ∧ Below w.heap.size w W) → Below W.heap.size W W' → ((W'.cell? ⟨g, 0, none⟩ = some (.int .u64 (dg x 0 : Nat)) ∧ W'.cell? ⟨g, 1, none⟩ = some (.int .u64 (dg x 1 : Nat)) ∧ W'.cell? ⟨g, 2, none⟩ = some (.int .u64 (dg x 2 : Nat)) ∧ W'.cell? ⟨g, 3, none⟩ = some (.int .u64 (dg x 3 : Nat)) ∧ W'.cell? ⟨g, 4, none⟩ = some (.int .u64 (dg x 4 : Nat))) ∧ Below w.heap.size w W') := by
  rintro W W' ⟨h1, h3⟩ hb
  exact ⟨keep5 _ _ h1 hb, Below.call h3 hb⟩
 have hst' := Lib.hid hst; have HS0 := Lib.hid (show (fun W => (W.cell? ⟨g, 0, none⟩ = some (.int .u64 (dg x 0 : Nat)) ∧ W.cell? ⟨g, 1, none⟩ = some (.int .u64 (dg x 1 : Nat)) ∧ W.cell? ⟨g, 2, none⟩ = some (.int .u64 (dg x 2 : Nat)) ∧ W.cell? ⟨g, 3, none⟩ = some (.int .u64 (dg x 3 : Nat)) ∧ W.cell? ⟨g, 4, none⟩ = some (.int .u64 (dg x 4 : Nat))) ∧ Below w.heap.size w W) W0.drew from ⟨hW.1, hW.2.drew⟩)
 clear hst hW
 have hst := hst'
 clear hst'
 have hF : ∀ W : World, ((W.cell? ⟨g, 0, none⟩ = some (.int .u64 (dg x 0 : Nat)) ∧ W.cell? ⟨g, 1, none⟩ = some (.int .u64 (dg x 1 : Nat)) ∧ W.cell? ⟨g, 2, none⟩ = some (.int .u64 (dg x 2 : Nat)) ∧ W.cell? ⟨g, 3, none⟩ = some (.int .u64 (dg x 3 : Nat)) ∧ W.cell? ⟨g, 4, none⟩ = some (.int .u64 (dg x 4 : Nat))) ∧ Below w.heap.size w W) → Below w.heap.size w W := fun W h => h.2
 go_region_held3 (fun W => (W.cell? ⟨g, 0, none⟩ = some (.int .u64 (dg x 0 : Nat)) ∧ W.cell? ⟨g, 1, none⟩ = some (.int .u64 (dg x 1 : Nat)) ∧ W.cell? ⟨g, 2, none⟩ = some (.int .u64 (dg x 2 : Nat)) ∧ W.cell? ⟨g, 3, none⟩ = some (.int .u64 (dg x 3 : Nat)) ∧ W.cell? ⟨g, 4, none⟩ = some (.int .u64 (dg x 4 : Nat))) ∧ Below w.heap.size w W) (first | (exact HS0.out) | (first | assumption | (refine hst.out _ _ ?_ hb; assumption) | (refine hst.out _ _ ?_ (Below.alloc' (Below.refl _ _) _); assumption) | (refine hst.out _ _ ?_ (Below.drew (Below.refl _ _)); assumption))) ((first | (go_at_call 71; first | ((with_reducible refine (little_any HW0.out _).mono ?_); rintro e w1 ⟨rfl, hB, hb⟩; have C1 := Lib.hid hb.size; have R0 := Lib.hid (RdB.of8 hB); clear hB) | ((with_reducible refine (little_any HW1.out _).mono ?_); rintro e w2 ⟨rfl, hB, hb⟩; have C2 := Lib.hid hb.size; have R1 := Lib.hid (RdB.of8 hB); have Q0 := Lib.hid (R0.out.below hb); clear hB) | ((with_reducible refine (little_any HW2.out _).mono ?_); rintro e w3 ⟨rfl, hB, hb⟩; have C3 := Lib.hid hb.size; have R2 := Lib.hid (RdB.of8 hB); have Q1 := Lib.hid (R1.out.below hb); have P0 := Lib.hid (Q0.out.below hb); clear hB) | ((with_reducible refine (little_any HW3.out _).mono ?_); rintro e w4 ⟨rfl, hB, hb⟩; have C4 := Lib.hid hb.size; have R3 := Lib.hid (RdB.of8 hB); have Q2 := Lib.hid (R2.out.below hb); have P1 := Lib.hid (Q1.out.below hb); have N0 := Lib.hid (P0.out.below hb); clear hB)) | (go_at_call 25; refine (cat_any (ls := [leB 8 (lw x 0), leB 8 (lw x 1), leB 8 (lw x 2), leB 8 (lw x 3)]) _ (RdRows.blk (n := 4) (Blk.new _ _ _) (Rows.cons (N0.out.below (Below.alloc' (Below.refl _ _) _)) (Rows.cons (P1.out.below (Below.alloc' (Below.refl _ _) _)) (Rows.cons (Q2.out.below (Below.alloc' (Below.refl _ _) _)) (Rows.cons (R3.out.below (Below.alloc' (Below.refl _ _) _)) Rows.nil)))) rfl (by unfold maxLen; omega)) (by rw [HFL.out, leB_len]; omega)).mono ?_; rintro e w5 ⟨v, rfl, ho, hb⟩; rw [HFL.out, leB_len] at ho; replace ho := own_base (B := w4.heap.size) ho (Below.alloc' (Below.refl _ _) _).size; have HO := Lib.hid ho; clear ho)))
 all_goals
  go_wp2
  go_ret
  refine ⟨v, rfl, own_base HO.out ?_, hF _ (by assumption)⟩
  have c0 := HS0.out.2.size; have c1 := C1.out; have c2 := C2.out; have c3 := C3.out; have c4 := C4.out
  omega
theorem febytes_any {f : Nat → Nat} {x : Nat} (hf : FE f x) (w : World) :
  Calls Tryz.prog 64 #[.agg #[.int .u64 (f 0 : Nat), .int .u64 (f 1 : Nat), .int .u64 (f 2 : Nat), .int .u64 (f 3 : Nat), .int .u64 (f 4 : Nat)]] w fun e w' => ∃ g cap r, e = .returned (.slice (some ⟨g, 0, none⟩) 32 cap) ∧ w.heap.size ≤ g ∧ Blk w' g ((leB 32 x).map bV ++ r) 5 ∧ 32 ≤ cap ∧ cap ≤ maxLen ∧ Below w.heap.size w w' := by
 refine (febytes_own hf w).mono ?_
 rintro e w' ⟨v, rfl, ho, hb⟩
 obtain ⟨g, cap, r, rfl, hg, hB, _, hc, hm⟩ := own_rdb ho (by omega)
 exact ⟨g, cap, r, rfl, hg, hB, hc, hm, hb⟩
end Go.Proofs.YtielgpefoameiaaGreat
namespace Go.Proofs.YtielgpefoameiaaGreat
open Go.RowKit
/-- The limbs f mean x. -/
def FF (f : Nat → Nat) (x : F) : Prop := FE f x.val
theorem FF.mk {f : Nat → Nat} {n : Nat} {x : F} (h : FE f n) (e : n = x.val) : FF f x := by subst e; exact h
/-- The number that bytes mean, freely read. -/
def feF (l : List UInt8) : F := fn (leN (first l 32) % 57896044618658097711785492504343953926634992332820282019728792003956564819968)
theorem faddM {f g : Nat → Nat} {x y : F} (hf : FF f x) (hg : FF g y) (w : World) :
  Calls Tryz.prog 92 #[.agg #[.int .u64 (f 0 : Nat), .int .u64 (f 1 : Nat), .int .u64 (f 2 : Nat), .int .u64 (f 3 : Nat), .int .u64 (f 4 : Nat)], .agg #[.int .u64 (g 0 : Nat), .int .u64 (g 1 : Nat), .int .u64 (g 2 : Nat), .int .u64 (g 3 : Nat), .int .u64 (g 4 : Nat)]] w fun e w' => ∃ h, e = .returned (.agg #[.int .u64 (h 0 : Nat), .int .u64 (h 1 : Nat), .int .u64 (h 2 : Nat), .int .u64 (h 3 : Nat), .int .u64 (h 4 : Nat)]) ∧ FF h (x + y) ∧ Below w.heap.size w w' := feadd_any hf hg w
theorem fsub_val (x y : F) : (x.val + (Pq - y.val)) % Pq = (x - y).val := by rw [Fin.sub_def, Nat.add_comm]
theorem fsubM {f g : Nat → Nat} {x y : F} (hf : FF f x) (hg : FF g y) (w : World) :
  Calls Tryz.prog 90 #[.agg #[.int .u64 (f 0 : Nat), .int .u64 (f 1 : Nat), .int .u64 (f 2 : Nat), .int .u64 (f 3 : Nat), .int .u64 (f 4 : Nat)], .agg #[.int .u64 (g 0 : Nat), .int .u64 (g 1 : Nat), .int .u64 (g 2 : Nat), .int .u64 (g 3 : Nat), .int .u64 (g 4 : Nat)]] w fun e w' => ∃ h, e = .returned (.agg #[.int .u64 (h 0 : Nat), .int .u64 (h 1 : Nat), .int .u64 (h 2 : Nat), .int .u64 (h 3 : Nat), .int .u64 (h 4 : Nat)]) ∧ FF h (x - y) ∧ Below w.heap.size w w' := by
 refine (fesub_any hf hg w).mono ?_
 rintro e w' ⟨h, rfl, hh, hb⟩
 exact ⟨h, rfl, FF.mk hh (fsub_val x y), hb⟩
theorem fnegM {f : Nat → Nat} {x : F} (hf : FF f x) (w : World) :
  Calls Tryz.prog 97 #[.agg #[.int .u64 (f 0 : Nat), .int .u64 (f 1 : Nat), .int .u64 (f 2 : Nat), .int .u64 (f 3 : Nat), .int .u64 (f 4 : Nat)]] w fun e w' => ∃ h, e = .returned (.agg #[.int .u64 (h 0 : Nat), .int .u64 (h 1 : Nat), .int .u64 (h 2 : Nat), .int .u64 (h 3 : Nat), .int .u64 (h 4 : Nat)]) ∧ FF h (-x) ∧ Below w.heap.size w w' := feneg_any hf w
theorem fmulM {f g : Nat → Nat} {x y : F} (hf : FF f x) (hg : FF g y) (w : World) :
  Calls Tryz.prog 63 #[.agg #[.int .u64 (f 0 : Nat), .int .u64 (f 1 : Nat), .int .u64 (f 2 : Nat), .int .u64 (f 3 : Nat), .int .u64 (f 4 : Nat)], .agg #[.int .u64 (g 0 : Nat), .int .u64 (g 1 : Nat), .int .u64 (g 2 : Nat), .int .u64 (g 3 : Nat), .int .u64 (g 4 : Nat)]] w fun e w' => ∃ h, e = .returned (.agg #[.int .u64 (h 0 : Nat), .int .u64 (h 1 : Nat), .int .u64 (h 2 : Nat), .int .u64 (h 3 : Nat), .int .u64 (h 4 : Nat)]) ∧ FF h (x * y) ∧ Below w.heap.size w w' := femul_any hf hg w
theorem finvM {f : Nat → Nat} {x : F} (hf : FF f x) (w : World) :
  Calls Tryz.prog 62 #[.agg #[.int .u64 (f 0 : Nat), .int .u64 (f 1 : Nat), .int .u64 (f 2 : Nat), .int .u64 (f 3 : Nat), .int .u64 (f 4 : Nat)]] w fun e w' => ∃ h, e = .returned (.agg #[.int .u64 (h 0 : Nat), .int .u64 (h 1 : Nat), .int .u64 (h 2 : Nat), .int .u64 (h 3 : Nat), .int .u64 (h 4 : Nat)]) ∧ FF h (finv x) ∧ Below w.heap.size w w' := feinv_any hf w
theorem fsmallM {n : Nat} (hn : n < 18446744073709551616) (w : World) :
  Calls Tryz.prog 89 #[.int .u64 n] w fun e w' => ∃ h, e = .returned (.agg #[.int .u64 (h 0 : Nat), .int .u64 (h 1 : Nat), .int .u64 (h 2 : Nat), .int .u64 (h 3 : Nat), .int .u64 (h 4 : Nat)]) ∧ FF h (fn n) ∧ Below w.heap.size w w' := by
 refine (fesmall_any hn w).mono ?_
 rintro e w' ⟨rfl, hb⟩
 exact ⟨_, rfl, FF.mk (FE.small hn) (by rw [fn_val, Nat.mod_eq_of_lt]; unfold Pq; omega), hb⟩
theorem fofM {a : Option Addr} {n cap : Nat} {l : List UInt8} (w : World) (h : RdB w a n cap l) :
  Calls Tryz.prog 110 #[.slice a n cap] w fun e w' => ∃ h, e = .returned (.agg #[.int .u64 (h 0 : Nat), .int .u64 (h 1 : Nat), .int .u64 (h 2 : Nat), .int .u64 (h 3 : Nat), .int .u64 (h 4 : Nat)]) ∧ FF h (feF l) ∧ Below w.heap.size w w' := by
 refine (feof_any w h).mono ?_
 rintro e w' ⟨rfl, hb⟩
 exact ⟨_, rfl, FE.of _, hb⟩
theorem fsameM {f g : Nat → Nat} {x y : F} (hf : FF f x) (hg : FF g y) (w : World) :
  Calls Tryz.prog 94 #[.agg #[.int .u64 (f 0 : Nat), .int .u64 (f 1 : Nat), .int .u64 (f 2 : Nat), .int .u64 (f 3 : Nat), .int .u64 (f 4 : Nat)], .agg #[.int .u64 (g 0 : Nat), .int .u64 (g 1 : Nat), .int .u64 (g 2 : Nat), .int .u64 (g 3 : Nat), .int .u64 (g 4 : Nat)]] w fun e w' => e = .returned (.bool (decide (x = y))) ∧ Below w.heap.size w w' := by
 refine (fesame_any hf hg w).mono ?_
 rintro e w' ⟨rfl, hb⟩
 exact ⟨ret_bool (by by_cases h : x = y <;> simp [h, Fin.val_inj]), hb⟩
theorem fsameT {f g : Nat → Nat} {x y : F} (hf : FF f x) (hg : FF g y) (h : x = y) (w : World) :
  Calls Tryz.prog 94 #[.agg #[.int .u64 (f 0 : Nat), .int .u64 (f 1 : Nat), .int .u64 (f 2 : Nat), .int .u64 (f 3 : Nat), .int .u64 (f 4 : Nat)], .agg #[.int .u64 (g 0 : Nat), .int .u64 (g 1 : Nat), .int .u64 (g 2 : Nat), .int .u64 (g 3 : Nat), .int .u64 (g 4 : Nat)]] w fun e w' => e = .returned (.bool true) ∧ Below w.heap.size w w' := by
 refine (fsameM hf hg w).mono ?_
 rintro e w' ⟨rfl, hb⟩
 exact ⟨ret_bool (by simp [h]), hb⟩
theorem fsameF {f g : Nat → Nat} {x y : F} (hf : FF f x) (hg : FF g y) (h : x ≠ y) (w : World) :
  Calls Tryz.prog 94 #[.agg #[.int .u64 (f 0 : Nat), .int .u64 (f 1 : Nat), .int .u64 (f 2 : Nat), .int .u64 (f 3 : Nat), .int .u64 (f 4 : Nat)], .agg #[.int .u64 (g 0 : Nat), .int .u64 (g 1 : Nat), .int .u64 (g 2 : Nat), .int .u64 (g 3 : Nat), .int .u64 (g 4 : Nat)]] w fun e w' => e = .returned (.bool false) ∧ Below w.heap.size w w' := by
 refine (fsameM hf hg w).mono ?_
 rintro e w' ⟨rfl, hb⟩
 exact ⟨ret_bool (by simp [h]), hb⟩
theorem foddM {f : Nat → Nat} {x : F} (hf : FF f x) (w : World) :
  Calls Tryz.prog 65 #[.agg #[.int .u64 (f 0 : Nat), .int .u64 (f 1 : Nat), .int .u64 (f 2 : Nat), .int .u64 (f 3 : Nat), .int .u64 (f 4 : Nat)]] w fun e w' => e = .returned (.bool (decide (x.val % 2 = 1))) ∧ Below w.heap.size w w' := feodd_any hf w
theorem fbytesM {f : Nat → Nat} {x : F} (hf : FF f x) (w : World) :
  Calls Tryz.prog 64 #[.agg #[.int .u64 (f 0 : Nat), .int .u64 (f 1 : Nat), .int .u64 (f 2 : Nat), .int .u64 (f 3 : Nat), .int .u64 (f 4 : Nat)]] w fun e w' => ∃ g cap r, e = .returned (.slice (some ⟨g, 0, none⟩) 32 cap) ∧ w.heap.size ≤ g ∧ Blk w' g ((leB 32 x.val).map bV ++ r) 5 ∧ 32 ≤ cap ∧ cap ≤ maxLen ∧ Below w.heap.size w w' := febytes_any hf w
theorem fpowM {f : Nat → Nat} {x : F} (N T : Nat) (hT1 : T ≤ 256) (hT2 : 256 ≤ T) (hN : N < 2 ^ T) (hf : FF f x) (w : World) :
  Calls Tryz.prog 111 #[.agg #[.int .u64 (f 0 : Nat), .int .u64 (f 1 : Nat), .int .u64 (f 2 : Nat), .int .u64 (f 3 : Nat), .int .u64 (f 4 : Nat)], .agg #[.int .u64 (lw N 0 : Nat), .int .u64 (lw N 1 : Nat), .int .u64 (lw N 2 : Nat), .int .u64 (lw N 3 : Nat)]] w fun e w' => ∃ h, e = .returned (.agg #[.int .u64 (h 0 : Nat), .int .u64 (h 1 : Nat), .int .u64 (h 2 : Nat), .int .u64 (h 3 : Nat), .int .u64 (h 4 : Nat)]) ∧ FF h (fpow x N) ∧ Below w.heap.size w w' := power_any N T hT1 hT2 hN hf w
/-- 32 bytes, below p. -/
def feOk (l : List UInt8) : Bool := decide (l.length = 32) && decide (leN l < Pq)
theorem feF_ok {l : List UInt8} (h : feOk l = true) : (feF l).val = leN l := by
 simp only [feOk, Bool.and_eq_true, decide_eq_true_eq] at h
 have h2 := h.2
 unfold feF
 rw [fn_val, leN_first, List.take_of_length_le (by omega)]
 unfold Pq at *
 omega
theorem feOk_back (l : List UInt8) : decide (leB 32 (feF l).val = l) = feOk l := by
 by_cases h : feOk l = true
 ·rw [h, feF_ok h]
  simp only [feOk, Bool.and_eq_true, decide_eq_true_eq] at h
  rw [← h.1, leB_leN]; simp
 ·rw [Bool.not_eq_true] at h
  rw [h, decide_eq_false]
  intro e
  have h1 : l.length = 32 := by rw [← e, leB_len]
  have h2 : leN l < Pq := by
   rw [← e, leN_leB]
   exact Nat.lt_of_le_of_lt (Nat.mod_le _ _) (feF l).isLt
  simp [feOk, h1, h2] at h
set_option maxRecDepth 100000 in
set_option maxHeartbeats 1000000 in
theorem fstrict_yes {a : Option Addr} {n cap : Nat} {l : List UInt8} (w : World) (h : RdB w a n cap l) (hok : feOk l = true) :
  Calls Tryz.prog 88 #[.slice a n cap] w fun e w' => ∃ h, e = .returned (.tuple #[.agg #[.int .u64 (h 0 : Nat), .int .u64 (h 1 : Nat), .int .u64 (h 2 : Nat), .int .u64 (h 3 : Nat), .int .u64 (h 4 : Nat)], .int .i64 0]) ∧ FF h (feF l) ∧ Below w.heap.size w w' := by
 have HQ : Hid (decide (leB 32 (feF l).val = l) = true) := Lib.hid (by rw [feOk_back, hok])
 clear hok
 go_enter Tryz.func88, Tryz.ntmps88
 go_wp2_with (first | (go_at_call 110; go_must (refine (fofM _ (h.below belowBy)).mono ?_; rintro e w1 ⟨f, rfl, hf, hb1⟩; have hO1 := (Blk.new w _ _).below' hb1; have oc := hO1.cell; have of := hO1.frozen; have hbel1 : Below w.heap.size w w1 := Below.call belowBy hb1; clear hb1))     | (go_at_call 64; go_must (refine (fbytesM hf _).mono ?_; rintro e w2 ⟨g, gc, r, rfl, hg, hB, hc1, hc2, hb2⟩; have hR := RdB.blk r hB (leB_len _ _) hc1 hc2; have hS2 := (Blk.new w1 _ _).below' hb2; have hO2 := (hO1.alloc _).below' hb2; have hbel2 := Below.call (show Below w.heap.size w _ from belowBy) hb2; clear hb2 hO1 hbel1 hB))     | (go_at_call 99; go_must (refine (equal_any _ hR (h.below hbel2)).mono ?_; rintro e w3 ⟨rfl, hb3⟩; rw [HQ.out]; have hO3 := hO2.below' hb3; have hS3 := hS2.below' hb3; have hbel3 := Below.call hbel2 hb3; clear oc of hO2 hS2 hbel2 hb3 hR; have oc := hO3.cell; have of := hO3.frozen; have sc := hS3.cell)))
 exact bodyPost_ret (v := .tuple #[.agg #[.int .u64 (f 0 : Nat), .int .u64 (f 1 : Nat), .int .u64 (f 2 : Nat), .int .u64 (f 3 : Nat), .int .u64 (f 4 : Nat)], .int .i64 0]) (by simp [results, Tryz.results88, go_sem, oc]) rfl ⟨f, rfl, hf, belowBy⟩
theorem FF.zero : FF (fun _ => 0) 0 := FE.zero
set_option maxRecDepth 100000 in
set_option maxHeartbeats 1000000 in
theorem fstrict_no {a : Option Addr} {n cap : Nat} {l : List UInt8} (w : World) (h : RdB w a n cap l) (hok : feOk l = false) :
  Calls Tryz.prog 88 #[.slice a n cap] w fun e w' => ∃ h, e = .returned (.tuple #[.agg #[.int .u64 (h 0 : Nat), .int .u64 (h 1 : Nat), .int .u64 (h 2 : Nat), .int .u64 (h 3 : Nat), .int .u64 (h 4 : Nat)], .int .i64 2]) ∧ FF h 0 ∧ Below w.heap.size w w' := by
 have HQ : Hid (decide (leB 32 (feF l).val = l) = false) := Lib.hid (by rw [feOk_back, hok])
 have hbE := buildE
 clear hok
 go_enter Tryz.func88, Tryz.ntmps88
 go_wp2_with (first | (go_at_call 110; go_must (refine (fofM _ (h.below belowBy)).mono ?_; rintro e w1 ⟨f, rfl, hf, hb1⟩; have hO1 := (Blk.new w _ _).below' hb1; have oc := hO1.cell; have of := hO1.frozen; have hbel1 : Below w.heap.size w w1 := Below.call belowBy hb1; clear hb1))     | (go_at_call 64; go_must (refine (fbytesM hf _).mono ?_; rintro e w2 ⟨g, gc, r, rfl, hg, hB, hc1, hc2, hb2⟩; have hR := RdB.blk r hB (leB_len _ _) hc1 hc2; have hS2 := (Blk.new w1 _ _).below' hb2; have hO2 := (hO1.alloc _).below' hb2; have hbel2 := Below.call (show Below w.heap.size w _ from belowBy) hb2; clear hb2 hO1 hbel1 hB))     | (go_at_call 99; go_must (refine (equal_any _ hR (h.below hbel2)).mono ?_; rintro e w3 ⟨rfl, hb3⟩; rw [HQ.out]; have hO3 := hO2.below' hb3; have hS3 := hS2.below' hb3; have hbel3 := Below.call hbel2 hb3; clear oc of hO2 hS2 hbel2 hb3 hR; have oc := hO3.cell; have of := hO3.frozen; have sc := hS3.cell)))
 exact bodyPost_ret (v := .tuple #[.agg #[.int .u64 0, .int .u64 0, .int .u64 0, .int .u64 0, .int .u64 0], .int .i64 2]) (by simp [results, Tryz.results88, go_sem, oc]) rfl ⟨fun _ => 0, rfl, FF.zero, belowBy⟩
end Go.Proofs.YtielgpefoameiaaGreat
namespace Go.Proofs.YtielgpefoameiaaGreat
open Go Go.RowKit
def repE (x : F) (cs : List Value) : Prop := ∃ h, FF h x ∧ cs = [.int .u64 (h 0 : Nat), .int .u64 (h 1 : Nat), .int .u64 (h 2 : Nat), .int .u64 (h 3 : Nat), .int .u64 (h 4 : Nat)]
def rE : Rp F where
 n := 5
 rep := repE
 pos := by omega
 len := fun _ _ h => by obtain ⟨h, _, rfl⟩ := h; rfl
 one := fun _ _ h v hv => by
  obtain ⟨h, _, rfl⟩ := h
  simp at hv
  rcases hv with rfl | rfl | rfl | rfl | rfl <;> rfl
theorem isE {f : Nat → Nat} {x : F} (h : FF f x) : IsFs rE (.agg #[.int .u64 (f 0 : Nat), .int .u64 (f 1 : Nat), .int .u64 (f 2 : Nat), .int .u64 (f 3 : Nat), .int .u64 (f 4 : Nat)]) [x] := ⟨_, rfl, Lims.single (R := rE) ⟨f, h, rfl⟩⟩
theorem of_isE {v : Value} {x : F} (h : IsFs rE v [x]) : ∃ f, v = .agg #[.int .u64 (f 0 : Nat), .int .u64 (f 1 : Nat), .int .u64 (f 2 : Nat), .int .u64 (f 3 : Nat), .int .u64 (f 4 : Nat)] ∧ FF f x := by
 obtain ⟨cs, rfl, hc⟩ := h
 obtain ⟨f, hf, rfl⟩ := Lims.of_single hc
 exact ⟨f, rfl, hf⟩
theorem cAdd {v v' : Value} {x y : F} (h : IsFs rE v [x]) (h' : IsFs rE v' [y]) (w : World) :
  Calls Tryz.prog 92 #[v, v'] w fun e w' => ∃ r, e = .returned r ∧ IsFs rE r [x + y] ∧ Below w.heap.size w w' := by
 obtain ⟨f, rfl, hf⟩ := of_isE h; obtain ⟨g, rfl, hg⟩ := of_isE h'
 exact (faddM hf hg w).mono fun e w' ⟨k, he, hk, hb⟩ => ⟨_, he, isE hk, hb⟩
theorem cSub {v v' : Value} {x y : F} (h : IsFs rE v [x]) (h' : IsFs rE v' [y]) (w : World) :
  Calls Tryz.prog 90 #[v, v'] w fun e w' => ∃ r, e = .returned r ∧ IsFs rE r [x - y] ∧ Below w.heap.size w w' := by
 obtain ⟨f, rfl, hf⟩ := of_isE h; obtain ⟨g, rfl, hg⟩ := of_isE h'
 exact (fsubM hf hg w).mono fun e w' ⟨k, he, hk, hb⟩ => ⟨_, he, isE hk, hb⟩
theorem cMul {v v' : Value} {x y : F} (h : IsFs rE v [x]) (h' : IsFs rE v' [y]) (w : World) :
  Calls Tryz.prog 63 #[v, v'] w fun e w' => ∃ r, e = .returned r ∧ IsFs rE r [x * y] ∧ Below w.heap.size w w' := by
 obtain ⟨f, rfl, hf⟩ := of_isE h; obtain ⟨g, rfl, hg⟩ := of_isE h'
 exact (fmulM hf hg w).mono fun e w' ⟨k, he, hk, hb⟩ => ⟨_, he, isE hk, hb⟩
theorem cNeg {v : Value} {x : F} (h : IsFs rE v [x]) (w : World) :
  Calls Tryz.prog 97 #[v] w fun e w' => ∃ r, e = .returned r ∧ IsFs rE r [-x] ∧ Below w.heap.size w w' := by
 obtain ⟨f, rfl, hf⟩ := of_isE h
 exact (fnegM hf w).mono fun e w' ⟨k, he, hk, hb⟩ => ⟨_, he, isE hk, hb⟩
theorem cInv {v : Value} {x : F} (h : IsFs rE v [x]) (w : World) :
  Calls Tryz.prog 62 #[v] w fun e w' => ∃ r, e = .returned r ∧ IsFs rE r [finv x] ∧ Below w.heap.size w w' := by
 obtain ⟨f, rfl, hf⟩ := of_isE h
 exact (finvM hf w).mono fun e w' ⟨k, he, hk, hb⟩ => ⟨_, he, isE hk, hb⟩
theorem cSmall {n : Nat} (hn : n < 18446744073709551616) (w : World) :
  Calls Tryz.prog 89 #[.int .u64 n] w fun e w' => ∃ r, e = .returned r ∧ IsFs rE r [fn n] ∧ Below w.heap.size w w' :=
 (fsmallM hn w).mono fun _ _ ⟨_, he, hk, hb⟩ => ⟨_, he, isE hk, hb⟩
theorem cSmallI {n : Nat} {z : Int} (hz : z = (n : Nat)) (hn : n < 18446744073709551616) (w : World) :
  Calls Tryz.prog 89 #[.int .u64 z] w fun e w' => ∃ r, e = .returned r ∧ IsFs rE r [fn n] ∧ Below w.heap.size w w' := by subst hz; exact cSmall hn w
theorem buildE0 (w : World) : ∃ r, (Instr.build 52 #[]).run Tryz.prog w = .ok r w ∧ IsFs rE r [0] :=
 ⟨_, by kernel_rfl, isE (f := fun _ => 0) FF.zero⟩
theorem cOf {a : Option Addr} {n cap : Nat} {l : List UInt8} {w : World} (h : RdB w a n cap l) :
  Calls Tryz.prog 110 #[.slice a n cap] w fun e w' => ∃ r, e = .returned r ∧ IsFs rE r [feF l] ∧ Below w.heap.size w w' :=
 (fofM w h).mono fun _ _ ⟨_, he, hk, hb⟩ => ⟨_, he, isE hk, hb⟩
theorem cBytes {v : Value} {x : F} (h : IsFs rE v [x]) (w : World) :
  Calls Tryz.prog 64 #[v] w fun e w' => ∃ g n cap r, e = .returned (.slice (some ⟨g, 0, none⟩) n cap) ∧ w.heap.size ≤ g ∧ Blk w' g ((leB 32 x.val).map bV ++ r) 5 ∧ (leB 32 x.val).length = n ∧ n ≤ cap ∧ cap ≤ maxLen ∧ Below w.heap.size w w' := by
 obtain ⟨f, rfl, hf⟩ := of_isE h
 exact (fbytesM hf w).mono fun _ _ ⟨g, cap, r, he, hg, hB, h1, h2, hb⟩ => ⟨g, 32, cap, r, he, hg, hB, leB_len _ _, h1, h2, hb⟩
theorem tyE : TyOk rE 52 1 := ⟨⟨_, Tryz.underlying52, rfl⟩, by kernel_rfl⟩
theorem allocE (w : World) : (Instr.alloc 52 true (.tuple #[])).run Tryz.prog w = .ok (.pointer (some ⟨w.heap.size, 0, none⟩)) (w.alloc (.cells #[.int .u64 0, .int .u64 0, .int .u64 0, .int .u64 0, .int .u64 0] 52)) := by kernel_rfl
end Go.Proofs.YtielgpefoameiaaGreat
namespace Go.Proofs.YtielgpefoameiaaGreat
open Go.RowKit
def turnF (i : Nat) : Nat := if i = 0 then 1718705420411056 else if i = 1 then 234908883556509 else if i = 2 then 2233514472574048 else if i = 3 then 2117202627021982 else 765476049583133
theorem FF.turn : FF turnF sqm1 := ⟨⟨by decide, by decide, by decide, by decide, by decide⟩, by decide +kernel⟩
set_option maxRecDepth 100000 in
theorem fturnM (w : World) : Calls Tryz.prog 122 #[] w fun e w' => ∃ h, e = .returned (.agg #[.int .u64 (h 0 : Nat), .int .u64 (h 1 : Nat), .int .u64 (h 2 : Nat), .int .u64 (h 3 : Nat), .int .u64 (h 4 : Nat)]) ∧ FF h sqm1 ∧ Below w.heap.size w w' := by
 go_enter Tryz.func122, Tryz.ntmps122
 go_wp2
 exact bodyPost_ret (v := .agg #[.int .u64 1718705420411056, .int .u64 234908883556509, .int .u64 2233514472574048, .int .u64 2117202627021982, .int .u64 765476049583133]) (by simp [results, Tryz.results122, go_sem]) rfl ⟨turnF, rfl, FF.turn, belowBy⟩
theorem fpow8 {f : Nat → Nat} {x : F} (hf : FF f x) (w : World) :
  Calls Tryz.prog 111 #[.agg #[.int .u64 (f 0 : Nat), .int .u64 (f 1 : Nat), .int .u64 (f 2 : Nat), .int .u64 (f 3 : Nat), .int .u64 (f 4 : Nat)], .agg #[.int .u64 18446744073709551614, .int .u64 18446744073709551615, .int .u64 18446744073709551615, .int .u64 1152921504606846975]] w fun e w' => ∃ h, e = .returned (.agg #[.int .u64 (h 0 : Nat), .int .u64 (h 1 : Nat), .int .u64 (h 2 : Nat), .int .u64 (h 3 : Nat), .int .u64 (h 4 : Nat)]) ∧ FF h (fpow x exp8) ∧ Below w.heap.size w w' := by
 have hP := fpowM exp8 (8 * 32) (by omega) (by omega) (by decide +kernel) hf w
 rw [show lw exp8 0 = 18446744073709551614 from by decide +kernel, show lw exp8 1 = 18446744073709551615 from by decide +kernel, show lw exp8 2 = 18446744073709551615 from by decide +kernel, show lw exp8 3 = 1152921504606846975 from by decide +kernel] at hP
 exact hP
/-- What the walk of Root keeps: the number, the candidate, the answer's place. -/
theorem root_keep {f r : Nat → Nat} {A g o : Nat} {w : World} : ∀ W W' : World, ((W.cell? ⟨A, 0, none⟩ = some (.int .u64 (f 0 : Nat)) ∧ W.cell? ⟨A, 1, none⟩ = some (.int .u64 (f 1 : Nat)) ∧ W.cell? ⟨A, 2, none⟩ = some (.int .u64 (f 2 : Nat)) ∧ W.cell? ⟨A, 3, none⟩ = some (.int .u64 (f 3 : Nat)) ∧ W.cell? ⟨A, 4, none⟩ = some (.int .u64 (f 4 : Nat))) ∧ (W.cell? ⟨g, 0, none⟩ = some (.int .u64 (r 0 : Nat)) ∧ W.cell? ⟨g, 1, none⟩ = some (.int .u64 (r 1 : Nat)) ∧ W.cell? ⟨g, 2, none⟩ = some (.int .u64 (r 2 : Nat)) ∧ W.cell? ⟨g, 3, none⟩ = some (.int .u64 (r 3 : Nat)) ∧ W.cell? ⟨g, 4, none⟩ = some (.int .u64 (r 4 : Nat))) ∧ Blk W A [.int .u64 (f 0 : Nat), .int .u64 (f 1 : Nat), .int .u64 (f 2 : Nat), .int .u64 (f 3 : Nat), .int .u64 (f 4 : Nat)] 52 ∧ Blk W g [.int .u64 (r 0 : Nat), .int .u64 (r 1 : Nat), .int .u64 (r 2 : Nat), .int .u64 (r 3 : Nat), .int .u64 (r 4 : Nat)] 52 ∧ Blk W (o) [.int .u64 0, .int .u64 0, .int .u64 0, .int .u64 0, .int .u64 0] 52 ∧ Below w.heap.size w W) → Below W.heap.size W W' → ((W'.cell? ⟨A, 0, none⟩ = some (.int .u64 (f 0 : Nat)) ∧ W'.cell? ⟨A, 1, none⟩ = some (.int .u64 (f 1 : Nat)) ∧ W'.cell? ⟨A, 2, none⟩ = some (.int .u64 (f 2 : Nat)) ∧ W'.cell? ⟨A, 3, none⟩ = some (.int .u64 (f 3 : Nat)) ∧ W'.cell? ⟨A, 4, none⟩ = some (.int .u64 (f 4 : Nat))) ∧ (W'.cell? ⟨g, 0, none⟩ = some (.int .u64 (r 0 : Nat)) ∧ W'.cell? ⟨g, 1, none⟩ = some (.int .u64 (r 1 : Nat)) ∧ W'.cell? ⟨g, 2, none⟩ = some (.int .u64 (r 2 : Nat)) ∧ W'.cell? ⟨g, 3, none⟩ = some (.int .u64 (r 3 : Nat)) ∧ W'.cell? ⟨g, 4, none⟩ = some (.int .u64 (r 4 : Nat))) ∧ Blk W' A [.int .u64 (f 0 : Nat), .int .u64 (f 1 : Nat), .int .u64 (f 2 : Nat), .int .u64 (f 3 : Nat), .int .u64 (f 4 : Nat)] 52 ∧ Blk W' g [.int .u64 (r 0 : Nat), .int .u64 (r 1 : Nat), .int .u64 (r 2 : Nat), .int .u64 (r 3 : Nat), .int .u64 (r 4 : Nat)] 52 ∧ Blk W' (o) [.int .u64 0, .int .u64 0, .int .u64 0, .int .u64 0, .int .u64 0] 52 ∧ Below w.heap.size w W') := by
 rintro W W' ⟨h1, h2, h3, h4, h5, h6⟩ hb
 exact ⟨keep5 _ _ h1 hb, keep5 _ _ h2 hb, h3.below' hb, h4.below' hb, h5.below' hb, Below.call h6 hb⟩
theorem root_drew {f r : Nat → Nat} {A g o : Nat} {w W : World} (h : ((W.cell? ⟨A, 0, none⟩ = some (.int .u64 (f 0 : Nat)) ∧ W.cell? ⟨A, 1, none⟩ = some (.int .u64 (f 1 : Nat)) ∧ W.cell? ⟨A, 2, none⟩ = some (.int .u64 (f 2 : Nat)) ∧ W.cell? ⟨A, 3, none⟩ = some (.int .u64 (f 3 : Nat)) ∧ W.cell? ⟨A, 4, none⟩ = some (.int .u64 (f 4 : Nat))) ∧ (W.cell? ⟨g, 0, none⟩ = some (.int .u64 (r 0 : Nat)) ∧ W.cell? ⟨g, 1, none⟩ = some (.int .u64 (r 1 : Nat)) ∧ W.cell? ⟨g, 2, none⟩ = some (.int .u64 (r 2 : Nat)) ∧ W.cell? ⟨g, 3, none⟩ = some (.int .u64 (r 3 : Nat)) ∧ W.cell? ⟨g, 4, none⟩ = some (.int .u64 (r 4 : Nat))) ∧ Blk W A [.int .u64 (f 0 : Nat), .int .u64 (f 1 : Nat), .int .u64 (f 2 : Nat), .int .u64 (f 3 : Nat), .int .u64 (f 4 : Nat)] 52 ∧ Blk W g [.int .u64 (r 0 : Nat), .int .u64 (r 1 : Nat), .int .u64 (r 2 : Nat), .int .u64 (r 3 : Nat), .int .u64 (r 4 : Nat)] 52 ∧ Blk W (o) [.int .u64 0, .int .u64 0, .int .u64 0, .int .u64 0, .int .u64 0] 52 ∧ Below w.heap.size w W)) : ((W.drew.cell? ⟨A, 0, none⟩ = some (.int .u64 (f 0 : Nat)) ∧ W.drew.cell? ⟨A, 1, none⟩ = some (.int .u64 (f 1 : Nat)) ∧ W.drew.cell? ⟨A, 2, none⟩ = some (.int .u64 (f 2 : Nat)) ∧ W.drew.cell? ⟨A, 3, none⟩ = some (.int .u64 (f 3 : Nat)) ∧ W.drew.cell? ⟨A, 4, none⟩ = some (.int .u64 (f 4 : Nat))) ∧ (W.drew.cell? ⟨g, 0, none⟩ = some (.int .u64 (r 0 : Nat)) ∧ W.drew.cell? ⟨g, 1, none⟩ = some (.int .u64 (r 1 : Nat)) ∧ W.drew.cell? ⟨g, 2, none⟩ = some (.int .u64 (r 2 : Nat)) ∧ W.drew.cell? ⟨g, 3, none⟩ = some (.int .u64 (r 3 : Nat)) ∧ W.drew.cell? ⟨g, 4, none⟩ = some (.int .u64 (r 4 : Nat))) ∧ Blk W.drew A [.int .u64 (f 0 : Nat), .int .u64 (f 1 : Nat), .int .u64 (f 2 : Nat), .int .u64 (f 3 : Nat), .int .u64 (f 4 : Nat)] 52 ∧ Blk W.drew g [.int .u64 (r 0 : Nat), .int .u64 (r 1 : Nat), .int .u64 (r 2 : Nat), .int .u64 (r 3 : Nat), .int .u64 (r 4 : Nat)] 52 ∧ Blk W.drew (o) [.int .u64 0, .int .u64 0, .int .u64 0, .int .u64 0, .int .u64 0] 52 ∧ Below w.heap.size w W.drew) := root_keep _ _ h (Below.drew (Below.refl _ _))
theorem root_mk {f r : Nat → Nat} {A g o : Nat} {w W : World} (h3 : Blk W A [.int .u64 (f 0 : Nat), .int .u64 (f 1 : Nat), .int .u64 (f 2 : Nat), .int .u64 (f 3 : Nat), .int .u64 (f 4 : Nat)] 52) (h4 : Blk W g [.int .u64 (r 0 : Nat), .int .u64 (r 1 : Nat), .int .u64 (r 2 : Nat), .int .u64 (r 3 : Nat), .int .u64 (r 4 : Nat)] 52) (h5 : Blk W o [.int .u64 0, .int .u64 0, .int .u64 0, .int .u64 0, .int .u64 0] 52) (h6 : Below w.heap.size w W) : ((W.cell? ⟨A, 0, none⟩ = some (.int .u64 (f 0 : Nat)) ∧ W.cell? ⟨A, 1, none⟩ = some (.int .u64 (f 1 : Nat)) ∧ W.cell? ⟨A, 2, none⟩ = some (.int .u64 (f 2 : Nat)) ∧ W.cell? ⟨A, 3, none⟩ = some (.int .u64 (f 3 : Nat)) ∧ W.cell? ⟨A, 4, none⟩ = some (.int .u64 (f 4 : Nat))) ∧ (W.cell? ⟨g, 0, none⟩ = some (.int .u64 (r 0 : Nat)) ∧ W.cell? ⟨g, 1, none⟩ = some (.int .u64 (r 1 : Nat)) ∧ W.cell? ⟨g, 2, none⟩ = some (.int .u64 (r 2 : Nat)) ∧ W.cell? ⟨g, 3, none⟩ = some (.int .u64 (r 3 : Nat)) ∧ W.cell? ⟨g, 4, none⟩ = some (.int .u64 (r 4 : Nat))) ∧ Blk W A [.int .u64 (f 0 : Nat), .int .u64 (f 1 : Nat), .int .u64 (f 2 : Nat), .int .u64 (f 3 : Nat), .int .u64 (f 4 : Nat)] 52 ∧ Blk W g [.int .u64 (r 0 : Nat), .int .u64 (r 1 : Nat), .int .u64 (r 2 : Nat), .int .u64 (r 3 : Nat), .int .u64 (r 4 : Nat)] 52 ∧ Blk W (o) [.int .u64 0, .int .u64 0, .int .u64 0, .int .u64 0, .int .u64 0] 52 ∧ Below w.heap.size w W) :=
 ⟨⟨h3.cell 0, h3.cell 1, h3.cell 2, h3.cell 3, h3.cell 4⟩, ⟨h4.cell 0, h4.cell 1, h4.cell 2, h4.cell 3, h4.cell 4⟩, h3, h4, h5, h6⟩
set_option maxRecDepth 100000 in
set_option maxHeartbeats 1000000 in
theorem rootM {f : Nat → Nat} {x : F} (hf : FF f x) (w : World) :
  Calls Tryz.prog 93 #[.agg #[.int .u64 (f 0 : Nat), .int .u64 (f 1 : Nat), .int .u64 (f 2 : Nat), .int .u64 (f 3 : Nat), .int .u64 (f 4 : Nat)]] w fun e w' => ∃ h, e = .returned (.tuple #[.agg #[.int .u64 (h 0 : Nat), .int .u64 (h 1 : Nat), .int .u64 (h 2 : Nat), .int .u64 (h 3 : Nat), .int .u64 (h 4 : Nat)], .int .i64 (rootC x)]) ∧ FF h (rootV x) ∧ Below w.heap.size w w' := by
 have hbE := buildE
 go_enter Tryz.func93, Tryz.ntmps93
 go_upto_region 2 with (go_at_call 111; go_must (refine (fpow8 hf _).mono ?_; rintro e w1 ⟨r, rfl, hr, hb⟩; have hA := ((Blk.new w #[.int .u64 (f 0 : Nat),.int .u64 (f 1 : Nat),.int .u64 (f 2 : Nat),.int .u64 (f 3 : Nat),.int .u64 (f 4 : Nat)] 52).alloc _).below' hb; have hO := (show Blk _ (w.heap.size + 1) [.int .u64 0, .int .u64 0, .int .u64 0, .int .u64 0, .int .u64 0] 52 from (by repeat (first | (with_reducible refine Blk.drew ?_) | exact Blk.new' (by simp) | (with_reducible refine Blk.alloc ?_ _)))).below' hb; have hbel : Below w.heap.size w w1 := Below.call belowBy hb; clear hb))
 refine wp_gen (fun W => ((W.cell? ⟨w.heap.size, 0, none⟩ = some (.int .u64 (f 0 : Nat)) ∧ W.cell? ⟨w.heap.size, 1, none⟩ = some (.int .u64 (f 1 : Nat)) ∧ W.cell? ⟨w.heap.size, 2, none⟩ = some (.int .u64 (f 2 : Nat)) ∧ W.cell? ⟨w.heap.size, 3, none⟩ = some (.int .u64 (f 3 : Nat)) ∧ W.cell? ⟨w.heap.size, 4, none⟩ = some (.int .u64 (f 4 : Nat))) ∧ (W.cell? ⟨w1.heap.size, 0, none⟩ = some (.int .u64 (r 0 : Nat)) ∧ W.cell? ⟨w1.heap.size, 1, none⟩ = some (.int .u64 (r 1 : Nat)) ∧ W.cell? ⟨w1.heap.size, 2, none⟩ = some (.int .u64 (r 2 : Nat)) ∧ W.cell? ⟨w1.heap.size, 3, none⟩ = some (.int .u64 (r 3 : Nat)) ∧ W.cell? ⟨w1.heap.size, 4, none⟩ = some (.int .u64 (r 4 : Nat))) ∧ Blk W w.heap.size [.int .u64 (f 0 : Nat), .int .u64 (f 1 : Nat), .int .u64 (f 2 : Nat), .int .u64 (f 3 : Nat), .int .u64 (f 4 : Nat)] 52 ∧ Blk W w1.heap.size [.int .u64 (r 0 : Nat), .int .u64 (r 1 : Nat), .int .u64 (r 2 : Nat), .int .u64 (r 3 : Nat), .int .u64 (r 4 : Nat)] 52 ∧ Blk W (w.heap.size + 1) [.int .u64 0, .int .u64 0, .int .u64 0, .int .u64 0, .int .u64 0] 52 ∧ Below w.heap.size w W)) ?_ (fun W0 hW => ?_)
 ·exact root_mk (hA.alloc _) (Blk.new w1 _ _) (hO.alloc _) (Below.alloc' hbel _)
 have hg1 : w.heap.size + 1 < w1.heap.size := hO.lt
 clear hA hO hbel
 generalize w1.heap.size = g at *
 clear w1
 have hst1 := Lib.hid (root_keep (f := f) (r := r) (A := w.heap.size) (g := g) (o := w.heap.size + 1) (w := w))
 have HS1 := Lib.hid (root_drew hW)
 clear hW
 have hst := hst1
 by_cases e1 : fpow x exp8 * fpow x exp8 = x
 ·have E1 := Lib.hid e1
  have HC : Hid (cand x = fpow x exp8) := Lib.hid (by unfold cand; rw [if_pos e1])
  have HR : Hid (rootC x = 0) := Lib.hid (by unfold rootC; rw [HC.out, if_pos e1])
  have E2 := E1
  clear e1
  generalize fpow x exp8 = y at *
  go_region_held3 (fun W => ((W.cell? ⟨w.heap.size, 0, none⟩ = some (.int .u64 (f 0 : Nat)) ∧ W.cell? ⟨w.heap.size, 1, none⟩ = some (.int .u64 (f 1 : Nat)) ∧ W.cell? ⟨w.heap.size, 2, none⟩ = some (.int .u64 (f 2 : Nat)) ∧ W.cell? ⟨w.heap.size, 3, none⟩ = some (.int .u64 (f 3 : Nat)) ∧ W.cell? ⟨w.heap.size, 4, none⟩ = some (.int .u64 (f 4 : Nat))) ∧ (W.cell? ⟨g, 0, none⟩ = some (.int .u64 (r 0 : Nat)) ∧ W.cell? ⟨g, 1, none⟩ = some (.int .u64 (r 1 : Nat)) ∧ W.cell? ⟨g, 2, none⟩ = some (.int .u64 (r 2 : Nat)) ∧ W.cell? ⟨g, 3, none⟩ = some (.int .u64 (r 3 : Nat)) ∧ W.cell? ⟨g, 4, none⟩ = some (.int .u64 (r 4 : Nat))) ∧ Blk W w.heap.size [.int .u64 (f 0 : Nat), .int .u64 (f 1 : Nat), .int .u64 (f 2 : Nat), .int .u64 (f 3 : Nat), .int .u64 (f 4 : Nat)] 52 ∧ Blk W g [.int .u64 (r 0 : Nat), .int .u64 (r 1 : Nat), .int .u64 (r 2 : Nat), .int .u64 (r 3 : Nat), .int .u64 (r 4 : Nat)] 52 ∧ Blk W (w.heap.size + 1) [.int .u64 0, .int .u64 0, .int .u64 0, .int .u64 0, .int .u64 0] 52 ∧ Below w.heap.size w W)) (first | (exact HS1.out) | (first | assumption | (refine hst.out _ _ ?_ hb; assumption) | (refine hst.out _ _ ?_ (Below.alloc' (Below.refl _ _) _); assumption) | (refine hst.out _ _ ?_ (Below.drew (Below.refl _ _)); assumption))) ((first | (go_at_call 63; (with_reducible refine (fmulM hr hr _).mono ?_); rintro e wm ⟨m1, rfl, hm1, hb⟩) | (go_at_call 94; (with_reducible refine (fsameT hm1 hf E1.out _).mono ?_); rintro e ws ⟨rfl, hb⟩)))
  rename_i hh
  have HS2 := Lib.hid (root_drew hh)
  clear hh HS1 hst1
  go_wp2
  go_region_held3 (fun W => ((W.cell? ⟨w.heap.size, 0, none⟩ = some (.int .u64 (f 0 : Nat)) ∧ W.cell? ⟨w.heap.size, 1, none⟩ = some (.int .u64 (f 1 : Nat)) ∧ W.cell? ⟨w.heap.size, 2, none⟩ = some (.int .u64 (f 2 : Nat)) ∧ W.cell? ⟨w.heap.size, 3, none⟩ = some (.int .u64 (f 3 : Nat)) ∧ W.cell? ⟨w.heap.size, 4, none⟩ = some (.int .u64 (f 4 : Nat))) ∧ (W.cell? ⟨g, 0, none⟩ = some (.int .u64 (r 0 : Nat)) ∧ W.cell? ⟨g, 1, none⟩ = some (.int .u64 (r 1 : Nat)) ∧ W.cell? ⟨g, 2, none⟩ = some (.int .u64 (r 2 : Nat)) ∧ W.cell? ⟨g, 3, none⟩ = some (.int .u64 (r 3 : Nat)) ∧ W.cell? ⟨g, 4, none⟩ = some (.int .u64 (r 4 : Nat))) ∧ Blk W w.heap.size [.int .u64 (f 0 : Nat), .int .u64 (f 1 : Nat), .int .u64 (f 2 : Nat), .int .u64 (f 3 : Nat), .int .u64 (f 4 : Nat)] 52 ∧ Blk W g [.int .u64 (r 0 : Nat), .int .u64 (r 1 : Nat), .int .u64 (r 2 : Nat), .int .u64 (r 3 : Nat), .int .u64 (r 4 : Nat)] 52 ∧ Blk W (w.heap.size + 1) [.int .u64 0, .int .u64 0, .int .u64 0, .int .u64 0, .int .u64 0] 52 ∧ Below w.heap.size w W)) (first | (exact HS2.out) | (first | assumption | (refine hst.out _ _ ?_ hb; assumption) | (refine hst.out _ _ ?_ (Below.alloc' (Below.refl _ _) _); assumption) | (refine hst.out _ _ ?_ (Below.drew (Below.refl _ _)); assumption))) ((first | (go_at_call 63; (with_reducible refine (fmulM hr hr _).mono ?_); rintro e wm ⟨m2, rfl, hm2, hb⟩) | (go_at_call 94; (with_reducible refine (fsameT hm2 hf E2.out _).mono ?_); rintro e ws ⟨rfl, hb⟩)))
  rename_i hh
  have hhH := Lib.hid hh
  clear hh hst HS2
  by_cases hp : y.val % 2 = 1
  ·have HV : Hid (rootV x = -y) := Lib.hid (by unfold rootV; rw [HC.out, if_pos E2.out, if_pos hp])
   have HP : Hid (decide (y.val % 2 = 1) = true) := Lib.hid (decide_eq_true hp)
   clear hp
   have c0 := hhH.out.2.1.1; have c1 := hhH.out.2.1.2.1; have c2 := hhH.out.2.1.2.2.1; have c3 := hhH.out.2.1.2.2.2.1; have c4 := hhH.out.2.1.2.2.2.2
   have hne : ¬ g = w.heap.size + 1 := by omega
   have hne2 : ¬ w.heap.size + 1 = g := by omega
   go_wp2_with (first | (go_at_call 65; go_must (refine (foddM hr _).mono ?_; rintro e w2 ⟨rfl, hb⟩; rw [HP.out]; have h2 := Lib.hid (root_keep _ _ hhH.out hb); clear c0 c1 c2 c3 c4 hb; have c0 := h2.out.2.1.1; have c1 := h2.out.2.1.2.1; have c2 := h2.out.2.1.2.2.1; have c3 := h2.out.2.1.2.2.2.1; have c4 := h2.out.2.1.2.2.2.2; have rf := h2.out.2.2.2.1.frozen))         | (go_at_call 97; go_must (refine (fnegM hr _).mono ?_; rintro e w3 ⟨q, rfl, hq, hb⟩; have h3 := root_keep _ _ h2.out hb; have hG := h3.2.2.2.1.frozen; have gc := h3.2.2.2.1.cell; have oc := h3.2.2.2.2.1.cell; have of := h3.2.2.2.2.1.frozen; have hbel := h3.2.2.2.2.2; clear c0 c1 c2 c3 c4 rf hb h2 h3)))
   exact bodyPost_ret (v := .tuple #[.agg #[.int .u64 (q 0 : Nat), .int .u64 (q 1 : Nat), .int .u64 (q 2 : Nat), .int .u64 (q 3 : Nat), .int .u64 (q 4 : Nat)], .int .i64 0]) (by simp [results, Tryz.results93, go_sem, oc]) rfl ⟨q, by rw [HR.out], by rw [HV.out]; exact hq, belowBy⟩
  ·have HV : Hid (rootV x = y) := Lib.hid (by unfold rootV; rw [HC.out, if_pos E2.out, if_neg hp])
   have HP : Hid (decide (y.val % 2 = 1) = false) := Lib.hid (decide_eq_false hp)
   clear hp
   have c0 := hhH.out.2.1.1; have c1 := hhH.out.2.1.2.1; have c2 := hhH.out.2.1.2.2.1; have c3 := hhH.out.2.1.2.2.2.1; have c4 := hhH.out.2.1.2.2.2.2
   have hne : ¬ g = w.heap.size + 1 := by omega
   have hne2 : ¬ w.heap.size + 1 = g := by omega
   go_wp2_with (first | (go_at_call 65; go_must (refine (foddM hr _).mono ?_; rintro e w2 ⟨rfl, hb⟩; rw [HP.out]; have h2 := root_keep _ _ hhH.out hb; clear c0 c1 c2 c3 c4 hb; have gc := h2.2.2.2.1.cell; have oc := h2.2.2.2.2.1.cell; have of := h2.2.2.2.2.1.frozen; have hbel := h2.2.2.2.2.2; clear h2)))
   exact bodyPost_ret (v := .tuple #[.agg #[.int .u64 (r 0 : Nat), .int .u64 (r 1 : Nat), .int .u64 (r 2 : Nat), .int .u64 (r 3 : Nat), .int .u64 (r 4 : Nat)], .int .i64 0]) (by simp [results, Tryz.results93, go_sem, oc]) rfl ⟨r, by rw [HR.out], by rw [HV.out]; exact hr, belowBy⟩
 ·have E1 := Lib.hid e1
  have HC : Hid (cand x = fpow x exp8 * sqm1) := Lib.hid (by unfold cand; rw [if_neg e1])
  clear e1
  go_region_held3 (fun W => ((W.cell? ⟨w.heap.size, 0, none⟩ = some (.int .u64 (f 0 : Nat)) ∧ W.cell? ⟨w.heap.size, 1, none⟩ = some (.int .u64 (f 1 : Nat)) ∧ W.cell? ⟨w.heap.size, 2, none⟩ = some (.int .u64 (f 2 : Nat)) ∧ W.cell? ⟨w.heap.size, 3, none⟩ = some (.int .u64 (f 3 : Nat)) ∧ W.cell? ⟨w.heap.size, 4, none⟩ = some (.int .u64 (f 4 : Nat))) ∧ (W.cell? ⟨g, 0, none⟩ = some (.int .u64 (r 0 : Nat)) ∧ W.cell? ⟨g, 1, none⟩ = some (.int .u64 (r 1 : Nat)) ∧ W.cell? ⟨g, 2, none⟩ = some (.int .u64 (r 2 : Nat)) ∧ W.cell? ⟨g, 3, none⟩ = some (.int .u64 (r 3 : Nat)) ∧ W.cell? ⟨g, 4, none⟩ = some (.int .u64 (r 4 : Nat))) ∧ Blk W w.heap.size [.int .u64 (f 0 : Nat), .int .u64 (f 1 : Nat), .int .u64 (f 2 : Nat), .int .u64 (f 3 : Nat), .int .u64 (f 4 : Nat)] 52 ∧ Blk W g [.int .u64 (r 0 : Nat), .int .u64 (r 1 : Nat), .int .u64 (r 2 : Nat), .int .u64 (r 3 : Nat), .int .u64 (r 4 : Nat)] 52 ∧ Blk W (w.heap.size + 1) [.int .u64 0, .int .u64 0, .int .u64 0, .int .u64 0, .int .u64 0] 52 ∧ Below w.heap.size w W)) (first | (exact HS1.out) | (first | assumption | (refine hst.out _ _ ?_ hb; assumption) | (refine hst.out _ _ ?_ (Below.alloc' (Below.refl _ _) _); assumption) | (refine hst.out _ _ ?_ (Below.drew (Below.refl _ _)); assumption))) ((first | (go_at_call 63; (with_reducible refine (fmulM hr hr _).mono ?_); rintro e wm ⟨m1, rfl, hm1, hb⟩) | (go_at_call 94; (with_reducible refine (fsameF hm1 hf E1.out _).mono ?_); rintro e ws ⟨rfl, hb⟩)))
  rename_i hh
  have HS2 := Lib.hid (root_drew hh)
  have hh' := Lib.hid hh
  clear hh HS1 hst1 HS2
  have c0 := hh'.out.2.1.1; have c1 := hh'.out.2.1.2.1; have c2 := hh'.out.2.1.2.2.1; have c3 := hh'.out.2.1.2.2.2.1; have c4 := hh'.out.2.1.2.2.2.2
  go_wp2
  go_region_with ((first | (go_at_call 122; (with_reducible refine (fturnM _).mono ?_); rintro e wt ⟨t, rfl, ht, hb⟩; have h2 := Lib.hid (root_keep _ _ (root_drew hh'.out) hb); clear c0 c1 c2 c3 c4 hb; have c0 := h2.out.2.1.1; have c1 := h2.out.2.1.2.1; have c2 := h2.out.2.1.2.2.1; have c3 := h2.out.2.1.2.2.2.1; have c4 := h2.out.2.1.2.2.2.2) | (go_at_call 63; (with_reducible refine (fmulM hr ht _).mono ?_); rintro e wm ⟨q, rfl, hq, hb⟩; have h3 := Lib.hid (root_keep _ _ h2.out hb); clear c0 c1 c2 c3 c4 hb; have c0 := h3.out.2.1.1; have c1 := h3.out.2.1.2.1; have c2 := h3.out.2.1.2.2.1; have c3 := h3.out.2.1.2.2.2.1; have c4 := h3.out.2.1.2.2.2.2; have rf := h3.out.2.2.2.1.frozen)))
  all_goals
   go_wp2
   refine wp_gen (fun W => ((W.cell? ⟨w.heap.size, 0, none⟩ = some (.int .u64 (f 0 : Nat)) ∧ W.cell? ⟨w.heap.size, 1, none⟩ = some (.int .u64 (f 1 : Nat)) ∧ W.cell? ⟨w.heap.size, 2, none⟩ = some (.int .u64 (f 2 : Nat)) ∧ W.cell? ⟨w.heap.size, 3, none⟩ = some (.int .u64 (f 3 : Nat)) ∧ W.cell? ⟨w.heap.size, 4, none⟩ = some (.int .u64 (f 4 : Nat))) ∧ (W.cell? ⟨g, 0, none⟩ = some (.int .u64 (q 0 : Nat)) ∧ W.cell? ⟨g, 1, none⟩ = some (.int .u64 (q 1 : Nat)) ∧ W.cell? ⟨g, 2, none⟩ = some (.int .u64 (q 2 : Nat)) ∧ W.cell? ⟨g, 3, none⟩ = some (.int .u64 (q 3 : Nat)) ∧ W.cell? ⟨g, 4, none⟩ = some (.int .u64 (q 4 : Nat))) ∧ Blk W w.heap.size [.int .u64 (f 0 : Nat), .int .u64 (f 1 : Nat), .int .u64 (f 2 : Nat), .int .u64 (f 3 : Nat), .int .u64 (f 4 : Nat)] 52 ∧ Blk W g [.int .u64 (q 0 : Nat), .int .u64 (q 1 : Nat), .int .u64 (q 2 : Nat), .int .u64 (q 3 : Nat), .int .u64 (q 4 : Nat)] 52 ∧ Blk W (w.heap.size + 1) [.int .u64 0, .int .u64 0, .int .u64 0, .int .u64 0, .int .u64 0] 52 ∧ Below w.heap.size w W)) ?_ (fun W hW => ?_)
   ·have hbel := h3.out.2.2.2.2.2
    exact root_mk (((((h3.out.2.2.1.other ⟨g, 0, none⟩ (by simp; omega) (.int .u64 (q 0 : Nat))).other ⟨g, 1, none⟩ (by simp; omega) (.int .u64 (q 1 : Nat))).other ⟨g, 2, none⟩ (by simp; omega) (.int .u64 (q 2 : Nat))).other ⟨g, 3, none⟩ (by simp; omega) (.int .u64 (q 3 : Nat))).other ⟨g, 4, none⟩ (by simp; omega) (.int .u64 (q 4 : Nat))) (((((h3.out.2.2.2.1.set 0 (.int .u64 (q 0 : Nat))).set 1 (.int .u64 (q 1 : Nat))).set 2 (.int .u64 (q 2 : Nat))).set 3 (.int .u64 (q 3 : Nat))).set 4 (.int .u64 (q 4 : Nat))) (((((h3.out.2.2.2.2.1.other ⟨g, 0, none⟩ (by simp; omega) (.int .u64 (q 0 : Nat))).other ⟨g, 1, none⟩ (by simp; omega) (.int .u64 (q 1 : Nat))).other ⟨g, 2, none⟩ (by simp; omega) (.int .u64 (q 2 : Nat))).other ⟨g, 3, none⟩ (by simp; omega) (.int .u64 (q 3 : Nat))).other ⟨g, 4, none⟩ (by simp; omega) (.int .u64 (q 4 : Nat))) (by exact belowBy)
   clear h2 h3 hh' c0 c1 c2 c3 c4 rf hst
   have HS2 := Lib.hid (root_drew hW)
   clear hW
   have hst1 := Lib.hid (root_keep (f := f) (r := q) (A := w.heap.size) (g := g) (o := w.heap.size + 1) (w := w))
   have hst := hst1
   by_cases e2 : (fpow x exp8 * sqm1) * (fpow x exp8 * sqm1) = x
   ·have E2 := Lib.hid e2
    have HR : Hid (rootC x = 0) := Lib.hid (by unfold rootC; rw [HC.out, if_pos e2])
    clear e2
    generalize fpow x exp8 * sqm1 = y at *
    clear hst1
    go_region_held3 (fun W => ((W.cell? ⟨w.heap.size, 0, none⟩ = some (.int .u64 (f 0 : Nat)) ∧ W.cell? ⟨w.heap.size, 1, none⟩ = some (.int .u64 (f 1 : Nat)) ∧ W.cell? ⟨w.heap.size, 2, none⟩ = some (.int .u64 (f 2 : Nat)) ∧ W.cell? ⟨w.heap.size, 3, none⟩ = some (.int .u64 (f 3 : Nat)) ∧ W.cell? ⟨w.heap.size, 4, none⟩ = some (.int .u64 (f 4 : Nat))) ∧ (W.cell? ⟨g, 0, none⟩ = some (.int .u64 (q 0 : Nat)) ∧ W.cell? ⟨g, 1, none⟩ = some (.int .u64 (q 1 : Nat)) ∧ W.cell? ⟨g, 2, none⟩ = some (.int .u64 (q 2 : Nat)) ∧ W.cell? ⟨g, 3, none⟩ = some (.int .u64 (q 3 : Nat)) ∧ W.cell? ⟨g, 4, none⟩ = some (.int .u64 (q 4 : Nat))) ∧ Blk W w.heap.size [.int .u64 (f 0 : Nat), .int .u64 (f 1 : Nat), .int .u64 (f 2 : Nat), .int .u64 (f 3 : Nat), .int .u64 (f 4 : Nat)] 52 ∧ Blk W g [.int .u64 (q 0 : Nat), .int .u64 (q 1 : Nat), .int .u64 (q 2 : Nat), .int .u64 (q 3 : Nat), .int .u64 (q 4 : Nat)] 52 ∧ Blk W (w.heap.size + 1) [.int .u64 0, .int .u64 0, .int .u64 0, .int .u64 0, .int .u64 0] 52 ∧ Below w.heap.size w W)) (first | (exact HS2.out) | (first | assumption | (refine hst.out _ _ ?_ hb; assumption) | (refine hst.out _ _ ?_ (Below.alloc' (Below.refl _ _) _); assumption) | (refine hst.out _ _ ?_ (Below.drew (Below.refl _ _)); assumption))) ((first | (go_at_call 63; (with_reducible refine (fmulM hq hq _).mono ?_); rintro e wm ⟨m2, rfl, hm2, hb⟩) | (go_at_call 94; (with_reducible refine (fsameT hm2 hf E2.out _).mono ?_); rintro e ws ⟨rfl, hb⟩)))
    rename_i hh
    have hhH := Lib.hid hh
    clear hh hst HS2
    by_cases hp : y.val % 2 = 1
    ·have HV : Hid (rootV x = -y) := Lib.hid (by unfold rootV; rw [HC.out, if_pos E2.out, if_pos hp])
     have HP : Hid (decide (y.val % 2 = 1) = true) := Lib.hid (decide_eq_true hp)
     clear hp
     have c0 := hhH.out.2.1.1; have c1 := hhH.out.2.1.2.1; have c2 := hhH.out.2.1.2.2.1; have c3 := hhH.out.2.1.2.2.2.1; have c4 := hhH.out.2.1.2.2.2.2
     have hne : ¬ g = w.heap.size + 1 := by omega
     have hne2 : ¬ w.heap.size + 1 = g := by omega
     go_wp2_with (first | (go_at_call 65; go_must (refine (foddM hq _).mono ?_; rintro e w2 ⟨rfl, hb⟩; rw [HP.out]; have h2 := Lib.hid (root_keep _ _ hhH.out hb); clear c0 c1 c2 c3 c4 hb; have c0 := h2.out.2.1.1; have c1 := h2.out.2.1.2.1; have c2 := h2.out.2.1.2.2.1; have c3 := h2.out.2.1.2.2.2.1; have c4 := h2.out.2.1.2.2.2.2; have rf := h2.out.2.2.2.1.frozen))             | (go_at_call 97; go_must (refine (fnegM hq _).mono ?_; rintro e w3 ⟨z, rfl, hz, hb⟩; have h3 := root_keep _ _ h2.out hb; have hG := h3.2.2.2.1.frozen; have gc := h3.2.2.2.1.cell; have oc := h3.2.2.2.2.1.cell; have of := h3.2.2.2.2.1.frozen; have hbel := h3.2.2.2.2.2; clear c0 c1 c2 c3 c4 rf hb h2 h3)))
     exact bodyPost_ret (v := .tuple #[.agg #[.int .u64 (z 0 : Nat), .int .u64 (z 1 : Nat), .int .u64 (z 2 : Nat), .int .u64 (z 3 : Nat), .int .u64 (z 4 : Nat)], .int .i64 0]) (by simp [results, Tryz.results93, go_sem, oc]) rfl ⟨z, by rw [HR.out], by rw [HV.out]; exact hz, belowBy⟩
    ·have HV : Hid (rootV x = y) := Lib.hid (by unfold rootV; rw [HC.out, if_pos E2.out, if_neg hp])
     have HP : Hid (decide (y.val % 2 = 1) = false) := Lib.hid (decide_eq_false hp)
     clear hp
     have c0 := hhH.out.2.1.1; have c1 := hhH.out.2.1.2.1; have c2 := hhH.out.2.1.2.2.1; have c3 := hhH.out.2.1.2.2.2.1; have c4 := hhH.out.2.1.2.2.2.2
     have hne : ¬ g = w.heap.size + 1 := by omega
     have hne2 : ¬ w.heap.size + 1 = g := by omega
     go_wp2_with (first | (go_at_call 65; go_must (refine (foddM hq _).mono ?_; rintro e w2 ⟨rfl, hb⟩; rw [HP.out]; have h2 := root_keep _ _ hhH.out hb; clear c0 c1 c2 c3 c4 hb; have gc := h2.2.2.2.1.cell; have oc := h2.2.2.2.2.1.cell; have of := h2.2.2.2.2.1.frozen; have hbel := h2.2.2.2.2.2; clear h2)))
     exact bodyPost_ret (v := .tuple #[.agg #[.int .u64 (q 0 : Nat), .int .u64 (q 1 : Nat), .int .u64 (q 2 : Nat), .int .u64 (q 3 : Nat), .int .u64 (q 4 : Nat)], .int .i64 0]) (by simp [results, Tryz.results93, go_sem, oc]) rfl ⟨q, by rw [HR.out], by rw [HV.out]; exact hq, belowBy⟩
   ·have E2 := Lib.hid e2
    have HR : Hid (rootC x = 7) := Lib.hid (by unfold rootC; rw [HC.out, if_neg e2])
    have HV : Hid (rootV x = 0) := Lib.hid (by unfold rootV; rw [HC.out, if_neg e2])
    clear e2 hst1
    generalize fpow x exp8 * sqm1 = y at *
    go_region_held3 (fun W => ((W.cell? ⟨w.heap.size, 0, none⟩ = some (.int .u64 (f 0 : Nat)) ∧ W.cell? ⟨w.heap.size, 1, none⟩ = some (.int .u64 (f 1 : Nat)) ∧ W.cell? ⟨w.heap.size, 2, none⟩ = some (.int .u64 (f 2 : Nat)) ∧ W.cell? ⟨w.heap.size, 3, none⟩ = some (.int .u64 (f 3 : Nat)) ∧ W.cell? ⟨w.heap.size, 4, none⟩ = some (.int .u64 (f 4 : Nat))) ∧ (W.cell? ⟨g, 0, none⟩ = some (.int .u64 (q 0 : Nat)) ∧ W.cell? ⟨g, 1, none⟩ = some (.int .u64 (q 1 : Nat)) ∧ W.cell? ⟨g, 2, none⟩ = some (.int .u64 (q 2 : Nat)) ∧ W.cell? ⟨g, 3, none⟩ = some (.int .u64 (q 3 : Nat)) ∧ W.cell? ⟨g, 4, none⟩ = some (.int .u64 (q 4 : Nat))) ∧ Blk W w.heap.size [.int .u64 (f 0 : Nat), .int .u64 (f 1 : Nat), .int .u64 (f 2 : Nat), .int .u64 (f 3 : Nat), .int .u64 (f 4 : Nat)] 52 ∧ Blk W g [.int .u64 (q 0 : Nat), .int .u64 (q 1 : Nat), .int .u64 (q 2 : Nat), .int .u64 (q 3 : Nat), .int .u64 (q 4 : Nat)] 52 ∧ Blk W (w.heap.size + 1) [.int .u64 0, .int .u64 0, .int .u64 0, .int .u64 0, .int .u64 0] 52 ∧ Below w.heap.size w W)) (first | (exact HS2.out) | (first | assumption | (refine hst.out _ _ ?_ hb; assumption) | (refine hst.out _ _ ?_ (Below.alloc' (Below.refl _ _) _); assumption) | (refine hst.out _ _ ?_ (Below.drew (Below.refl _ _)); assumption))) ((first | (go_at_call 63; (with_reducible refine (fmulM hq hq _).mono ?_); rintro e wm ⟨m2, rfl, hm2, hb⟩) | (go_at_call 94; (with_reducible refine (fsameF hm2 hf E2.out _).mono ?_); rintro e ws ⟨rfl, hb⟩)))
    rename_i hh
    have oc := hh.2.2.2.2.1.cell; have of := hh.2.2.2.2.1.frozen; have hbel := hh.2.2.2.2.2
    clear hh HS2 hst
    go_wp2
    exact bodyPost_ret (v := .tuple #[.agg #[.int .u64 0, .int .u64 0, .int .u64 0, .int .u64 0, .int .u64 0], .int .i64 7]) (by simp [results, Tryz.results93, go_sem, oc]) rfl ⟨fun _ => 0, by rw [HR.out]; rfl, by rw [HV.out]; exact FF.zero, belowBy⟩
end Go.Proofs.YtielgpefoameiaaGreat
namespace Go.Proofs.YtielgpefoameiaaGreat
open Go Go.RowKit
theorem cSame {v v' : Value} {x y : F} {b : Bool} (hq : decide (x = y) = b) (h : IsFs rE v [x]) (h' : IsFs rE v' [y]) (w : World) :
  Calls Tryz.prog 94 #[v, v'] w fun e w' => e = .returned (.bool b) ∧ Below w.heap.size w w' := by
 obtain ⟨f, rfl, hf⟩ := of_isE h; obtain ⟨g, rfl, hg⟩ := of_isE h'
 subst hq
 exact fsameM hf hg w
theorem cOdd {v : Value} {x : F} {b : Bool} (hq : decide (x.val % 2 = 1) = b) (h : IsFs rE v [x]) (w : World) :
  Calls Tryz.prog 65 #[v] w fun e w' => e = .returned (.bool b) ∧ Below w.heap.size w w' := by
 obtain ⟨f, rfl, hf⟩ := of_isE h
 subst hq
 exact foddM hf w
theorem cPick {v v' : Value} {x y z : F} {b : Bool} (hz : (if b then x else y) = z) (h : IsFs rE v [x]) (h' : IsFs rE v' [y]) (w : World) :
  Calls Tryz.prog 96 #[.bool b, v, v'] w fun e w' => ∃ r, e = .returned r ∧ IsFs rE r [z] ∧ Below w.heap.size w w' := by
 subst hz
 obtain ⟨f, rfl, hf⟩ := of_isE h; obtain ⟨g, rfl, hg⟩ := of_isE h'
 refine (fepick_any b f g w).mono ?_
 rintro e w' ⟨rfl, hb⟩
 cases b
 ·exact ⟨_, rfl, isE hg, hb⟩
 ·exact ⟨_, rfl, isE hf, hb⟩
/-- What reading strictly makes of bytes, and what it tells. -/
def stV (l : List UInt8) : F := if feOk l then feF l else 0
def stC (l : List UInt8) : Int := if feOk l then 0 else 2
theorem cStrict {a : Option Addr} {n cap : Nat} {l : List UInt8} {w : World} (h : RdB w a n cap l) :
  Calls Tryz.prog 88 #[.slice a n cap] w fun e w' => ∃ r, e = .returned (.tuple #[r, .int .i64 (stC l)]) ∧ IsFs rE r [stV l] ∧ Below w.heap.size w w' := by
 by_cases hok : feOk l = true
 ·refine (fstrict_yes w h hok).mono ?_
  rintro e w' ⟨f, rfl, hf, hb⟩
  rw [stC, stV, if_pos hok, if_pos hok]
  exact ⟨_, rfl, isE hf, hb⟩
 ·refine (fstrict_no w h (by simpa using hok)).mono ?_
  rintro e w' ⟨f, rfl, hf, hb⟩
  rw [stC, stV, if_neg hok, if_neg hok]
  exact ⟨_, rfl, isE hf, hb⟩
theorem cRoot {v : Value} {x : F} (h : IsFs rE v [x]) (w : World) :
  Calls Tryz.prog 93 #[v] w fun e w' => ∃ r, e = .returned (.tuple #[r, .int .i64 (rootC x)]) ∧ IsFs rE r [rootV x] ∧ Below w.heap.size w w' := by
 obtain ⟨f, rfl, hf⟩ := of_isE h
 refine (rootM hf w).mono ?_
 rintro e w' ⟨g, rfl, hg, hb⟩
 exact ⟨_, rfl, isE hg, hb⟩
theorem cOf' {a : Option Addr} {n cap : Nat} {l : List UInt8} {x : F} {w : World} (hx : feF l = x) (h : RdB w a n cap l) :
  Calls Tryz.prog 110 #[.slice a n cap] w fun e w' => ∃ r, e = .returned r ∧ IsFs rE r [x] ∧ Below w.heap.size w w' := by subst hx; exact cOf h
theorem cStrict' {a : Option Addr} {n cap : Nat} {l : List UInt8} {x : F} {c : Int} {w : World} (hx : stV l = x) (hc : stC l = c) (h : RdB w a n cap l) :
  Calls Tryz.prog 88 #[.slice a n cap] w fun e w' => ∃ r, e = .returned (.tuple #[r, .int .i64 c]) ∧ IsFs rE r [x] ∧ Below w.heap.size w w' := by subst hx hc; exact cStrict h
end Go.Proofs.YtielgpefoameiaaGreat
