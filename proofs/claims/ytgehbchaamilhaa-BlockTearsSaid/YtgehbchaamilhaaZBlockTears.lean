/- Of chapter 15, BlockTears: for every input the law returns true, and each argument reads behind the call as it read before. No condition. -/
import Derived.Test.YtgehbchaamilhaaZBLB
import Derived.ProofKit
import Derived.ShutString
import Derived.ChangeOld
namespace Go.Proofs.Ytgehbchaamilhaa
open Go Go.ChangeShapes Go.WideShapes Go.ChangeAt Go.RowKit Go.Maps

theorem bRead_zero {w : World} {g : Nat} {d : Bd} {F : Nat → Prop} (h : Dv w g d F) (h0 : 0 < d.good.length) (hN : d.good.length ≤ 100000) : Calls Try.prog 14 #[.pointer (some ⟨g, 0, none⟩), .int .i64 0] w fun e w' => ∃ q, e = .returned (.tuple #[.slice (some ⟨q, 0, none⟩) 64 64, .int .i64 0]) ∧ w.heap.size ≤ q ∧ RdB w' (some ⟨q, 0, none⟩) 64 64 (d.last 0) ∧ Below w.heap.size w w' := bRead_any (k := 0) h h0 hN
theorem rd_drop32 {w : World} {b q n cap : Nat} {l : List UInt8} (h : RdB w (some ⟨b, q, none⟩) n cap l) (hn : 32 ≤ n) : RdB w (some ⟨b, q + 32, none⟩) (n - 32) (cap - 32) (l.drop 32) := by
  refine ⟨by rw [List.length_drop, h.hlen], by have := h.hcap; omega, by have := h.hmax; omega, fun i hi => ?_, fun e => by cases e⟩
  rw [List.length_drop] at hi
  obtain ⟨b', q', e, hc⟩ := h.get (32 + i) (by omega)
  cases e
  exact ⟨b, q + 32, rfl, by rw [List.getElem_drop, Nat.add_assoc]; exact hc⟩
theorem new5_instr {v0 v1 v2 v3 v4 : Value} (h0 : v0.cells = #[v0]) (h1 : v1.cells = #[v1]) (h2 : v2.cells = #[v2]) (h3 : v3.cells = #[v3]) (h4 : v4.cells = #[v4]) (w : World) :
    (Instr.buildSlice 30 5 #[(0, v0), (1, v1), (2, v2), (3, v3), (4, v4)]).run Try.prog w = .ok (.slice (some ⟨w.heap.size, 0, none⟩) 5 5) (w.alloc (.cells #[v0, v1, v2, v3, v4] 26)) := by
  obtain ⟨i, hi, hz, hs, hb⟩ := elR.info
  simp [Instr.buildSlice, Sem.run_bind, run_underlying elR.und, sizeOf, typeInfo, zeroValue, hi, hs, hz, newRow, Instr.fill, h0, h1, h2, h3, h4]
  congr 2
  apply Array.ext
  · simp
  · intro k a b
    simp at b
    rcases k with _ | _ | _ | _ | _ | k <;> first | (simp [Array.getElem_setIfInBounds]; done) | omega
theorem run_new5 {ev : Operand → Value} {o : Oper} {w : World} {x0 x1 x2 x3 x4 : Operand} {v0 v1 v2 v3 v4 : Value} (ho : o.op = .buildSlice 30 5 #[(0, x0), (1, x1), (2, x2), (3, x3), (4, x4)]) (g0 : ev x0 = v0) (g1 : ev x1 = v1) (g2 : ev x2 = v2) (g3 : ev x3 = v3) (g4 : ev x4 = v4)
    (h0 : v0.cells = #[v0]) (h1 : v1.cells = #[v1]) (h2 : v2.cells = #[v2]) (h3 : v3.cells = #[v3]) (h4 : v4.cells = #[v4]) : (execOp ev o).run Try.prog w = .ok (.value (.slice (some ⟨w.heap.size, 0, none⟩) 5 5)) (w.alloc (.cells #[v0, v1, v2, v3, v4] 26)) := by
  have e := new5_instr h0 h1 h2 h3 h4 w
  unfold execOp
  simp [ho, g0, g1, g2, g3, g4, e]
theorem owF_cast {Z : Nat → Prop} {E sz n : Nat} {xs ys : List Value} {S : Nat → Prop} {v : Value} {w : World} (h : ys = xs) (hp : (owF (Z := Z) E sz n xs).P S v w) : (owF (Z := Z) E sz n ys).P S v w := by rw [h]; exact hp
/-- Rows. -/
def rowsF {Z : Nat → Prop} (ls : List (List UInt8)) : FP Z := ⟨none, fun S v w => ∃ (q c : Nat) (ys : List Value), v = .slice (some ⟨q, 0, none⟩) ls.length c ∧ ls.length ≤ c ∧ c ≤ maxLen ∧ S q ∧ ys.length = ls.length ∧ (∀ (i : Nat) (y : Value), ys[i]? = some y → w.cell? ⟨q, i, none⟩ = some y) ∧ ∀ (i : Nat) (y : Value) (l : List UInt8), ys[i]? = some y → ls[i]? = some l → RdZ Z S y w l,
  fun S v w w' ⟨q, c, ys, h1, h2, h3, h4, h5, h6, h7⟩ hf => ⟨q, c, ys, h1, h2, h3, h4, h5, fun i y hy => (hf.cell (p := ⟨q, i, none⟩) (cell_lt (h6 i y hy)) (fun h => h.2 h4)).trans (h6 i y hy), fun i y l hy hl => (h7 i y l hy hl).frame hf (fun _ h => h)⟩⟩
theorem own_RdZ {Z S : Nat → Prop} {w : World} {v : Value} {n : Nat} {l : List UInt8} (h : (owF (Z := Z) 5 1 n (l.map bV)).P S v w) (hl : l.length = n) : RdZ Z S v w l := by
  subst hl
  obtain ⟨a, c, e, hr, hp⟩ := own_rd h.1
  exact ⟨a, _, c, e, hr, fun p e2 => .inl (h.2 _ (hp p e2))⟩
theorem slice_cells {v : Value} {a : Option Addr} {n c : Nat} (h : v = .slice a n c) : v.cells = #[v] := by subst h; rfl
theorem run_assignV {ev : Operand → Value} {o : Oper} {w : World} {x : Operand} {v : Value} (ho : o.op = .assign x) (hx : ev x = v) : (execOp ev o).run Try.prog w = .ok (.value v) w := by
  unfold execOp
  simp [ho, hx]
/-- The tears of two writes. -/
def tears (x y : List UInt8) : List (List UInt8) := [zero64, x.take 32 ++ zero64.drop 32, x, y.take 32 ++ x.drop 32, y]
def trD (x y : List UInt8) : Bd := ((Bd.new 1).write 0 x).write 0 y
theorem trD_eq {x y : List UInt8} (hx : x.length = 64) (hy : y.length = 64) : trD x y = (((Bd.new 1).begin.put 0 x).begin.put 0 y) := by
  have h1 : (Bd.new 1).write 0 x = (Bd.new 1).begin.put 0 x := by
    unfold Bd.write
    rw [if_neg (by rw [hx]; simp [Bd.new])]
    rfl
  unfold trD
  rw [h1]
  unfold Bd.write
  rw [if_neg (by rw [hy]; simp [Bd.new, Bd.put, Bd.begin])]
  rfl
theorem tear_row {x y : List UInt8} {pick : Int} (hx : x.length = 64) (hy : y.length = 64) : ((trD x y).crash [pick]).last 0 = (tears x y).getD (pick % 5).toNat [] := by
  have hl : (trD x y).good.length = 1 := by rw [trD_eq hx hy]; rfl
  have hp : (trD x y).pend 0 = [x, y] := by rw [trD_eq hx hy]; rfl
  have hg : (trD x y).good = [zero64] := by rw [trD_eq hx hy]; rfl
  rw [Bd.crash_last (by rw [hl]; omega), Bd.crashAt_some (by rw [hp]; simp) (by simp), hp]
  have h1 := Int.emod_nonneg pick (show (5 : Int) ≠ 0 by omega)
  have h2 := Int.emod_lt_of_pos pick (show (0 : Int) < 5 by omega)
  have e1 : ([pick].getD ((trD x y).before 0 % [pick].length) 0 % ((2 * [x, y].length + 1 : Nat) : Int)).toNat = (pick % 5).toNat := by
    have : (trD x y).before 0 = 0 := rfl
    rw [this]; rfl
  rw [e1]
  obtain ⟨p, hpp⟩ : ∃ p : Nat, pick % 5 = (p : Int) := ⟨(pick % 5).toNat, by omega⟩
  rw [hpp, Int.toNat_natCast]
  have hp5 : p < 5 := by omega
  have h : p = 0 ∨ p = 1 ∨ p = 2 ∨ p = 3 ∨ p = 4 := by omega
  unfold Bd.crashRow Bd.at tears
  rw [hp, hg]
  rcases h with rfl | rfl | rfl | rfl | rfl <;> rfl
set_option maxRecDepth 100000 in
set_option maxHeartbeats 4000000 in
theorem blockTears_any {a b pick : Int} (w : World) (_ha : (Lit.int .i64 a).wf = true) (_hb : (Lit.int .i64 b).wf = true) (_hp : (Lit.int .i64 pick).wf = true) :
    Calls Try.prog 3 #[.int .i64 a, .int .i64 b, .int .i64 pick] w fun e w' => e = .returned (.bool true) ∧ Below w.heap.size w w' := by
  have HPW := Lib.hid (bounds_i64 _hp)
  have hba : ∀ (k : Int) w, Calls Try.prog 10 #[.int .i64 64, .int .i64 k] w fun e w' => ∃ q, e = .returned (.slice (some ⟨q, 0, none⟩) 64 64) ∧ w.heap.size ≤ q ∧ Blk w' q ((alB 64 k).map bV) 5 ∧ Below w.heap.size w w' := fun k w => alBlock_any (n := 64) (k := k) (by omega)
  have HBA := Lib.hid hba
  obtain ⟨X, hX⟩ : ∃ X, X = alB 64 (a % 100) := ⟨_, rfl⟩
  obtain ⟨Y, hY⟩ : ∃ Y, Y = alB 64 (b % 100) := ⟨_, rfl⟩
  have HX64 : Hid (X.length = 64) := Lib.hid (by rw [hX]; exact alB_len _ _)
  have HY64 : Hid (Y.length = 64) := Lib.hid (by rw [hY]; exact alB_len _ _)
  have HX := Lib.hid hX; have HY := Lib.hid hY
  have HC1 : Hid ((Bd.new 1).writeC 0 X = 0) := Lib.hid (by unfold Bd.writeC; rw [if_neg (by rw [HX64.out]; simp [Bd.new])]; rfl)
  have HC2 : Hid (((Bd.new 1).write 0 X).writeC 0 Y = 0) := Lib.hid (by
    have h1 : (Bd.new 1).write 0 X = (Bd.new 1).begin.put 0 X := by unfold Bd.write; rw [if_neg (by rw [HX64.out]; simp [Bd.new])]; rfl
    rw [h1]; unfold Bd.writeC; rw [if_neg (by rw [HY64.out]; simp [Bd.new, Bd.put, Bd.begin])]; rfl)
  have HL1 : Hid (((Bd.new 1).write 0 X).good.length = 1 ∧ ((Bd.new 1).write 0 X).ops < 1000000 ∧ ((Bd.new 1).write 0 X).left ≤ 9223372036854775807) := Lib.hid (by
    have h1 : (Bd.new 1).write 0 X = (Bd.new 1).begin.put 0 X := by unfold Bd.write; rw [if_neg (by rw [HX64.out]; simp [Bd.new])]; rfl
    rw [h1]; exact ⟨rfl, by show (1 : Nat) < 1000000; omega, by show (0 : Int) ≤ _; omega⟩)
  have HL2 : Hid ((trD X Y).good.length = 1 ∧ (trD X Y).ops < 1000000) := Lib.hid (by rw [trD_eq HX64.out HY64.out]; exact ⟨rfl, by show (2 : Nat) < 1000000; omega⟩)
  clear hX hY hba
  go_enter Try.func3, Try.ntmps3
  go_upto_region 3 with (first
    | (go_at_call 9; (with_reducible refine (bNew_num (n := 1) (by omega) (by omega) (by omega)).mono ?_); rintro e w1 ⟨g, F, rfl, hD, hF, hb1⟩; have HD := Lib.hid hD; have HF := Lib.hid hF; have HB1 := Lib.hid hb1; clear hD hF hb1)
    | (go_at_call 11; (with_reducible refine (alRound_any (n := 100) (by omega) (by omega)).mono ?_); rintro e wz ⟨rfl, rfl⟩)
    | (go_at_call 10; (with_reducible refine (HBA.out (a % 100) w1).mono ?_); rintro e w2 ⟨qx, rfl, hq, hB, hbl⟩; have HQX := Lib.hid hq; have HBX := Lib.hid hB; have HB2 := Lib.hid hbl; clear hq hB hbl)
    | (go_at_call 10; (with_reducible refine (HBA.out (b % 100) _).mono ?_); rintro e w3 ⟨qy, rfl, hq, hB, hbl⟩; have HQY := Lib.hid hq; have HBY := Lib.hid hB; have HB3 := Lib.hid hbl; clear hq hB hbl))
  have HRX0 : Hid (RdB w3 (some ⟨qx, 0, none⟩) 64 64 X) := Lib.hid (by rw [HX.out]; exact ((HBX.out.below HB3.out HBX.out.lt).rd (alB_len _ _) (by unfold maxLen; omega)))
  have HRY0 : Hid (RdB w3 (some ⟨qy, 0, none⟩) 64 64 Y) := Lib.hid (by rw [HY.out]; exact (HBY.out.rd (alB_len _ _) (by unfold maxLen; omega)))
  have HD3 := Lib.hid (HD.out.later (Below.call HB2.out HB3.out))
  have HLX : Hid (w1.heap.size ≤ qx ∧ w1.heap.size ≤ qy ∧ qx < w3.heap.size ∧ qy < w3.heap.size) := Lib.hid ⟨HQX.out, Nat.le_trans HB2.out.size HQY.out, Nat.lt_of_lt_of_le HBX.out.lt HB3.out.size, HBY.out.lt⟩
  have hnq : ∀ {q}, w1.heap.size ≤ q → ∀ p, (some (⟨q, 0, none⟩ : Addr)) = some p → ¬ F p.block := fun {q} hq p hp h => by cases hp; exact absurd (HD.out.lt _ h) (Nat.not_lt.2 hq)
  have HNX := Lib.hid (hnq HLX.out.1); have HNY := Lib.hid (hnq HLX.out.2.1)
  have HNL : Hid ((Bd.new 1).good.length ≤ 100000 ∧ (Bd.new 1).ops < 1000000 ∧ (Bd.new 1).left ≤ 9223372036854775807) := Lib.hid ⟨by show (1 : Nat) ≤ _; omega, by show (0 : Nat) < _; omega, by show (0 : Int) ≤ _; omega⟩
  have hmk := mk64
  clear hnq
  go_upto_region 6 with (first
    | (go_at_call 12; (with_reducible refine (bWrite_any (k := 0) (x := X) HD3.out HNL.out.1 HNL.out.2.1 HNL.out.2.2 HRX0.out HNX.out).mono ?_); rintro e w4 ⟨rfl, F4, hD4, hf4, hF4⟩; rw [HC1.out]; have HD4 := Lib.hid hD4; have HF4 := Lib.hid hF4; have HB4 : Hid (Below w.heap.size w w4) := Lib.hid (by
        have h3 := Below.call (Below.call HB1.out HB2.out) HB3.out
        exact h3.trans (hf4.below h3.size HF.out)); have HR4X := Lib.hid (hf4.rd HRX0.out HNX.out); have HR4Y := Lib.hid (hf4.rd HRY0.out HNY.out); have HS4 : Hid (w3.heap.size ≤ w4.heap.size) := Lib.hid hf4.size; clear hD4 hf4 hF4)
    | (go_at_call 12; (with_reducible refine (bWrite_any (k := 0) (x := Y) HD4.out (by rw [HL1.out.1]; omega) HL1.out.2.1 HL1.out.2.2 HR4Y.out (fun p hp h => by cases hp; rcases HF4.out _ h with h1 | h1; exact absurd (HD.out.lt _ h1) (Nat.not_lt.2 HLX.out.2.1); exact absurd HLX.out.2.2.2 (Nat.not_lt.2 h1))).mono ?_); rintro e w5 ⟨rfl, F5, hD5, hf5, hF5⟩; rw [HC2.out]; have HD5 := Lib.hid hD5; have HB5 : Hid (Below w.heap.size w w5) := Lib.hid (HB4.out.trans (hf5.below HB4.out.size (fun x hx => by rcases HF4.out x hx with h | h; exact HF.out x h; exact Nat.le_trans (Nat.le_trans (Nat.le_trans HB1.out.size HB2.out.size) HB3.out.size) h))); have HR5X : Hid (RdB w5 (some ⟨qx, 0, none⟩) 64 64 X) := Lib.hid (hf5.rd HR4X.out (fun p hp h => by cases hp; rcases HF4.out _ h with h1 | h1; exact absurd (HD.out.lt _ h1) (Nat.not_lt.2 HLX.out.1); exact absurd HLX.out.2.2.1 (Nat.not_lt.2 h1))); have HR5Y : Hid (RdB w5 (some ⟨qy, 0, none⟩) 64 64 Y) := Lib.hid (hf5.rd HR4Y.out (fun p hp h => by cases hp; rcases HF4.out _ h with h1 | h1; exact absurd (HD.out.lt _ h1) (Nat.not_lt.2 HLX.out.2.1); exact absurd HLX.out.2.2.2 (Nat.not_lt.2 h1))); have HS5 : Hid (w3.heap.size ≤ w5.heap.size) := Lib.hid (Nat.le_trans HS4.out hf5.size); clear hD5 hf5 hF5))
  obtain ⟨qz, hqz⟩ : ∃ qz, qz = w5.heap.size := ⟨_, rfl⟩
  refine wp_gen (fun W => Blk W w5.heap.size (zero64.map bV) 5 ∧ Below w5.heap.size w5 W) ⟨by have h := Blk.new w5 (zero64.map bV).toArray 5; rw [List.toList_toArray] at h; exact h, (Below.refl _ _).alloc (Nat.le_refl _) _⟩ (fun w0 hW => ?_)
  obtain ⟨hZ, hb0⟩ := hW
  have HB0 := Lib.hid hb0
  have HDZ : Hid (Dv w0 g (trD X Y) F5) := Lib.hid (HD5.out.later hb0)
  rw [← hqz]
  rw [← hqz] at hZ
  have HRZ : Hid (RdB w0 (some ⟨qz, 0, none⟩) 64 64 zero64) := Lib.hid (hZ.rd rfl (by unfold maxLen; omega))
  have HRX : Hid (RdB w0 (some ⟨qx, 0, none⟩) 64 64 X) := Lib.hid (HR5X.out.below hb0)
  have HRY : Hid (RdB w0 (some ⟨qy, 0, none⟩) 64 64 Y) := Lib.hid (HR5Y.out.below hb0)
  have HLZ : Hid (qz < w0.heap.size ∧ qx < w0.heap.size ∧ qy < w0.heap.size) := Lib.hid ⟨hZ.lt, Nat.lt_of_lt_of_le HLX.out.2.2.1 (Nat.le_trans HS5.out hb0.size), Nat.lt_of_lt_of_le HLX.out.2.2.2 (Nat.le_trans HS5.out hb0.size)⟩
  have HL7 : Hid ((X.take 32 ++ zero64.drop 32).length = 64) := Lib.hid (by rw [List.length_append, List.length_take, List.length_drop, HX64.out, zero64_len]; rfl)
  have HL15 : Hid ((Y.take 32 ++ X.drop 32).length = 64) := Lib.hid (by rw [List.length_append, List.length_take, List.length_drop, HX64.out, HY64.out]; rfl)
  clear hmk hZ hb0 hqz
  refine rgS 18 18 (fun _ => False) [(12, 18), (32, 0), (0, 1), (0, 2), (0, 3), (0, 4), (0, 5), (0, 6), (0, 7), (0, 8), (0, 9), (0, 10), (0, 11), (0, 12), (0, 13), (0, 14), (0, 15), (0, 16), (0, 17)] [kv (.slice (some ⟨qz, 0, none⟩) 64 64), (owF 5 1 0 []), kv (.slice (some ⟨qx, 0, none⟩) 64 64), kv (.slice (some ⟨qx, 0, none⟩) 32 64), (owF 5 1 32 ((X.take 32).map bV)), kv (.slice (some ⟨qz, 0, none⟩) 64 64), kv (.slice (some ⟨qz, 32, none⟩) 32 32), (owF 5 1 64 ((X.take 32 ++ zero64.drop 32).map bV)), kv (.slice (some ⟨qx, 0, none⟩) 64 64), (owF 5 1 0 []), kv (.slice (some ⟨qy, 0, none⟩) 64 64), kv (.slice (some ⟨qy, 0, none⟩) 32 64), (owF 5 1 32 ((Y.take 32).map bV)), kv (.slice (some ⟨qx, 0, none⟩) 64 64), kv (.slice (some ⟨qx, 32, none⟩) 32 32), (owF 5 1 64 ((Y.take 32 ++ X.drop 32).map bV)), kv (.slice (some ⟨qy, 0, none⟩) 64 64), (rowsF (tears X Y))] [none, some 4, none, none, some 7, none, none, some 17, none, some 12, none, none, some 15, none, none, some 17, none, none] (fun v W => ∃ (q c : Nat) (ys : List Value), v = .slice (some ⟨q, 0, none⟩) (tears X Y).length c ∧ (tears X Y).length ≤ c ∧ c ≤ maxLen ∧ ys.length = (tears X Y).length ∧ (∀ (i : Nat) (y : Value), ys[i]? = some y → W.cell? ⟨q, i, none⟩ = some y) ∧ (∀ (i : Nat) (y : Value) (l : List UInt8), ys[i]? = some y → (tears X Y)[i]? = some l → ∃ a n c, y = .slice a n c ∧ RdB W a n c l) ∧ Below w0.heap.size w0 W) ?_ (fun u6 W6 hP hv => ?_)
  · refine ⟨?_, ?_, ?_, ?_, ?_, ?_, ?_, ?_, ?_, ?_, ?_, ?_, ?_, ?_, ?_, ?_, ?_, ?_, ?_, trivial⟩
    · refine ksP (fun _ h => h.elim) (by omega) (.cons (c := 17) (by kernel_rfl) (.one (by kernel_rfl))) (by rfl) (fun L u W gh hc => ?_)
      have hb := hc.before (.inr (.cons (c := 17) (by kernel_rfl) (.one (by kernel_rfl))))
      go_simp
    · refine ksM (fun _ h => h.elim) (by omega) (.cons (c := 17) (by kernel_rfl) (.cons (c := 7) (by kernel_rfl) (.cons (c := 4) (by kernel_rfl) (.one (by kernel_rfl))))) (fun L u W gh hc => ?_)
      have hb := hc.before (.inr (.cons (c := 17) (by kernel_rfl) (.cons (c := 7) (by kernel_rfl) (.cons (c := 4) (by kernel_rfl) (.one (by kernel_rfl))))))
      exact ⟨_, _, fun x => x = W.heap.size, run_new0 elB rfl, (Fr.refl _ _).alloc _, ⟨own_new (xs := []) (by rfl) (by unfold maxLen; omega), fun x hx => by cases hx; rfl⟩, fun x e => (by cases e), fun x hx => .inr (Nat.le_of_eq hx.symm), fun x hx => by subst hx; simp⟩
    · refine ksP (fun _ h => h.elim) (by omega) (.cons (c := 17) (by kernel_rfl) (.cons (c := 7) (by kernel_rfl) (.cons (c := 4) (by kernel_rfl) (.cons (c := 3) (by kernel_rfl) (.one (by kernel_rfl)))))) (by rfl) (fun L u W gh hc => ?_)
      have hb := hc.before (.inr (.cons (c := 17) (by kernel_rfl) (.cons (c := 7) (by kernel_rfl) (.cons (c := 4) (by kernel_rfl) (.cons (c := 3) (by kernel_rfl) (.one (by kernel_rfl)))))))
      go_simp
    · refine ksP (fun _ h => h.elim) (by omega) (.cons (c := 17) (by kernel_rfl) (.cons (c := 7) (by kernel_rfl) (.cons (c := 4) (by kernel_rfl) (.one (by kernel_rfl))))) (by rfl) (fun L u W gh hc => ?_)
      have e2 : u 2 = .slice (some ⟨qx, 0, none⟩) 64 64 := hc.val 2 (by kernel_rfl) (by omega) _ rfl
      have hb := hc.before (.inr (.cons (c := 17) (by kernel_rfl) (.cons (c := 7) (by kernel_rfl) (.cons (c := 4) (by kernel_rfl) (.one (by kernel_rfl))))))
      go_simp
      try rw [if_pos (by omega)]
      try (simp [addr_add]; done)
    · refine ksM (fun _ h => h.elim) (by omega) (.cons (c := 17) (by kernel_rfl) (.cons (c := 7) (by kernel_rfl) (.one (by kernel_rfl)))) (fun L u W gh hc => ?_)
      have t1 := hc.fact 1 (by kernel_rfl) (by omega) (fun t ht => by cases ht; exact hc.free _ (.inl rfl))
      have f1 := hc.foot 1 (by kernel_rfl) (by omega) (fun t ht => by cases ht; exact hc.free _ (.inl rfl))
      have e3 : u 3 = .slice (some ⟨qx, 0, none⟩) 32 64 := hc.val 3 (by kernel_rfl) (by omega) _ rfl
      have hb := hc.before (.inr (.cons (c := 17) (by kernel_rfl) (.cons (c := 7) (by kernel_rfl) (.one (by kernel_rfl)))))
      have hnw := RdB.news (rd_take (HRX.out.below hb) (r := 32) (by omega))
      obtain ⟨v', w', hrun, hf, hP, hS, hlt⟩ := app_res elB t1 hnw.1 hnw.2.1 hnw.2.2 (bytes_one _) (by unfold maxLen; omega) (by omega)
      exact ⟨v', w', fun x => v'.ownBlock = some x, hrun _ _ _ _ rfl rfl (by exact rfl) (by exact e3), hf.mono (fun x hx => .inl ⟨1, by kernel_rfl, by omega, rfl, t1.2 x hx⟩), (by simpa using hP), fun x e => (by cases e), fun x hx => (hS x hx).imp (fun h => ⟨1, by kernel_rfl, by omega, rfl, t1.2 x h⟩) id, hlt⟩
    · refine ksP (fun _ h => h.elim) (by omega) (.cons (c := 17) (by kernel_rfl) (.cons (c := 7) (by kernel_rfl) (.cons (c := 6) (by kernel_rfl) (.one (by kernel_rfl))))) (by rfl) (fun L u W gh hc => ?_)
      have hb := hc.before (.inr (.cons (c := 17) (by kernel_rfl) (.cons (c := 7) (by kernel_rfl) (.cons (c := 6) (by kernel_rfl) (.one (by kernel_rfl))))))
      go_simp
    · refine ksP (fun _ h => h.elim) (by omega) (.cons (c := 17) (by kernel_rfl) (.cons (c := 7) (by kernel_rfl) (.one (by kernel_rfl)))) (by rfl) (fun L u W gh hc => ?_)
      have e5 : u 5 = .slice (some ⟨qz, 0, none⟩) 64 64 := hc.val 5 (by kernel_rfl) (by omega) _ rfl
      have hb := hc.before (.inr (.cons (c := 17) (by kernel_rfl) (.cons (c := 7) (by kernel_rfl) (.one (by kernel_rfl)))))
      go_simp
      try rw [if_pos (by omega)]
      try (simp [addr_add]; done)
    · refine ksM (fun _ h => h.elim) (by omega) (.cons (c := 17) (by kernel_rfl) (.one (by kernel_rfl))) (fun L u W gh hc => ?_)
      have t4 := hc.fact 4 (by kernel_rfl) (by omega) (fun t ht => by cases ht; exact hc.free _ (.inl rfl))
      have f4 := hc.foot 4 (by kernel_rfl) (by omega) (fun t ht => by cases ht; exact hc.free _ (.inl rfl))
      have e6 : u 6 = .slice (some ⟨qz, 32, none⟩) 32 32 := hc.val 6 (by kernel_rfl) (by omega) _ rfl
      have hb := hc.before (.inr (.cons (c := 17) (by kernel_rfl) (.one (by kernel_rfl))))
      have hnw := RdB.news ((by simpa using rd_drop32 (HRZ.out.below hb) (by omega) : RdB W (some ⟨qz, 32, none⟩) 32 32 (zero64.drop 32)))
      obtain ⟨v', w', hrun, hf, hP, hS, hlt⟩ := app_res elB t4 hnw.1 hnw.2.1 hnw.2.2 (bytes_one _) (by unfold maxLen; omega) (by omega)
      exact ⟨v', w', fun x => v'.ownBlock = some x, hrun _ _ _ _ rfl rfl (by exact rfl) (by exact e6), hf.mono (fun x hx => .inl ⟨4, by kernel_rfl, by omega, rfl, t4.2 x hx⟩), (owF_cast List.map_append hP), fun x e => (by cases e), fun x hx => (hS x hx).imp (fun h => ⟨4, by kernel_rfl, by omega, rfl, t4.2 x h⟩) id, hlt⟩
    · refine ksP (fun _ h => h.elim) (by omega) (.cons (c := 17) (by kernel_rfl) (.one (by kernel_rfl))) (by rfl) (fun L u W gh hc => ?_)
      have hb := hc.before (.inr (.cons (c := 17) (by kernel_rfl) (.one (by kernel_rfl))))
      go_simp
    · refine ksM (fun _ h => h.elim) (by omega) (.cons (c := 17) (by kernel_rfl) (.cons (c := 15) (by kernel_rfl) (.cons (c := 12) (by kernel_rfl) (.one (by kernel_rfl))))) (fun L u W gh hc => ?_)
      have hb := hc.before (.inr (.cons (c := 17) (by kernel_rfl) (.cons (c := 15) (by kernel_rfl) (.cons (c := 12) (by kernel_rfl) (.one (by kernel_rfl))))))
      exact ⟨_, _, fun x => x = W.heap.size, run_new0 elB rfl, (Fr.refl _ _).alloc _, ⟨own_new (xs := []) (by rfl) (by unfold maxLen; omega), fun x hx => by cases hx; rfl⟩, fun x e => (by cases e), fun x hx => .inr (Nat.le_of_eq hx.symm), fun x hx => by subst hx; simp⟩
    · refine ksP (fun _ h => h.elim) (by omega) (.cons (c := 17) (by kernel_rfl) (.cons (c := 15) (by kernel_rfl) (.cons (c := 12) (by kernel_rfl) (.cons (c := 11) (by kernel_rfl) (.one (by kernel_rfl)))))) (by rfl) (fun L u W gh hc => ?_)
      have hb := hc.before (.inr (.cons (c := 17) (by kernel_rfl) (.cons (c := 15) (by kernel_rfl) (.cons (c := 12) (by kernel_rfl) (.cons (c := 11) (by kernel_rfl) (.one (by kernel_rfl)))))))
      go_simp
    · refine ksP (fun _ h => h.elim) (by omega) (.cons (c := 17) (by kernel_rfl) (.cons (c := 15) (by kernel_rfl) (.cons (c := 12) (by kernel_rfl) (.one (by kernel_rfl))))) (by rfl) (fun L u W gh hc => ?_)
      have e10 : u 10 = .slice (some ⟨qy, 0, none⟩) 64 64 := hc.val 10 (by kernel_rfl) (by omega) _ rfl
      have hb := hc.before (.inr (.cons (c := 17) (by kernel_rfl) (.cons (c := 15) (by kernel_rfl) (.cons (c := 12) (by kernel_rfl) (.one (by kernel_rfl))))))
      go_simp
      try rw [if_pos (by omega)]
      try (simp [addr_add]; done)
    · refine ksM (fun _ h => h.elim) (by omega) (.cons (c := 17) (by kernel_rfl) (.cons (c := 15) (by kernel_rfl) (.one (by kernel_rfl)))) (fun L u W gh hc => ?_)
      have t9 := hc.fact 9 (by kernel_rfl) (by omega) (fun t ht => by cases ht; exact hc.free _ (.inl rfl))
      have f9 := hc.foot 9 (by kernel_rfl) (by omega) (fun t ht => by cases ht; exact hc.free _ (.inl rfl))
      have e11 : u 11 = .slice (some ⟨qy, 0, none⟩) 32 64 := hc.val 11 (by kernel_rfl) (by omega) _ rfl
      have hb := hc.before (.inr (.cons (c := 17) (by kernel_rfl) (.cons (c := 15) (by kernel_rfl) (.one (by kernel_rfl)))))
      have hnw := RdB.news (rd_take (HRY.out.below hb) (r := 32) (by omega))
      obtain ⟨v', w', hrun, hf, hP, hS, hlt⟩ := app_res elB t9 hnw.1 hnw.2.1 hnw.2.2 (bytes_one _) (by unfold maxLen; omega) (by omega)
      exact ⟨v', w', fun x => v'.ownBlock = some x, hrun _ _ _ _ rfl rfl (by exact rfl) (by exact e11), hf.mono (fun x hx => .inl ⟨9, by kernel_rfl, by omega, rfl, t9.2 x hx⟩), (by simpa using hP), fun x e => (by cases e), fun x hx => (hS x hx).imp (fun h => ⟨9, by kernel_rfl, by omega, rfl, t9.2 x h⟩) id, hlt⟩
    · refine ksP (fun _ h => h.elim) (by omega) (.cons (c := 17) (by kernel_rfl) (.cons (c := 15) (by kernel_rfl) (.cons (c := 14) (by kernel_rfl) (.one (by kernel_rfl))))) (by rfl) (fun L u W gh hc => ?_)
      have hb := hc.before (.inr (.cons (c := 17) (by kernel_rfl) (.cons (c := 15) (by kernel_rfl) (.cons (c := 14) (by kernel_rfl) (.one (by kernel_rfl))))))
      go_simp
    · refine ksP (fun _ h => h.elim) (by omega) (.cons (c := 17) (by kernel_rfl) (.cons (c := 15) (by kernel_rfl) (.one (by kernel_rfl)))) (by rfl) (fun L u W gh hc => ?_)
      have e13 : u 13 = .slice (some ⟨qx, 0, none⟩) 64 64 := hc.val 13 (by kernel_rfl) (by omega) _ rfl
      have hb := hc.before (.inr (.cons (c := 17) (by kernel_rfl) (.cons (c := 15) (by kernel_rfl) (.one (by kernel_rfl)))))
      go_simp
      try rw [if_pos (by omega)]
      try (simp [addr_add]; done)
    · refine ksM (fun _ h => h.elim) (by omega) (.cons (c := 17) (by kernel_rfl) (.one (by kernel_rfl))) (fun L u W gh hc => ?_)
      have t12 := hc.fact 12 (by kernel_rfl) (by omega) (fun t ht => by cases ht; exact hc.free _ (.inl rfl))
      have f12 := hc.foot 12 (by kernel_rfl) (by omega) (fun t ht => by cases ht; exact hc.free _ (.inl rfl))
      have e14 : u 14 = .slice (some ⟨qx, 32, none⟩) 32 32 := hc.val 14 (by kernel_rfl) (by omega) _ rfl
      have hb := hc.before (.inr (.cons (c := 17) (by kernel_rfl) (.one (by kernel_rfl))))
      have hnw := RdB.news ((by simpa using rd_drop32 (HRX.out.below hb) (by omega) : RdB W (some ⟨qx, 32, none⟩) 32 32 (X.drop 32)))
      obtain ⟨v', w', hrun, hf, hP, hS, hlt⟩ := app_res elB t12 hnw.1 hnw.2.1 hnw.2.2 (bytes_one _) (by unfold maxLen; omega) (by omega)
      exact ⟨v', w', fun x => v'.ownBlock = some x, hrun _ _ _ _ rfl rfl (by exact rfl) (by exact e14), hf.mono (fun x hx => .inl ⟨12, by kernel_rfl, by omega, rfl, t12.2 x hx⟩), (owF_cast List.map_append hP), fun x e => (by cases e), fun x hx => (hS x hx).imp (fun h => ⟨12, by kernel_rfl, by omega, rfl, t12.2 x h⟩) id, hlt⟩
    · refine ksP (fun _ h => h.elim) (by omega) (.cons (c := 17) (by kernel_rfl) (.one (by kernel_rfl))) (by rfl) (fun L u W gh hc => ?_)
      have hb := hc.before (.inr (.cons (c := 17) (by kernel_rfl) (.one (by kernel_rfl))))
      go_simp
    · refine ksM (fun _ h => h.elim) (by omega) (.one (by kernel_rfl)) (fun L u W gh hc => ?_)
      have e0 : u 0 = .slice (some ⟨qz, 0, none⟩) 64 64 := hc.val 0 (by kernel_rfl) (by omega) _ rfl
      have t7 := hc.fact 7 (by kernel_rfl) (by omega) (fun t ht => by cases ht; exact hc.free _ (.inl rfl))
      have f7 := hc.foot 7 (by kernel_rfl) (by omega) (fun t ht => by cases ht; exact hc.free _ (.inl rfl))
      have e8 : u 8 = .slice (some ⟨qx, 0, none⟩) 64 64 := hc.val 8 (by kernel_rfl) (by omega) _ rfl
      have t15 := hc.fact 15 (by kernel_rfl) (by omega) (fun t ht => by cases ht; exact hc.free _ (.inl rfl))
      have f15 := hc.foot 15 (by kernel_rfl) (by omega) (fun t ht => by cases ht; exact hc.free _ (.inl rfl))
      have e16 : u 16 = .slice (some ⟨qy, 0, none⟩) 64 64 := hc.val 16 (by kernel_rfl) (by omega) _ rfl
      have hb := hc.before (.inr (.one (by kernel_rfl)))
      obtain ⟨c7, k7, e7, _⟩ := own_isSlice t7.1
      obtain ⟨c15, k15, e15, _⟩ := own_isSlice t15.1
      have hal := (Fr.refl (fun _ => False) W).alloc (.cells #[u 0, u 7, u 8, u 15, u 16] 26)
      have hX : ∀ {v q l}, v = Value.slice (some ⟨q, 0, none⟩) 64 64 → RdB w0 (some ⟨q, 0, none⟩) 64 64 l → q < w0.heap.size → RdZ (zone (fun _ => False) w0.heap.size) (fun x => gh 7 x ∨ gh 15 x ∨ x = W.heap.size) v (W.alloc (.cells #[u 0, u 7, u 8, u 15, u 16] 26)) l := fun {v q l} hv hr hq => ⟨_, _, _, hv, (hr.below hb).below ((Below.refl _ _).alloc (Nat.le_refl _) _), fun p hp => .inr (fun hz => by cases hp; rcases hz with h | h; exact h; exact absurd hq (Nat.not_lt.2 h))⟩
      have hO : ∀ {j v l}, (owF (Z := zone (fun _ => False) w0.heap.size) 5 1 64 (l.map bV)).P (gh j) v W → l.length = 64 → (∀ x, gh j x → gh 7 x ∨ gh 15 x ∨ x = W.heap.size) → RdZ (zone (fun _ => False) w0.heap.size) (fun x => gh 7 x ∨ gh 15 x ∨ x = W.heap.size) v (W.alloc (.cells #[u 0, u 7, u 8, u 15, u 16] 26)) l := fun {j v l} ho hl hj => own_RdZ ⟨own_frame ho.1 hal (fun _ _ h => h), fun x hx => hj x (ho.2 x hx)⟩ hl
      refine ⟨_, _, fun x => gh 7 x ∨ gh 15 x ∨ x = W.heap.size, run_new5 (v0 := u 0) (v1 := u 7) (v2 := u 8) (v3 := u 15) (v4 := u 16) rfl rfl rfl rfl rfl rfl (slice_cells e0) (slice_cells e7) (slice_cells e8) (slice_cells e15) (slice_cells e16), (Fr.refl _ _).alloc _, ⟨W.heap.size, 5, [u 0, u 7, u 8, u 15, u 16], rfl, Nat.le_refl _, by unfold maxLen; omega, .inr (.inr rfl), rfl, fun i y hy => ?_, fun i y l hy hl => ?_⟩, fun x e => (by cases e), fun x hx => ?_, fun x hx => ?_⟩
      · have hB := Blk.new W #[u 0, u 7, u 8, u 15, u 16] 26
        rw [hB.cell]; exact hy
      · have h5 : i < 5 := by have := (List.getElem?_eq_some_iff.1 hy).1; simpa using this
        rcases i with _ | _ | _ | _ | _ | i
        · simp [tears] at hy hl; subst hy; subst hl; exact hX e0 HRZ.out HLZ.out.1
        · simp [tears] at hy hl; subst hy; subst hl; exact hO (j := 7) t7 HL7.out (fun x hx => .inl hx)
        · simp [tears] at hy hl; subst hy; subst hl; exact hX e8 HRX.out HLZ.out.2.1
        · simp [tears] at hy hl; subst hy; subst hl; exact hO (j := 15) t15 HL15.out (fun x hx => .inr (.inl hx))
        · simp [tears] at hy hl; subst hy; subst hl; exact hX e16 HRY.out HLZ.out.2.2
        · omega
      · rcases hx with h | h | h
        · exact .inl ⟨7, by kernel_rfl, by omega, rfl, h⟩
        · exact .inl ⟨15, by kernel_rfl, by omega, rfl, h⟩
        · exact .inr (Nat.le_of_eq h.symm)
      · rcases hx with h | h | rfl
        · have := (f7 x h).2; simp; omega
        · have := (f15 x h).2; simp; omega
        · simp
    · refine ksL fun L u W gh hc => ?_
      have t17 := hc.fact 17 (by kernel_rfl) (by omega) (fun t ht => by cases ht)
      have f17 := hc.foot 17 (by kernel_rfl) (by omega) (fun t ht => by cases ht)
      have hb := hc.before (.inl rfl)
      obtain ⟨q, c, ys, h1, h2, h3, _, h5, h6, h7⟩ := t17
      refine ⟨_, u 17, W, run_assignV rfl rfl, .inr rfl, q, c, ys, h1, h2, h3, h5, h6, fun i y l hy hl => ?_, hc.old (hc.free 18 (.inl rfl))⟩
      obtain ⟨a, n, c, e, hr, _⟩ := h7 i y l hy hl
      exact ⟨a, n, c, e, hr⟩
  obtain ⟨qt, ct, yt, h1, h2, h3, h5, h6, h7, hb6⟩ := hP
  have HB6 := Lib.hid hb6; have H6 := Lib.hid h6; have H7 := Lib.hid h7; have HY5 := Lib.hid h5
  have HT5 : Hid ((tears X Y).length = 5) := Lib.hid rfl
  rw [h1]
  clear h1 h2 h3 h5 h6 h7 hb6 hv
  have hi1 := ints1
  obtain ⟨r, hr⟩ : ∃ r : Nat, pick % 5 = (r : Int) := ⟨(pick % 5).toNat, by omega⟩
  have HR := Lib.hid hr
  have HR5 : Hid (r < 5) := Lib.hid (by omega)
  clear hr
  go_upto_region 11 with (first
    | (go_at_call 13; (with_reducible refine (bCrash_any (picks := [pick]) ((HDZ.out.later HB6.out).later ((Below.refl _ _).alloc (Nat.le_refl _) (.cells #[.int .i64 pick] 3))) (by rw [HL2.out.1]; omega) (by rw [HL2.out.1]; omega) HL2.out.2 (RdI.blk (n := 1) (cap := 1) (l := [pick]) [] (Blk.new W6 #[.int .i64 pick] 3) rfl (by omega) (by unfold maxLen; omega) (by intro x hx; simp at hx; subst hx; exact HPW.out))).mono ?_); rintro e w8 ⟨gc, Fc, rfl, hD8, _, hb8⟩; have HD8 := Lib.hid hD8; have HB8 : Hid (Below W6.heap.size W6 w8) := Lib.hid (Below.call ((Below.refl _ _).alloc (Nat.le_refl _) (.cells #[.int .i64 pick] 3)) hb8); clear hD8 hb8)
    | (go_at_call 14; (with_reducible refine (bRead_zero HD8.out (by rw [Bd.crash_len, HL2.out.1]; omega) (by rw [Bd.crash_len, HL2.out.1]; omega)).mono ?_); rintro e w9 ⟨q9, rfl, _, hR9, hb9⟩))
  have HR9 : Hid (RdB w9 (some ⟨q9, 0, none⟩) 64 64 ((tears X Y).getD r [])) := Lib.hid (by
    have := hR9
    rw [tear_row HX64.out HY64.out, HR.out] at this
    exact this)
  have HB9 := Lib.hid (Below.call HB8.out hb9)
  obtain ⟨yv, hyv⟩ : ∃ yv, yt[r]? = some yv := ⟨_, List.getElem?_eq_getElem (by rw [HY5.out, HT5.out]; exact HR5.out)⟩
  obtain ⟨Lr, hL⟩ : ∃ Lr, (tears X Y)[r]? = some Lr := ⟨_, List.getElem?_eq_getElem (by rw [HT5.out]; exact HR5.out)⟩
  obtain ⟨va, vn, vc, rfl, hvr⟩ := H7.out r _ Lr hyv hL
  have hcv := H6.out r _ hyv
  have hr9 : RdB w9 (some ⟨q9, 0, none⟩) 64 64 Lr := by
    have := HR9.out
    rw [List.getD_eq_getElem?_getD, hL] at this
    exact this
  have HR9 := Lib.hid hr9
  have HVR := Lib.hid (hvr.below HB9.out)
  have HCV : Hid (w9.cell? ⟨qt, r, none⟩ = some (.slice va vn vc) ∧ qt < w9.heap.size) := Lib.hid ⟨(HB9.out.cell (p := ⟨qt, r, none⟩) (cell_lt hcv)).trans hcv, Nat.lt_of_lt_of_le (cell_lt hcv) HB9.out.size⟩
  have hri0 : (0 : Int) ≤ (r : Int) := by omega
  have hri1 : (r : Int) < ((tears X Y).length : Int) := by rw [HT5.out]; have := HR5.out; omega
  have yb : (bs Lr == bs Lr) = true := by rw [bs_beq]; simp
  clear hyv hL hvr hcv hr9 hR9 hb9
  refine rgS 16 16 (fun _ => False) [(6, 16), (67, 0), (0, 1), (0, 2), (0, 3), (0, 4), (0, 5), (0, 6), (0, 7), (0, 8), (0, 9), (0, 10), (0, 11), (0, 12), (0, 13), (0, 14), (0, 15)] [kv (.int .i64 0), kv (.bool true), kv (.bool true), kv (.slice (some ⟨q9, 0, none⟩) 64 64), kv (.string (bs Lr)), kv (.slice (some ⟨qt, 0, none⟩) (tears X Y).length ct), kv (.int .i64 pick), kv (.int .i64 (r : Int)), kv (.pointer (some ⟨qt, r, none⟩)), kv (.slice va vn vc), kv (.string (bs Lr)), kv (.bool true), kv (.bool true), kv (.bool true), kv (.bool true), kv (.bool true)] [none, none, none, none, none, none, none, none, none, none, none, none, none, none, none, none] (fun v W => v = .bool true ∧ Below w9.heap.size w9 W) ?_ (fun u12 W12 hP hv => ?_)
  · refine ⟨?_, ?_, ?_, ?_, ?_, ?_, ?_, ?_, ?_, ?_, ?_, ?_, ?_, ?_, ?_, ?_, ?_, trivial⟩
    · refine ksP (fun _ h => h.elim) (by omega) (.cons (c := 15) (by kernel_rfl) (.cons (c := 13) (by kernel_rfl) (.cons (c := 12) (by kernel_rfl) (.cons (c := 2) (by kernel_rfl) (.cons (c := 1) (by kernel_rfl) (.one (by kernel_rfl))))))) (by rfl) (fun L u W gh hc => ?_)
      have hb := hc.before (.inr (.cons (c := 15) (by kernel_rfl) (.cons (c := 13) (by kernel_rfl) (.cons (c := 12) (by kernel_rfl) (.cons (c := 2) (by kernel_rfl) (.cons (c := 1) (by kernel_rfl) (.one (by kernel_rfl))))))))
      go_simp
    · refine ksP (fun _ h => h.elim) (by omega) (.cons (c := 15) (by kernel_rfl) (.cons (c := 13) (by kernel_rfl) (.cons (c := 12) (by kernel_rfl) (.cons (c := 2) (by kernel_rfl) (.one (by kernel_rfl)))))) (by rfl) (fun L u W gh hc => ?_)
      have e0 : u 0 = .int .i64 0 := hc.val 0 (by kernel_rfl) (by omega) _ rfl
      have hb := hc.before (.inr (.cons (c := 15) (by kernel_rfl) (.cons (c := 13) (by kernel_rfl) (.cons (c := 12) (by kernel_rfl) (.cons (c := 2) (by kernel_rfl) (.one (by kernel_rfl)))))))
      go_simp
    · refine ksP (fun _ h => h.elim) (by omega) (.cons (c := 15) (by kernel_rfl) (.cons (c := 13) (by kernel_rfl) (.cons (c := 12) (by kernel_rfl) (.one (by kernel_rfl))))) (by rfl) (fun L u W gh hc => ?_)
      have e1 : u 1 = .bool true := hc.val 1 (by kernel_rfl) (by omega) _ rfl
      have hb := hc.before (.inr (.cons (c := 15) (by kernel_rfl) (.cons (c := 13) (by kernel_rfl) (.cons (c := 12) (by kernel_rfl) (.one (by kernel_rfl))))))
      go_simp
    · refine ksP (fun _ h => h.elim) (by omega) (.cons (c := 15) (by kernel_rfl) (.cons (c := 13) (by kernel_rfl) (.cons (c := 12) (by kernel_rfl) (.cons (c := 11) (by kernel_rfl) (.cons (c := 4) (by kernel_rfl) (.one (by kernel_rfl))))))) (by rfl) (fun L u W gh hc => ?_) (Gd.on 2 rfl (by kernel_rfl) (by omega) rfl (fun _ => rfl))
      have e2 : u 2 = .bool true := hc.val 2 (by kernel_rfl) (by omega) _ rfl
      have hb := hc.before (.inr (.cons (c := 15) (by kernel_rfl) (.cons (c := 13) (by kernel_rfl) (.cons (c := 12) (by kernel_rfl) (.cons (c := 11) (by kernel_rfl) (.cons (c := 4) (by kernel_rfl) (.one (by kernel_rfl))))))))
      go_simp
    · refine ksP (fun _ h => h.elim) (by omega) (.cons (c := 15) (by kernel_rfl) (.cons (c := 13) (by kernel_rfl) (.cons (c := 12) (by kernel_rfl) (.cons (c := 11) (by kernel_rfl) (.one (by kernel_rfl)))))) (by rfl) (fun L u W gh hc => ?_) (Gd.on 2 rfl (by kernel_rfl) (by omega) rfl (fun _ => rfl))
      have e2 : u 2 = .bool true := hc.val 2 (by kernel_rfl) (by omega) _ rfl
      have e3 : u 3 = .slice (some ⟨q9, 0, none⟩) 64 64 := hc.val 3 (by kernel_rfl) (by omega) _ rfl
      have hb := hc.before (.inr (.cons (c := 15) (by kernel_rfl) (.cons (c := 13) (by kernel_rfl) (.cons (c := 12) (by kernel_rfl) (.cons (c := 11) (by kernel_rfl) (.one (by kernel_rfl)))))))
      have hcv := conv_any (HR9.out.below hb)
      go_simp
    · refine ksP (fun _ h => h.elim) (by omega) (.cons (c := 15) (by kernel_rfl) (.cons (c := 13) (by kernel_rfl) (.cons (c := 12) (by kernel_rfl) (.cons (c := 11) (by kernel_rfl) (.cons (c := 10) (by kernel_rfl) (.cons (c := 9) (by kernel_rfl) (.cons (c := 8) (by kernel_rfl) (.one (by kernel_rfl))))))))) (by rfl) (fun L u W gh hc => ?_) (Gd.on 2 rfl (by kernel_rfl) (by omega) rfl (fun _ => rfl))
      have e2 : u 2 = .bool true := hc.val 2 (by kernel_rfl) (by omega) _ rfl
      have hb := hc.before (.inr (.cons (c := 15) (by kernel_rfl) (.cons (c := 13) (by kernel_rfl) (.cons (c := 12) (by kernel_rfl) (.cons (c := 11) (by kernel_rfl) (.cons (c := 10) (by kernel_rfl) (.cons (c := 9) (by kernel_rfl) (.cons (c := 8) (by kernel_rfl) (.one (by kernel_rfl))))))))))
      go_simp
    · refine ksP (fun _ h => h.elim) (by omega) (.cons (c := 15) (by kernel_rfl) (.cons (c := 13) (by kernel_rfl) (.cons (c := 12) (by kernel_rfl) (.cons (c := 11) (by kernel_rfl) (.cons (c := 10) (by kernel_rfl) (.cons (c := 9) (by kernel_rfl) (.cons (c := 8) (by kernel_rfl) (.cons (c := 7) (by kernel_rfl) (.one (by kernel_rfl)))))))))) (by rfl) (fun L u W gh hc => ?_) (Gd.on 2 rfl (by kernel_rfl) (by omega) rfl (fun _ => rfl))
      have e2 : u 2 = .bool true := hc.val 2 (by kernel_rfl) (by omega) _ rfl
      have hb := hc.before (.inr (.cons (c := 15) (by kernel_rfl) (.cons (c := 13) (by kernel_rfl) (.cons (c := 12) (by kernel_rfl) (.cons (c := 11) (by kernel_rfl) (.cons (c := 10) (by kernel_rfl) (.cons (c := 9) (by kernel_rfl) (.cons (c := 8) (by kernel_rfl) (.cons (c := 7) (by kernel_rfl) (.one (by kernel_rfl)))))))))))
      go_simp
    · refine ksC (fun _ h => h.elim) (by omega) (.cons (c := 15) (by kernel_rfl) (.cons (c := 13) (by kernel_rfl) (.cons (c := 12) (by kernel_rfl) (.cons (c := 11) (by kernel_rfl) (.cons (c := 10) (by kernel_rfl) (.cons (c := 9) (by kernel_rfl) (.cons (c := 8) (by kernel_rfl) (.one (by kernel_rfl))))))))) (fun L u W gh hc K hK => ?_) (Gd.on 2 rfl (by kernel_rfl) (by omega) rfl (fun _ => rfl))
      have e2 : u 2 = .bool true := hc.val 2 (by kernel_rfl) (by omega) _ rfl
      have e6 : u 6 = .int .i64 pick := hc.val 6 (by kernel_rfl) (by omega) _ rfl
      have hb := hc.before (.inr (.cons (c := 15) (by kernel_rfl) (.cons (c := 13) (by kernel_rfl) (.cons (c := 12) (by kernel_rfl) (.cons (c := 11) (by kernel_rfl) (.cons (c := 10) (by kernel_rfl) (.cons (c := 9) (by kernel_rfl) (.cons (c := 8) (by kernel_rfl) (.one (by kernel_rfl))))))))))
      go_simp
      go_at_call 11
      (with_reducible refine (alRound_any (n := 5) (by omega) (by omega)).mono ?_); rintro e wz ⟨rfl, rfl⟩
      rw [HR.out]
      have hk9 := hK.out (.int .i64 (r : Int)) _ (fun _ => False) (Fr.refl _ _) rfl (fun x e => (by cases e; rfl)) (fun _ h => h.elim) (fun _ h => h.elim)
      first | exact hk9 | (simp only [e2, e6] at hk9; exact hk9)
    · refine ksP (fun _ h => h.elim) (by omega) (.cons (c := 15) (by kernel_rfl) (.cons (c := 13) (by kernel_rfl) (.cons (c := 12) (by kernel_rfl) (.cons (c := 11) (by kernel_rfl) (.cons (c := 10) (by kernel_rfl) (.cons (c := 9) (by kernel_rfl) (.one (by kernel_rfl)))))))) (by rfl) (fun L u W gh hc => ?_) (Gd.on 2 rfl (by kernel_rfl) (by omega) rfl (fun _ => rfl))
      have e2 : u 2 = .bool true := hc.val 2 (by kernel_rfl) (by omega) _ rfl
      have e5 : u 5 = .slice (some ⟨qt, 0, none⟩) (tears X Y).length ct := hc.val 5 (by kernel_rfl) (by omega) _ rfl
      have e7 : u 7 = .int .i64 (r : Int) := hc.val 7 (by kernel_rfl) (by omega) _ rfl
      have hb := hc.before (.inr (.cons (c := 15) (by kernel_rfl) (.cons (c := 13) (by kernel_rfl) (.cons (c := 12) (by kernel_rfl) (.cons (c := 11) (by kernel_rfl) (.cons (c := 10) (by kernel_rfl) (.cons (c := 9) (by kernel_rfl) (.one (by kernel_rfl)))))))))
      go_simp
      try rw [if_pos (by omega)]
      try (simp [addr_add]; done)
    · refine ksP (fun _ h => h.elim) (by omega) (.cons (c := 15) (by kernel_rfl) (.cons (c := 13) (by kernel_rfl) (.cons (c := 12) (by kernel_rfl) (.cons (c := 11) (by kernel_rfl) (.cons (c := 10) (by kernel_rfl) (.one (by kernel_rfl))))))) (by rfl) (fun L u W gh hc => ?_) (Gd.on 2 rfl (by kernel_rfl) (by omega) rfl (fun _ => rfl))
      have e2 : u 2 = .bool true := hc.val 2 (by kernel_rfl) (by omega) _ rfl
      have e8 : u 8 = .pointer (some ⟨qt, r, none⟩) := hc.val 8 (by kernel_rfl) (by omega) _ rfl
      have hb := hc.before (.inr (.cons (c := 15) (by kernel_rfl) (.cons (c := 13) (by kernel_rfl) (.cons (c := 12) (by kernel_rfl) (.cons (c := 11) (by kernel_rfl) (.cons (c := 10) (by kernel_rfl) (.one (by kernel_rfl))))))))
      have hcv := (hb.cell (p := ⟨qt, r, none⟩) HCV.out.2).trans HCV.out.1
      go_simp
    · refine ksP (fun _ h => h.elim) (by omega) (.cons (c := 15) (by kernel_rfl) (.cons (c := 13) (by kernel_rfl) (.cons (c := 12) (by kernel_rfl) (.cons (c := 11) (by kernel_rfl) (.one (by kernel_rfl)))))) (by rfl) (fun L u W gh hc => ?_) (Gd.on 2 rfl (by kernel_rfl) (by omega) rfl (fun _ => rfl))
      have e2 : u 2 = .bool true := hc.val 2 (by kernel_rfl) (by omega) _ rfl
      have e9 : u 9 = .slice va vn vc := hc.val 9 (by kernel_rfl) (by omega) _ rfl
      have hb := hc.before (.inr (.cons (c := 15) (by kernel_rfl) (.cons (c := 13) (by kernel_rfl) (.cons (c := 12) (by kernel_rfl) (.cons (c := 11) (by kernel_rfl) (.one (by kernel_rfl)))))))
      have hcv := conv_any (HVR.out.below hb)
      go_simp
    · refine ksP (fun _ h => h.elim) (by omega) (.cons (c := 15) (by kernel_rfl) (.cons (c := 13) (by kernel_rfl) (.cons (c := 12) (by kernel_rfl) (.one (by kernel_rfl))))) (by rfl) (fun L u W gh hc => ?_) (Gd.on 2 rfl (by kernel_rfl) (by omega) rfl (fun _ => rfl))
      have e2 : u 2 = .bool true := hc.val 2 (by kernel_rfl) (by omega) _ rfl
      have e4 : u 4 = .string (bs Lr) := hc.val 4 (by kernel_rfl) (by omega) _ rfl
      have e10 : u 10 = .string (bs Lr) := hc.val 10 (by kernel_rfl) (by omega) _ rfl
      have hb := hc.before (.inr (.cons (c := 15) (by kernel_rfl) (.cons (c := 13) (by kernel_rfl) (.cons (c := 12) (by kernel_rfl) (.one (by kernel_rfl))))))
      go_simp
    · refine ksP (fun _ h => h.elim) (by omega) (.cons (c := 15) (by kernel_rfl) (.cons (c := 13) (by kernel_rfl) (.one (by kernel_rfl)))) (by rfl) (fun L u W gh hc => ?_)
      have e2 : u 2 = .bool true := hc.val 2 (by kernel_rfl) (by omega) _ rfl
      have e11 : u 11 = .bool true := hc.val 11 (by kernel_rfl) (by omega) _ rfl
      have hb := hc.before (.inr (.cons (c := 15) (by kernel_rfl) (.cons (c := 13) (by kernel_rfl) (.one (by kernel_rfl)))))
      go_simp
    · refine ksP (fun _ h => h.elim) (by omega) (.cons (c := 15) (by kernel_rfl) (.one (by kernel_rfl))) (by rfl) (fun L u W gh hc => ?_)
      have e12 : u 12 = .bool true := hc.val 12 (by kernel_rfl) (by omega) _ rfl
      have hb := hc.before (.inr (.cons (c := 15) (by kernel_rfl) (.one (by kernel_rfl))))
      go_simp
    · refine ksC (fun _ h => h.elim) (by omega) (.cons (c := 15) (by kernel_rfl) (.one (by kernel_rfl))) (fun L u W gh hc K hK => ?_) (Gd.on 13 rfl (by kernel_rfl) (by omega) rfl (fun _ => rfl))
      have e13 : u 13 = .bool true := hc.val 13 (by kernel_rfl) (by omega) _ rfl
      have hb := hc.before (.inr (.cons (c := 15) (by kernel_rfl) (.one (by kernel_rfl))))
      go_simp
      go_at_call 15
      (with_reducible refine (bAwake_any _).mono ?_); rintro e wz ⟨rfl, hbz⟩
      have hk9 := hK.out (.bool true) _ (fun _ => False) (Fr.of_below hbz) rfl (fun x e => (by cases e; rfl)) (fun _ h => h.elim) (fun _ h => h.elim)
      first | exact hk9 | (simp only [e13] at hk9; exact hk9)
    · refine ksP (fun _ h => h.elim) (by omega) (.one (by kernel_rfl)) (by rfl) (fun L u W gh hc => ?_)
      have e13 : u 13 = .bool true := hc.val 13 (by kernel_rfl) (by omega) _ rfl
      have e14 : u 14 = .bool true := hc.val 14 (by kernel_rfl) (by omega) _ rfl
      have hb := hc.before (.inr (.one (by kernel_rfl)))
      go_simp
    · refine ksL fun L u W gh hc => ?_
      have e15 : u 15 = .bool true := hc.val 15 (by kernel_rfl) (by omega) _ rfl
      have hb := hc.before (.inl rfl)
      exact ⟨_, .bool true, W, run_assignV rfl (by exact e15), .inr rfl, rfl, hc.old (hc.free 16 (.inl rfl))⟩
  obtain ⟨hv6, hb12⟩ := hP
  have HE := Lib.hid (Below.call HB9.out hb12)
  clear hb12 hv
  go_wp2
  go_ret
  have h0 := (HB5.out.trans ((HB0.out).mono HB5.out.size))
  have h1 := Below.call h0 HB6.out
  exact ⟨congrArg Ending.returned hv6, Below.call h1 HE.out⟩
namespace blockTearsDone
theorem own : ownKnob Try.prog.godebug = none := by kernel_rfl
theorem laidOut : laidOutB Try.prog = true := by kernel_rfl
set_option maxRecDepth 100000 in
theorem lifted (os : Os) (started : os.Started) (H : Type) (enc : TypeId × Value → H) :
    ReturnsInHanded {} Try.checked os 3 .any (Rows.blockTearsSpec.pre6 enc Try.prog Try.f3 Rows.blockTearsRow.domain false) (Rows.blockTearsSpec.post enc Try.prog Try.f3 false true false false) := by
  refine returnsInHanded_of_change (C := Try.checked) own started (by kernel_rfl) Try.func3
    (ChangeSpec.witness6 (enc := enc) (C := Try.checked) false ⟨#[], #[.int .i64 0, .int .i64 0, .int .i64 0], []⟩ 8 (by kernel_rfl) (by kernel_rfl) (by kernel_rfl) (by kernel_rfl)) ?_
  intro W base args ds gs before hval0 hW hcnd _
  have hval : ∀ (j : Nat) t v, Try.f3.params[j]? = some t → args[j]? = some v → Value.okWide Try.prog W .any base t v := hval0
  have hW' := hW
  obtain ⟨p, q, hA0, hV, rfl, hfz, hnd⟩ := hW
  have hA : DataW.TrodAll enc Try.prog W 0 (fun _ => true) true Try.f3.params.toList args.toList ds p := hA0
  rw [Try.params3] at hA hval
  obtain ⟨v0, vs0, d0, ds0, p0, q0, hargs, rfl, rfl, h0, r0⟩ := trodAll_cons hA
  obtain ⟨v1, vs1, d1, ds1, p1, q1, rfl, rfl, rfl, h1, r1⟩ := trodAll_cons r0
  obtain ⟨v2, vs2, d2, ds2, p2, q2, rfl, rfl, rfl, h2, r2⟩ := trodAll_cons r1
  obtain ⟨rfl, rfl, rfl⟩ := trodAll_nil r2
  obtain rfl : args = #[v0, v1, v2] := by cases args; simp_all
  obtain ⟨rfl, rfl⟩ := trodVars_none hV
  obtain ⟨a0, rfl, rfl, rfl, w0⟩ := open_int Try.underlying3 (hval 0 3 v0 rfl rfl) h0
  obtain ⟨a1, rfl, rfl, rfl, w1⟩ := open_int Try.underlying3 (hval 1 3 v1 rfl rfl) h1
  obtain ⟨a2, rfl, rfl, rfl, w2⟩ := open_int Try.underlying3 (hval 2 3 v2 rfl rfl) h2
  clear hA0 hval0
  refine (blockTears_any W w0 w1 w2).mono fun e W' ⟨he, bel⟩ => ?_
  subst he
  exact ⟨_, rfl, _, _, _, [], _, [], hW', trodAll_mk1 (shut_bool Try.underlying4 _), (trodAll_cons_mk (shut_int Try.underlying3 w0) (trodAll_cons_mk (shut_int Try.underlying3 w1) (trodAll_cons_mk (shut_int Try.underlying3 w2) trodAll_mk0))), rfl, bel.frame _, fun h => by cases h⟩
theorem over : Rows.blockTearsRow.holds Try.pinned (OpenSpec.ofChange Rows.blockTearsSpec) :=
  OpenClaim.holds_of_wide 3 Try.f3 rfl rfl rfl rfl rfl rfl rfl ⟨rfl, rfl, rfl, rfl, rfl⟩ rfl rfl rfl rfl rfl (by kernel_rfl) Try.func3 (by kernel_rfl)
    (of_decide_eq_true (by kernel_rfl)) (by unfold Func.isWrapper; first | (rw [if_pos (by decide +kernel)]; kernel_rfl) | (rw [if_neg (by decide +kernel)]; exact ⟨rfl, rfl⟩))
    (fun os started H enc _ => lifted os started H enc)
theorem proved : Rows.BlockTearsSaid := over
#print axioms proved
end blockTearsDone

end Go.Proofs.Ytgehbchaamilhaa
