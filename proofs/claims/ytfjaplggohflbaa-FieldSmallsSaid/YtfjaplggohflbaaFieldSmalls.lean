/- Of chapter 5, FieldSmalls: for every input the law returns true, and each argument reads behind the call as it read before. No condition. -/
import Derived.Test.YtfjaplggohflbaaFaw
import Derived.ProofKit
import Derived.ShutString
import Derived.ChangeOld
namespace Go.Proofs.Ytfjaplggohflbaa
open Go.ChangeShapes Go.WideShapes Go.ChangeAt Go.RowKit
open Go.ChangeMaps (open_string shut_string)

theorem fn_add (a b : Nat) : fn a + fn b = fn (a + b) := by
  apply F.ext'; rw [F.add_val, fn_val, fn_val, fn_val, ← Nat.add_mod]
theorem fn_mul (a b : Nat) : fn a * fn b = fn (a * b) := by
  apply F.ext'; rw [F.mul_val, fn_val, fn_val, fn_val, ← Nat.mul_mod]
theorem fn_small {a : Nat} (h : a < 18446744073709551616) : (fn a).val = a := by rw [fn_val, Nat.mod_eq_of_lt]; unfold Pq; omega
theorem fn_sub {a b : Nat} (h : b ≤ a) : fn a - fn b = fn (a - b) := by
  have h1 : fn a = fn (a - b) + fn b := by rw [fn_add]; congr 1; omega
  rw [h1]; grind
theorem fn_sub' {a b : Nat} (h : a < b) : fn a - fn b = -fn (b - a) := by
  have h1 : fn b = fn (b - a) + fn a := by rw [fn_add]; congr 1; omega
  rw [h1]; grind
theorem fn_eq {a b : Nat} (ha : a < 18446744073709551616) (hb : b < 18446744073709551616) : decide (fn a = fn b) = decide (a = b) := by
  by_cases h : a = b
  · subst h; simp
  · rw [decide_eq_false h, decide_eq_false]
    intro e
    have := congrArg Fin.val e
    rw [fn_small ha, fn_small hb] at this
    exact h this
theorem fn_odd {a : Nat} (ha : a < 18446744073709551616) : decide ((fn a).val % 2 = 1) = decide ((a : Int) % 2 = 1) := by
  rw [fn_small ha]
  by_cases h : a % 2 = 1
  · rw [decide_eq_true h, decide_eq_true]; omega
  · rw [decide_eq_false h, decide_eq_false]; omega
theorem and31 (a : Nat) (h : a < 18446744073709551616) : bits BinOp.and IntKind.u64 (a : Int) 2147483647 = ((a % 2147483648 : Nat) : Int) := by
  rw [show (2147483647 : Int) = ((2147483647 : Nat) : Int) from rfl, u64_and_nat a 2147483647 h (by omega), show a &&& 2147483647 = a % 2147483648 from Nat.and_two_pow_sub_one_eq_mod a 31]
set_option maxHeartbeats 4000000 in
theorem fieldSmalls_any {A B : Int} (w : World) (ha : (Lit.int .u64 A).wf = true) (hb : (Lit.int .u64 B).wf = true) :
    Calls Try.prog 7 #[.int .u64 A, .int .u64 B] w fun e w' => e = .returned (.bool true) ∧ Below w.heap.size w w' := by
  have hA := bounds_u64 ha
  have hB := bounds_u64 hb
  obtain ⟨a', rfl⟩ : ∃ a' : Nat, A = (a' : Int) := ⟨A.toNat, by omega⟩
  obtain ⟨b', rfl⟩ : ∃ b' : Nat, B = (b' : Int) := ⟨B.toNat, by omega⟩
  have ea := and31 a' (by omega)
  have eb := and31 b' (by omega)
  have la : a' % 2147483648 < 2147483648 := by omega
  have lb : b' % 2147483648 < 2147483648 := by omega
  generalize a' % 2147483648 = a at *
  generalize b' % 2147483648 = b at *
  clear ha hb hA hB
  have LA := Lib.hid la; have LB := Lib.hid lb
  have la' : a < 18446744073709551616 := by omega
  have lb' : b < 18446744073709551616 := by omega
  have hm0 : a * b < 18446744073709551616 := Nat.lt_of_le_of_lt (Nat.mul_le_mul (show a ≤ 2147483648 by omega) (show b ≤ 2147483648 by omega)) (by omega)
  obtain ⟨c, hc⟩ : ∃ c, c = a + b := ⟨_, rfl⟩
  obtain ⟨e, he⟩ : ∃ e, e = a * b := ⟨_, rfl⟩
  have hsum : IntKind.u64.wrap ((a : Int) + (b : Int)) = (c : Int) := by rw [wrapU]; omega
  have hmul : IntKind.u64.wrap ((a : Int) * (b : Int)) = (e : Int) := by rw [wrapU, ← Int.natCast_mul, ← he]; omega
  have LM : Hid (e < 18446744073709551616) := Lib.hid (by omega)
  have LS : Hid (c < 18446744073709551616) := Lib.hid (by omega)
  have FA : Hid (fn a + fn b = fn c) := Lib.hid (by rw [hc]; exact fn_add a b)
  have FM : Hid (fn a * fn b = fn e) := Lib.hid (by rw [he]; exact fn_mul a b)
  clear hm0 hc he
  obtain ⟨pb, hpb⟩ : ∃ pb, ((a : Int) % 2 == 1) = pb := ⟨_, rfl⟩
  obtain ⟨qb, hqb⟩ : ∃ qb, ((a : Int) == (b : Int)) = qb := ⟨_, rfl⟩
  have EO : Hid (decide ((fn a).val % 2 = 1) = pb) := Lib.hid (by rw [fn_odd la', ← hpb]; rfl)
  have EQ : Hid (decide (fn a = fn b) = qb) := Lib.hid (by rw [fn_eq la' lb', ← hqb]; by_cases h : a = b <;> first | (simp [h]; done) | (simp [h]; omega))
  have LA' := Lib.hid la'; have LB' := Lib.hid lb'
  by_cases hge : b ≤ a
  · obtain ⟨n, hn, hd1⟩ : ∃ n : Nat, n < 18446744073709551616 ∧ IntKind.u64.wrap ((b : Int) - (a : Int)) = (n : Int) := ⟨((b : Int) - (a : Int)).toNat + (if a = b then 0 else 18446744073709551616 + b - a), by split <;> omega, by rw [wrapU]; split <;> omega⟩
    have hd2 : IntKind.u64.wrap ((a : Int) - (b : Int)) = ((a - b : Nat) : Int) := by rw [wrapU]; omega
    have hcmp : decide ((b : Int) ≤ (a : Int)) = true := by simp; omega
    have hcmp2 : decide (b ≤ a) = true := decide_eq_true hge
    have HN := Lib.hid hn
    have HL2 : Hid (a - b < 18446744073709551616) := Lib.hid (by omega)
    have HSUB := Lib.hid (fn_sub hge)
    clear hge hn la lb la' lb'
    go_enter Try.func7, Try.ntmps7
    go_upto_region 8 with ((first | (go_at_call 18; first | ((with_reducible refine (fsmallM LA'.out _).mono ?_); rintro e w1 ⟨f, rfl, hf, h1⟩; have hbel1 : Below w.heap.size w w1 := Below.call (by repeat (first | (with_reducible refine Below.alloc' ?_ _) | (with_reducible refine Below.drew ?_) | (with_reducible refine below_drewN ?_ _) | ((with_reducible refine Below.setCell ?_ ?_ _); rotate_left; (focus (first | exact Nat.le_refl _ | (simp; done) | (simp; omega)))) | (with_reducible assumption) | (with_reducible exact Below.refl _ _))) h1; clear h1) | ((with_reducible refine (fsmallM LB'.out _).mono ?_); rintro e w2 ⟨g, rfl, hg, h2⟩; have hbel2 : Below w.heap.size w w2 := Below.call (by repeat (first | (with_reducible refine Below.alloc' ?_ _) | (with_reducible refine Below.drew ?_) | (with_reducible refine below_drewN ?_ _) | ((with_reducible refine Below.setCell ?_ ?_ _); rotate_left; (focus (first | exact Nat.le_refl _ | (simp; done) | (simp; omega)))) | (with_reducible assumption) | (with_reducible exact Below.refl _ _))) h2; clear h2 hbel1) | ((with_reducible refine (fsmallM HN.out _).mono ?_); rintro e w4 ⟨q, rfl, hq, h4⟩; have hX4 := hX3.below' h4; have hY4 := hY3.below' h4; have hD4 := hD3.below' h4; have hbel4 : Below w.heap.size w w4 := Below.call (by repeat (first | (with_reducible refine Below.alloc' ?_ _) | (with_reducible refine Below.drew ?_) | (with_reducible refine below_drewN ?_ _) | ((with_reducible refine Below.setCell ?_ ?_ _); rotate_left; (focus (first | exact Nat.le_refl _ | (simp; done) | (simp; omega)))) | (with_reducible assumption) | (with_reducible exact Below.refl _ _))) h4; clear h4 hX3 hY3 hD3 hbel3) | ((with_reducible refine (fsmallM HL2.out _).mono ?_); rintro e w6 ⟨l, rfl, hl, h6⟩; rw [← HSUB.out] at hl; have hX6 := hX5.below' h6; have hY6 := hY5.below' h6; have hD6 := hD5.below' h6; have hL6 := hL5.below' h6; have lf := hL6.frozen; have lc := hL6.cell; have hbel6 : Below w.heap.size w w6 := Below.call (by repeat (first | (with_reducible refine Below.alloc' ?_ _) | (with_reducible refine Below.drew ?_) | (with_reducible refine below_drewN ?_ _) | ((with_reducible refine Below.setCell ?_ ?_ _); rotate_left; (focus (first | exact Nat.le_refl _ | (simp; done) | (simp; omega)))) | (with_reducible assumption) | (with_reducible exact Below.refl _ _))) h6; clear h6 hX5 hY5 hD5 hL5 hbel5))       | (go_at_call 19; go_must (refine (fsubM hf hg _).mono ?_; rintro e w3 ⟨d, rfl, hd, h3⟩; have hX3 := ((Blk.new w2 #[.int .u64 (f 0 : Nat),.int .u64 (f 1 : Nat),.int .u64 (f 2 : Nat),.int .u64 (f 3 : Nat),.int .u64 (f 4 : Nat)] 28).alloc _).below' h3 |>.alloc (.cells #[.int .u64 (d 0 : Nat),.int .u64 (d 1 : Nat),.int .u64 (d 2 : Nat),.int .u64 (d 3 : Nat),.int .u64 (d 4 : Nat)] 28); have hY3 := (Blk.new' (w := w2.alloc (.cells #[.int .u64 (f 0 : Nat),.int .u64 (f 1 : Nat),.int .u64 (f 2 : Nat),.int .u64 (f 3 : Nat),.int .u64 (f 4 : Nat)] 28)) (cs := #[.int .u64 (g 0 : Nat),.int .u64 (g 1 : Nat),.int .u64 (g 2 : Nat),.int .u64 (g 3 : Nat),.int .u64 (g 4 : Nat)]) (E := 28) (g := w2.heap.size + 1) (by simp)).below' h3 |>.alloc (.cells #[.int .u64 (d 0 : Nat),.int .u64 (d 1 : Nat),.int .u64 (d 2 : Nat),.int .u64 (d 3 : Nat),.int .u64 (d 4 : Nat)] 28); have hD3 := Blk.new w3 #[.int .u64 (d 0 : Nat),.int .u64 (d 1 : Nat),.int .u64 (d 2 : Nat),.int .u64 (d 3 : Nat),.int .u64 (d 4 : Nat)] 28; have hbel3 : Below w.heap.size w w3 := Below.call (show Below w.heap.size w _ from (by repeat (first | (with_reducible refine Below.alloc' ?_ _) | (with_reducible refine Below.drew ?_) | (with_reducible refine below_drewN ?_ _) | ((with_reducible refine Below.setCell ?_ ?_ _); rotate_left; (focus (first | exact Nat.le_refl _ | (simp; done) | (simp; omega)))) | (with_reducible assumption) | (with_reducible exact Below.refl _ _)))) h3; have hg1 : Hid (w2.heap.size + 1 < w3.heap.size) := Lib.hid ((Blk.new' (w := w2.alloc (.cells #[.int .u64 (f 0 : Nat),.int .u64 (f 1 : Nat),.int .u64 (f 2 : Nat),.int .u64 (f 3 : Nat),.int .u64 (f 4 : Nat)] 28)) (cs := #[.int .u64 (g 0 : Nat),.int .u64 (g 1 : Nat),.int .u64 (g 2 : Nat),.int .u64 (g 3 : Nat),.int .u64 (g 4 : Nat)]) (E := 28) (g := w2.heap.size + 1) (by simp)).below' h3).lt; clear h3 hbel2))       | (go_at_call 23; go_must (refine (fnegM hq _).mono ?_; rintro e w5 ⟨z, rfl, hz, h5⟩; have hX5 := (hX4.below' h5).alloc (.cells #[.int .u64 (z 0 : Nat),.int .u64 (z 1 : Nat),.int .u64 (z 2 : Nat),.int .u64 (z 3 : Nat),.int .u64 (z 4 : Nat)] 28); have hY5 := (hY4.below' h5).alloc (.cells #[.int .u64 (z 0 : Nat),.int .u64 (z 1 : Nat),.int .u64 (z 2 : Nat),.int .u64 (z 3 : Nat),.int .u64 (z 4 : Nat)] 28); have hD5 := (hD4.below' h5).alloc (.cells #[.int .u64 (z 0 : Nat),.int .u64 (z 1 : Nat),.int .u64 (z 2 : Nat),.int .u64 (z 3 : Nat),.int .u64 (z 4 : Nat)] 28); have hL5 := Blk.new w5 #[.int .u64 (z 0 : Nat),.int .u64 (z 1 : Nat),.int .u64 (z 2 : Nat),.int .u64 (z 3 : Nat),.int .u64 (z 4 : Nat)] 28; have hbel5 : Below w.heap.size w w5 := Below.call (show Below w.heap.size w _ from (by repeat (first | (with_reducible refine Below.alloc' ?_ _) | (with_reducible refine Below.drew ?_) | (with_reducible refine below_drewN ?_ _) | ((with_reducible refine Below.setCell ?_ ?_ _); rotate_left; (focus (first | exact Nat.le_refl _ | (simp; done) | (simp; omega)))) | (with_reducible assumption) | (with_reducible exact Below.refl _ _)))) h5; have HZ5 := Lib.hid hbel5.size; have hg2 : Hid (w3.heap.size < w5.heap.size) := Lib.hid (hD4.below' h5).lt; clear h5 hbel4 hX4 hY4 hD4))))
    have g1 := hX6.lt; have g2 := hD6.lt
    have q1 : w2.heap.size + 1 < w3.heap.size := hg1.out
    have q2 : w3.heap.size < w5.heap.size := hg2.out
    have q3 : w.heap.size ≤ w5.heap.size := HZ5.out
    refine wp_gen (fun W => (W.cell? ⟨w2.heap.size, 0, none⟩ = some (.int .u64 (f 0 : Nat)) ∧ W.cell? ⟨w2.heap.size, 1, none⟩ = some (.int .u64 (f 1 : Nat)) ∧ W.cell? ⟨w2.heap.size, 2, none⟩ = some (.int .u64 (f 2 : Nat)) ∧ W.cell? ⟨w2.heap.size, 3, none⟩ = some (.int .u64 (f 3 : Nat)) ∧ W.cell? ⟨w2.heap.size, 4, none⟩ = some (.int .u64 (f 4 : Nat))) ∧ (W.cell? ⟨w2.heap.size + 1, 0, none⟩ = some (.int .u64 (g 0 : Nat)) ∧ W.cell? ⟨w2.heap.size + 1, 1, none⟩ = some (.int .u64 (g 1 : Nat)) ∧ W.cell? ⟨w2.heap.size + 1, 2, none⟩ = some (.int .u64 (g 2 : Nat)) ∧ W.cell? ⟨w2.heap.size + 1, 3, none⟩ = some (.int .u64 (g 3 : Nat)) ∧ W.cell? ⟨w2.heap.size + 1, 4, none⟩ = some (.int .u64 (g 4 : Nat))) ∧ (W.cell? ⟨w3.heap.size, 0, none⟩ = some (.int .u64 (d 0 : Nat)) ∧ W.cell? ⟨w3.heap.size, 1, none⟩ = some (.int .u64 (d 1 : Nat)) ∧ W.cell? ⟨w3.heap.size, 2, none⟩ = some (.int .u64 (d 2 : Nat)) ∧ W.cell? ⟨w3.heap.size, 3, none⟩ = some (.int .u64 (d 3 : Nat)) ∧ W.cell? ⟨w3.heap.size, 4, none⟩ = some (.int .u64 (d 4 : Nat))) ∧ (W.cell? ⟨w5.heap.size, 0, none⟩ = some (.int .u64 (l 0 : Nat)) ∧ W.cell? ⟨w5.heap.size, 1, none⟩ = some (.int .u64 (l 1 : Nat)) ∧ W.cell? ⟨w5.heap.size, 2, none⟩ = some (.int .u64 (l 2 : Nat)) ∧ W.cell? ⟨w5.heap.size, 3, none⟩ = some (.int .u64 (l 3 : Nat)) ∧ W.cell? ⟨w5.heap.size, 4, none⟩ = some (.int .u64 (l 4 : Nat))) ∧ Below w.heap.size w W) ?_ (fun W0 hW => ?_)
    · have hX := (((((hX6.other ⟨w5.heap.size, 0, none⟩ (by simp; omega) (.int .u64 (l 0 : Nat))).other ⟨w5.heap.size, 1, none⟩ (by simp; omega) (.int .u64 (l 1 : Nat))).other ⟨w5.heap.size, 2, none⟩ (by simp; omega) (.int .u64 (l 2 : Nat))).other ⟨w5.heap.size, 3, none⟩ (by simp; omega) (.int .u64 (l 3 : Nat))).other ⟨w5.heap.size, 4, none⟩ (by simp; omega) (.int .u64 (l 4 : Nat))).cell; have hY := (((((hY6.other ⟨w5.heap.size, 0, none⟩ (by simp; omega) (.int .u64 (l 0 : Nat))).other ⟨w5.heap.size, 1, none⟩ (by simp; omega) (.int .u64 (l 1 : Nat))).other ⟨w5.heap.size, 2, none⟩ (by simp; omega) (.int .u64 (l 2 : Nat))).other ⟨w5.heap.size, 3, none⟩ (by simp; omega) (.int .u64 (l 3 : Nat))).other ⟨w5.heap.size, 4, none⟩ (by simp; omega) (.int .u64 (l 4 : Nat))).cell; have hD := (((((hD6.other ⟨w5.heap.size, 0, none⟩ (by simp; omega) (.int .u64 (l 0 : Nat))).other ⟨w5.heap.size, 1, none⟩ (by simp; omega) (.int .u64 (l 1 : Nat))).other ⟨w5.heap.size, 2, none⟩ (by simp; omega) (.int .u64 (l 2 : Nat))).other ⟨w5.heap.size, 3, none⟩ (by simp; omega) (.int .u64 (l 3 : Nat))).other ⟨w5.heap.size, 4, none⟩ (by simp; omega) (.int .u64 (l 4 : Nat))).cell; have hL := (((((hL6.set 0 (.int .u64 (l 0 : Nat))).set 1 (.int .u64 (l 1 : Nat))).set 2 (.int .u64 (l 2 : Nat))).set 3 (.int .u64 (l 3 : Nat))).set 4 (.int .u64 (l 4 : Nat))).cell
      exact ⟨⟨hX 0, hX 1, hX 2, hX 3, hX 4⟩, ⟨hY 0, hY 1, hY 2, hY 3, hY 4⟩, ⟨hD 0, hD 1, hD 2, hD 3, hD 4⟩, ⟨hL 0, hL 1, hL 2, hL 3, hL 4⟩, (by repeat (first | (with_reducible refine Below.alloc' ?_ _) | (with_reducible refine Below.drew ?_) | (with_reducible refine below_drewN ?_ _) | ((with_reducible refine Below.setCell ?_ ?_ _); rotate_left; (focus (first | exact Nat.le_refl _ | (simp; done) | (simp; omega)))) | (with_reducible assumption) | (with_reducible exact Below.refl _ _)))⟩
    clear hbel6 hX6 hY6 hD6 hL6 lf lc g1 g2 q1 q2 q3 hg1 hg2 HN HL2 HSUB LA' LB' LA LB hcmp hcmp2 hd1 hd2 hz hq ea eb HZ5
    generalize w2.heap.size = X at *
    generalize w3.heap.size = D at *
    generalize w5.heap.size = C at *
    clear w6 w5 w4 w3 w2 w1
    have hst1 := Lib.hid (show ∀ W W' : World, ((W.cell? ⟨X, 0, none⟩ = some (.int .u64 (f 0 : Nat)) ∧ W.cell? ⟨X, 1, none⟩ = some (.int .u64 (f 1 : Nat)) ∧ W.cell? ⟨X, 2, none⟩ = some (.int .u64 (f 2 : Nat)) ∧ W.cell? ⟨X, 3, none⟩ = some (.int .u64 (f 3 : Nat)) ∧ W.cell? ⟨X, 4, none⟩ = some (.int .u64 (f 4 : Nat))) ∧ (W.cell? ⟨X + 1, 0, none⟩ = some (.int .u64 (g 0 : Nat)) ∧ W.cell? ⟨X + 1, 1, none⟩ = some (.int .u64 (g 1 : Nat)) ∧ W.cell? ⟨X + 1, 2, none⟩ = some (.int .u64 (g 2 : Nat)) ∧ W.cell? ⟨X + 1, 3, none⟩ = some (.int .u64 (g 3 : Nat)) ∧ W.cell? ⟨X + 1, 4, none⟩ = some (.int .u64 (g 4 : Nat))) ∧ (W.cell? ⟨D, 0, none⟩ = some (.int .u64 (d 0 : Nat)) ∧ W.cell? ⟨D, 1, none⟩ = some (.int .u64 (d 1 : Nat)) ∧ W.cell? ⟨D, 2, none⟩ = some (.int .u64 (d 2 : Nat)) ∧ W.cell? ⟨D, 3, none⟩ = some (.int .u64 (d 3 : Nat)) ∧ W.cell? ⟨D, 4, none⟩ = some (.int .u64 (d 4 : Nat))) ∧ (W.cell? ⟨C, 0, none⟩ = some (.int .u64 (l 0 : Nat)) ∧ W.cell? ⟨C, 1, none⟩ = some (.int .u64 (l 1 : Nat)) ∧ W.cell? ⟨C, 2, none⟩ = some (.int .u64 (l 2 : Nat)) ∧ W.cell? ⟨C, 3, none⟩ = some (.int .u64 (l 3 : Nat)) ∧ W.cell? ⟨C, 4, none⟩ = some (.int .u64 (l 4 : Nat))) ∧ Below w.heap.size w W) → Below W.heap.size W W' → ((W'.cell? ⟨X, 0, none⟩ = some (.int .u64 (f 0 : Nat)) ∧ W'.cell? ⟨X, 1, none⟩ = some (.int .u64 (f 1 : Nat)) ∧ W'.cell? ⟨X, 2, none⟩ = some (.int .u64 (f 2 : Nat)) ∧ W'.cell? ⟨X, 3, none⟩ = some (.int .u64 (f 3 : Nat)) ∧ W'.cell? ⟨X, 4, none⟩ = some (.int .u64 (f 4 : Nat))) ∧ (W'.cell? ⟨X + 1, 0, none⟩ = some (.int .u64 (g 0 : Nat)) ∧ W'.cell? ⟨X + 1, 1, none⟩ = some (.int .u64 (g 1 : Nat)) ∧ W'.cell? ⟨X + 1, 2, none⟩ = some (.int .u64 (g 2 : Nat)) ∧ W'.cell? ⟨X + 1, 3, none⟩ = some (.int .u64 (g 3 : Nat)) ∧ W'.cell? ⟨X + 1, 4, none⟩ = some (.int .u64 (g 4 : Nat))) ∧ (W'.cell? ⟨D, 0, none⟩ = some (.int .u64 (d 0 : Nat)) ∧ W'.cell? ⟨D, 1, none⟩ = some (.int .u64 (d 1 : Nat)) ∧ W'.cell? ⟨D, 2, none⟩ = some (.int .u64 (d 2 : Nat)) ∧ W'.cell? ⟨D, 3, none⟩ = some (.int .u64 (d 3 : Nat)) ∧ W'.cell? ⟨D, 4, none⟩ = some (.int .u64 (d 4 : Nat))) ∧ (W'.cell? ⟨C, 0, none⟩ = some (.int .u64 (l 0 : Nat)) ∧ W'.cell? ⟨C, 1, none⟩ = some (.int .u64 (l 1 : Nat)) ∧ W'.cell? ⟨C, 2, none⟩ = some (.int .u64 (l 2 : Nat)) ∧ W'.cell? ⟨C, 3, none⟩ = some (.int .u64 (l 3 : Nat)) ∧ W'.cell? ⟨C, 4, none⟩ = some (.int .u64 (l 4 : Nat))) ∧ Below w.heap.size w W') from by
      rintro W W' ⟨h1, h2, h3, h4, h5⟩ hb
      exact ⟨keep5 _ _ h1 hb, keep5 _ _ h2 hb, keep5 _ _ h3 hb, keep5 _ _ h4 hb, Below.call h5 hb⟩)
    have hst := hst1
    clear hst1
    have hS := hW
    clear hW
    go_wp2_with (first | (go_at_call 24; (with_reducible refine (faddM hf hg _).mono ?_); rintro e w1 ⟨m, rfl, hm, hb⟩; have hS' := hst.out _ _ hS hb; clear hS hb; have hS := hS'; clear hS') | (go_at_call 22; (with_reducible refine (fmulM hf hg _).mono ?_); rintro e w1 ⟨m, rfl, hm, hb⟩; have hS' := hst.out _ _ hS hb; clear hS hb; have hS := hS'; clear hS') | (go_at_call 18; first | ((with_reducible refine (fsmallM LS.out _).mono ?_); rintro e w1 ⟨m, rfl, hm, hb⟩; have hS' := hst.out _ _ hS hb; clear hS hb; have hS := hS'; clear hS') | ((with_reducible refine (fsmallM LM.out _).mono ?_); rintro e w1 ⟨m, rfl, hm, hb⟩; have hS' := hst.out _ _ hS hb; clear hS hb; have hS := hS'; clear hS')) | (go_at_call 25; (with_reducible refine (foddM hf _).mono ?_); rintro e w1 ⟨rfl, hb⟩; rw [EO.out]; have hS' := hst.out _ _ hS hb; clear hS hb; have hS := hS'; clear hS') | (go_at_call 12; (with_reducible refine (law5awake_any _).mono ?_); rintro e w1 ⟨rfl, hb⟩; have hS' := hst.out _ _ hS hb; clear hS hb; have hS := hS'; clear hS') | (go_at_call 15; first | ((with_reducible refine (fsameT (by assumption) (by assumption) (by with_reducible first | exact FA.out | exact FM.out | exact rfl) _).mono ?_); rintro e w1 ⟨rfl, hb⟩; have hS' := hst.out _ _ hS hb; clear hS hb; have hS := hS'; clear hS') | ((with_reducible refine (fsameM hf hg _).mono ?_); rintro e w1 ⟨rfl, hb⟩; rw [EQ.out]; have hS' := hst.out _ _ hS hb; clear hS hb; have hS := hS'; clear hS')))
    go_ret
    exact ⟨rfl, hS.2.2.2.2⟩
  · have hd1 : IntKind.u64.wrap ((b : Int) - (a : Int)) = ((b - a : Nat) : Int) := by rw [wrapU]; omega
    have hcmp : decide ((b : Int) ≤ (a : Int)) = false := by simp; omega
    have hcmp2 : decide (b ≤ a) = false := decide_eq_false hge
    have HN : Hid (b - a < 18446744073709551616) := Lib.hid (by omega)
    have HSUB := Lib.hid (fn_sub' (show a < b by omega))
    clear hge la lb la' lb'
    go_enter Try.func7, Try.ntmps7
    go_upto_region 8 with ((first | (go_at_call 18; first | ((with_reducible refine (fsmallM LA'.out _).mono ?_); rintro e w1 ⟨f, rfl, hf, h1⟩; have hbel1 : Below w.heap.size w w1 := Below.call (by repeat (first | (with_reducible refine Below.alloc' ?_ _) | (with_reducible refine Below.drew ?_) | (with_reducible refine below_drewN ?_ _) | ((with_reducible refine Below.setCell ?_ ?_ _); rotate_left; (focus (first | exact Nat.le_refl _ | (simp; done) | (simp; omega)))) | (with_reducible assumption) | (with_reducible exact Below.refl _ _))) h1; clear h1) | ((with_reducible refine (fsmallM LB'.out _).mono ?_); rintro e w2 ⟨g, rfl, hg, h2⟩; have hbel2 : Below w.heap.size w w2 := Below.call (by repeat (first | (with_reducible refine Below.alloc' ?_ _) | (with_reducible refine Below.drew ?_) | (with_reducible refine below_drewN ?_ _) | ((with_reducible refine Below.setCell ?_ ?_ _); rotate_left; (focus (first | exact Nat.le_refl _ | (simp; done) | (simp; omega)))) | (with_reducible assumption) | (with_reducible exact Below.refl _ _))) h2; clear h2 hbel1) | ((with_reducible refine (fsmallM HN.out _).mono ?_); rintro e w4 ⟨q, rfl, hq, h4⟩; have hX4 := hX3.below' h4; have hY4 := hY3.below' h4; have hD4 := hD3.below' h4; have hbel4 : Below w.heap.size w w4 := Below.call (by repeat (first | (with_reducible refine Below.alloc' ?_ _) | (with_reducible refine Below.drew ?_) | (with_reducible refine below_drewN ?_ _) | ((with_reducible refine Below.setCell ?_ ?_ _); rotate_left; (focus (first | exact Nat.le_refl _ | (simp; done) | (simp; omega)))) | (with_reducible assumption) | (with_reducible exact Below.refl _ _))) h4; clear h4 hX3 hY3 hD3 hbel3))       | (go_at_call 19; go_must (refine (fsubM hf hg _).mono ?_; rintro e w3 ⟨d, rfl, hd, h3⟩; have hX3 := ((Blk.new w2 #[.int .u64 (f 0 : Nat),.int .u64 (f 1 : Nat),.int .u64 (f 2 : Nat),.int .u64 (f 3 : Nat),.int .u64 (f 4 : Nat)] 28).alloc _).below' h3 |>.alloc (.cells #[.int .u64 (d 0 : Nat),.int .u64 (d 1 : Nat),.int .u64 (d 2 : Nat),.int .u64 (d 3 : Nat),.int .u64 (d 4 : Nat)] 28); have hY3 := (Blk.new' (w := w2.alloc (.cells #[.int .u64 (f 0 : Nat),.int .u64 (f 1 : Nat),.int .u64 (f 2 : Nat),.int .u64 (f 3 : Nat),.int .u64 (f 4 : Nat)] 28)) (cs := #[.int .u64 (g 0 : Nat),.int .u64 (g 1 : Nat),.int .u64 (g 2 : Nat),.int .u64 (g 3 : Nat),.int .u64 (g 4 : Nat)]) (E := 28) (g := w2.heap.size + 1) (by simp)).below' h3 |>.alloc (.cells #[.int .u64 (d 0 : Nat),.int .u64 (d 1 : Nat),.int .u64 (d 2 : Nat),.int .u64 (d 3 : Nat),.int .u64 (d 4 : Nat)] 28); have hD3 := Blk.new w3 #[.int .u64 (d 0 : Nat),.int .u64 (d 1 : Nat),.int .u64 (d 2 : Nat),.int .u64 (d 3 : Nat),.int .u64 (d 4 : Nat)] 28; have hbel3 : Below w.heap.size w w3 := Below.call (show Below w.heap.size w _ from (by repeat (first | (with_reducible refine Below.alloc' ?_ _) | (with_reducible refine Below.drew ?_) | (with_reducible refine below_drewN ?_ _) | ((with_reducible refine Below.setCell ?_ ?_ _); rotate_left; (focus (first | exact Nat.le_refl _ | (simp; done) | (simp; omega)))) | (with_reducible assumption) | (with_reducible exact Below.refl _ _)))) h3; have hg1 : Hid (w2.heap.size + 1 < w3.heap.size) := Lib.hid ((Blk.new' (w := w2.alloc (.cells #[.int .u64 (f 0 : Nat),.int .u64 (f 1 : Nat),.int .u64 (f 2 : Nat),.int .u64 (f 3 : Nat),.int .u64 (f 4 : Nat)] 28)) (cs := #[.int .u64 (g 0 : Nat),.int .u64 (g 1 : Nat),.int .u64 (g 2 : Nat),.int .u64 (g 3 : Nat),.int .u64 (g 4 : Nat)]) (E := 28) (g := w2.heap.size + 1) (by simp)).below' h3).lt; clear h3 hbel2))       | (go_at_call 23; go_must (refine (fnegM hq _).mono ?_; rintro e w5 ⟨z, rfl, hz, h5⟩; rw [← HSUB.out] at hz; have hX5 := (hX4.below' h5).alloc (.cells #[.int .u64 (z 0 : Nat),.int .u64 (z 1 : Nat),.int .u64 (z 2 : Nat),.int .u64 (z 3 : Nat),.int .u64 (z 4 : Nat)] 28); have hY5 := (hY4.below' h5).alloc (.cells #[.int .u64 (z 0 : Nat),.int .u64 (z 1 : Nat),.int .u64 (z 2 : Nat),.int .u64 (z 3 : Nat),.int .u64 (z 4 : Nat)] 28); have hD5 := (hD4.below' h5).alloc (.cells #[.int .u64 (z 0 : Nat),.int .u64 (z 1 : Nat),.int .u64 (z 2 : Nat),.int .u64 (z 3 : Nat),.int .u64 (z 4 : Nat)] 28); have hL5 := Blk.new w5 #[.int .u64 (z 0 : Nat),.int .u64 (z 1 : Nat),.int .u64 (z 2 : Nat),.int .u64 (z 3 : Nat),.int .u64 (z 4 : Nat)] 28; have hbel5 : Below w.heap.size w w5 := Below.call (show Below w.heap.size w _ from (by repeat (first | (with_reducible refine Below.alloc' ?_ _) | (with_reducible refine Below.drew ?_) | (with_reducible refine below_drewN ?_ _) | ((with_reducible refine Below.setCell ?_ ?_ _); rotate_left; (focus (first | exact Nat.le_refl _ | (simp; done) | (simp; omega)))) | (with_reducible assumption) | (with_reducible exact Below.refl _ _)))) h5; have HZ5 := Lib.hid hbel5.size; have hg2 : Hid (w3.heap.size < w5.heap.size) := Lib.hid (hD4.below' h5).lt; clear h5 hbel4 hX4 hY4 hD4))))
    refine wp_gen (fun W => (W.cell? ⟨w2.heap.size, 0, none⟩ = some (.int .u64 (f 0 : Nat)) ∧ W.cell? ⟨w2.heap.size, 1, none⟩ = some (.int .u64 (f 1 : Nat)) ∧ W.cell? ⟨w2.heap.size, 2, none⟩ = some (.int .u64 (f 2 : Nat)) ∧ W.cell? ⟨w2.heap.size, 3, none⟩ = some (.int .u64 (f 3 : Nat)) ∧ W.cell? ⟨w2.heap.size, 4, none⟩ = some (.int .u64 (f 4 : Nat))) ∧ (W.cell? ⟨w2.heap.size + 1, 0, none⟩ = some (.int .u64 (g 0 : Nat)) ∧ W.cell? ⟨w2.heap.size + 1, 1, none⟩ = some (.int .u64 (g 1 : Nat)) ∧ W.cell? ⟨w2.heap.size + 1, 2, none⟩ = some (.int .u64 (g 2 : Nat)) ∧ W.cell? ⟨w2.heap.size + 1, 3, none⟩ = some (.int .u64 (g 3 : Nat)) ∧ W.cell? ⟨w2.heap.size + 1, 4, none⟩ = some (.int .u64 (g 4 : Nat))) ∧ (W.cell? ⟨w3.heap.size, 0, none⟩ = some (.int .u64 (d 0 : Nat)) ∧ W.cell? ⟨w3.heap.size, 1, none⟩ = some (.int .u64 (d 1 : Nat)) ∧ W.cell? ⟨w3.heap.size, 2, none⟩ = some (.int .u64 (d 2 : Nat)) ∧ W.cell? ⟨w3.heap.size, 3, none⟩ = some (.int .u64 (d 3 : Nat)) ∧ W.cell? ⟨w3.heap.size, 4, none⟩ = some (.int .u64 (d 4 : Nat))) ∧ (W.cell? ⟨w5.heap.size, 0, none⟩ = some (.int .u64 (z 0 : Nat)) ∧ W.cell? ⟨w5.heap.size, 1, none⟩ = some (.int .u64 (z 1 : Nat)) ∧ W.cell? ⟨w5.heap.size, 2, none⟩ = some (.int .u64 (z 2 : Nat)) ∧ W.cell? ⟨w5.heap.size, 3, none⟩ = some (.int .u64 (z 3 : Nat)) ∧ W.cell? ⟨w5.heap.size, 4, none⟩ = some (.int .u64 (z 4 : Nat))) ∧ Below w.heap.size w W) ?_ (fun W0 hW => ?_)
    · have hX := hX5.cell; have hY := hY5.cell; have hD := hD5.cell; have hL := hL5.cell
      exact ⟨⟨hX 0, hX 1, hX 2, hX 3, hX 4⟩, ⟨hY 0, hY 1, hY 2, hY 3, hY 4⟩, ⟨hD 0, hD 1, hD 2, hD 3, hD 4⟩, ⟨hL 0, hL 1, hL 2, hL 3, hL 4⟩, (by repeat (first | (with_reducible refine Below.alloc' ?_ _) | (with_reducible refine Below.drew ?_) | (with_reducible refine below_drewN ?_ _) | ((with_reducible refine Below.setCell ?_ ?_ _); rotate_left; (focus (first | exact Nat.le_refl _ | (simp; done) | (simp; omega)))) | (with_reducible assumption) | (with_reducible exact Below.refl _ _)))⟩
    clear hbel5 hX5 hY5 hD5 hL5 hg1 hg2 HN HSUB LA' LB' LA LB hcmp hcmp2 hd1 hq ea eb HZ5
    generalize w2.heap.size = X at *
    generalize w3.heap.size = D at *
    generalize w5.heap.size = C at *
    clear w5 w4 w3 w2 w1
    obtain ⟨l, rfl⟩ : ∃ l, l = z := ⟨_, rfl⟩
    have hl := hz
    clear hz
    have hst1 := Lib.hid (show ∀ W W' : World, ((W.cell? ⟨X, 0, none⟩ = some (.int .u64 (f 0 : Nat)) ∧ W.cell? ⟨X, 1, none⟩ = some (.int .u64 (f 1 : Nat)) ∧ W.cell? ⟨X, 2, none⟩ = some (.int .u64 (f 2 : Nat)) ∧ W.cell? ⟨X, 3, none⟩ = some (.int .u64 (f 3 : Nat)) ∧ W.cell? ⟨X, 4, none⟩ = some (.int .u64 (f 4 : Nat))) ∧ (W.cell? ⟨X + 1, 0, none⟩ = some (.int .u64 (g 0 : Nat)) ∧ W.cell? ⟨X + 1, 1, none⟩ = some (.int .u64 (g 1 : Nat)) ∧ W.cell? ⟨X + 1, 2, none⟩ = some (.int .u64 (g 2 : Nat)) ∧ W.cell? ⟨X + 1, 3, none⟩ = some (.int .u64 (g 3 : Nat)) ∧ W.cell? ⟨X + 1, 4, none⟩ = some (.int .u64 (g 4 : Nat))) ∧ (W.cell? ⟨D, 0, none⟩ = some (.int .u64 (d 0 : Nat)) ∧ W.cell? ⟨D, 1, none⟩ = some (.int .u64 (d 1 : Nat)) ∧ W.cell? ⟨D, 2, none⟩ = some (.int .u64 (d 2 : Nat)) ∧ W.cell? ⟨D, 3, none⟩ = some (.int .u64 (d 3 : Nat)) ∧ W.cell? ⟨D, 4, none⟩ = some (.int .u64 (d 4 : Nat))) ∧ (W.cell? ⟨C, 0, none⟩ = some (.int .u64 (l 0 : Nat)) ∧ W.cell? ⟨C, 1, none⟩ = some (.int .u64 (l 1 : Nat)) ∧ W.cell? ⟨C, 2, none⟩ = some (.int .u64 (l 2 : Nat)) ∧ W.cell? ⟨C, 3, none⟩ = some (.int .u64 (l 3 : Nat)) ∧ W.cell? ⟨C, 4, none⟩ = some (.int .u64 (l 4 : Nat))) ∧ Below w.heap.size w W) → Below W.heap.size W W' → ((W'.cell? ⟨X, 0, none⟩ = some (.int .u64 (f 0 : Nat)) ∧ W'.cell? ⟨X, 1, none⟩ = some (.int .u64 (f 1 : Nat)) ∧ W'.cell? ⟨X, 2, none⟩ = some (.int .u64 (f 2 : Nat)) ∧ W'.cell? ⟨X, 3, none⟩ = some (.int .u64 (f 3 : Nat)) ∧ W'.cell? ⟨X, 4, none⟩ = some (.int .u64 (f 4 : Nat))) ∧ (W'.cell? ⟨X + 1, 0, none⟩ = some (.int .u64 (g 0 : Nat)) ∧ W'.cell? ⟨X + 1, 1, none⟩ = some (.int .u64 (g 1 : Nat)) ∧ W'.cell? ⟨X + 1, 2, none⟩ = some (.int .u64 (g 2 : Nat)) ∧ W'.cell? ⟨X + 1, 3, none⟩ = some (.int .u64 (g 3 : Nat)) ∧ W'.cell? ⟨X + 1, 4, none⟩ = some (.int .u64 (g 4 : Nat))) ∧ (W'.cell? ⟨D, 0, none⟩ = some (.int .u64 (d 0 : Nat)) ∧ W'.cell? ⟨D, 1, none⟩ = some (.int .u64 (d 1 : Nat)) ∧ W'.cell? ⟨D, 2, none⟩ = some (.int .u64 (d 2 : Nat)) ∧ W'.cell? ⟨D, 3, none⟩ = some (.int .u64 (d 3 : Nat)) ∧ W'.cell? ⟨D, 4, none⟩ = some (.int .u64 (d 4 : Nat))) ∧ (W'.cell? ⟨C, 0, none⟩ = some (.int .u64 (l 0 : Nat)) ∧ W'.cell? ⟨C, 1, none⟩ = some (.int .u64 (l 1 : Nat)) ∧ W'.cell? ⟨C, 2, none⟩ = some (.int .u64 (l 2 : Nat)) ∧ W'.cell? ⟨C, 3, none⟩ = some (.int .u64 (l 3 : Nat)) ∧ W'.cell? ⟨C, 4, none⟩ = some (.int .u64 (l 4 : Nat))) ∧ Below w.heap.size w W') from by
      rintro W W' ⟨h1, h2, h3, h4, h5⟩ hb
      exact ⟨keep5 _ _ h1 hb, keep5 _ _ h2 hb, keep5 _ _ h3 hb, keep5 _ _ h4 hb, Below.call h5 hb⟩)
    have hst := hst1
    clear hst1
    have hS := hW
    clear hW
    go_wp2_with (first | (go_at_call 24; (with_reducible refine (faddM hf hg _).mono ?_); rintro e w1 ⟨m, rfl, hm, hb⟩; have hS' := hst.out _ _ hS hb; clear hS hb; have hS := hS'; clear hS') | (go_at_call 22; (with_reducible refine (fmulM hf hg _).mono ?_); rintro e w1 ⟨m, rfl, hm, hb⟩; have hS' := hst.out _ _ hS hb; clear hS hb; have hS := hS'; clear hS') | (go_at_call 18; first | ((with_reducible refine (fsmallM LS.out _).mono ?_); rintro e w1 ⟨m, rfl, hm, hb⟩; have hS' := hst.out _ _ hS hb; clear hS hb; have hS := hS'; clear hS') | ((with_reducible refine (fsmallM LM.out _).mono ?_); rintro e w1 ⟨m, rfl, hm, hb⟩; have hS' := hst.out _ _ hS hb; clear hS hb; have hS := hS'; clear hS')) | (go_at_call 25; (with_reducible refine (foddM hf _).mono ?_); rintro e w1 ⟨rfl, hb⟩; rw [EO.out]; have hS' := hst.out _ _ hS hb; clear hS hb; have hS := hS'; clear hS') | (go_at_call 12; (with_reducible refine (law5awake_any _).mono ?_); rintro e w1 ⟨rfl, hb⟩; have hS' := hst.out _ _ hS hb; clear hS hb; have hS := hS'; clear hS') | (go_at_call 15; first | ((with_reducible refine (fsameT (by assumption) (by assumption) (by with_reducible first | exact FA.out | exact FM.out | exact rfl) _).mono ?_); rintro e w1 ⟨rfl, hb⟩; have hS' := hst.out _ _ hS hb; clear hS hb; have hS := hS'; clear hS') | ((with_reducible refine (fsameM hf hg _).mono ?_); rintro e w1 ⟨rfl, hb⟩; rw [EQ.out]; have hS' := hst.out _ _ hS hb; clear hS hb; have hS := hS'; clear hS')))
    go_ret
    exact ⟨rfl, hS.2.2.2.2⟩
namespace fieldSmallsDone
theorem own : ownKnob Try.prog.godebug = none := by kernel_rfl
theorem laidOut : laidOutB Try.prog = true := by kernel_rfl
set_option maxRecDepth 100000 in
theorem lifted (os : Os) (started : os.Started) (H : Type) (enc : TypeId × Value → H) :
    ReturnsInHanded {} Try.checked os 7 .any (Rows.fieldSmallsSpec.pre6 enc Try.prog Try.f7 Rows.fieldSmallsRow.domain false) (Rows.fieldSmallsSpec.post enc Try.prog Try.f7 false true false false) := by
  refine returnsInHanded_of_change (C := Try.checked) own started (by kernel_rfl) Try.func7
    (ChangeSpec.witness6 (enc := enc) (C := Try.checked) false ⟨#[], #[.int .u64 0, .int .u64 0], []⟩ 8 (by kernel_rfl) (by kernel_rfl) (by kernel_rfl) (by kernel_rfl)) ?_
  intro W base args ds gs before hval0 hW hcnd _
  have hval : ∀ (j : Nat) t v, Try.f7.params[j]? = some t → args[j]? = some v → Value.okWide Try.prog W .any base t v := hval0
  have hW' := hW
  obtain ⟨p, q, hA0, hV, rfl, hfz, hnd⟩ := hW
  have hA : DataW.TrodAll enc Try.prog W 0 (fun _ => true) true Try.f7.params.toList args.toList ds p := hA0
  rw [Try.params7] at hA hval
  obtain ⟨v0, vs0, d0, ds0, p0, q0, hargs, rfl, rfl, h0, r0⟩ := trodAll_cons hA
  obtain ⟨v1, vs1, d1, ds1, p1, q1, rfl, rfl, rfl, h1, r1⟩ := trodAll_cons r0
  obtain ⟨rfl, rfl, rfl⟩ := trodAll_nil r1
  obtain rfl : args = #[v0, v1] := by cases args; simp_all
  obtain ⟨rfl, rfl⟩ := trodVars_none hV
  obtain ⟨a0, rfl, rfl, rfl, w0⟩ := open_int Try.underlying25 (hval 0 25 v0 rfl rfl) h0
  obtain ⟨a1, rfl, rfl, rfl, w1⟩ := open_int Try.underlying25 (hval 1 25 v1 rfl rfl) h1
  clear hA0 hval0
  refine (fieldSmalls_any W w0 w1).mono fun e W' ⟨he, bel⟩ => ?_
  subst he
  exact ⟨_, rfl, _, _, _, [], _, [], hW', trodAll_mk1 (shut_bool Try.underlying4 _), (trodAll_cons_mk (shut_int Try.underlying25 w0) (trodAll_cons_mk (shut_int Try.underlying25 w1) trodAll_mk0)), rfl, bel.frame _, fun h => by cases h⟩
theorem over : Rows.fieldSmallsRow.holds Try.pinned (OpenSpec.ofChange Rows.fieldSmallsSpec) :=
  OpenClaim.holds_of_wide 7 Try.f7 rfl rfl rfl rfl rfl rfl rfl ⟨rfl, rfl, rfl, rfl, rfl⟩ rfl rfl rfl rfl rfl (by kernel_rfl) Try.func7 (by kernel_rfl)
    (of_decide_eq_true (by kernel_rfl)) (by unfold Func.isWrapper; first | (rw [if_pos (by decide +kernel)]; kernel_rfl) | (rw [if_neg (by decide +kernel)]; exact ⟨rfl, rfl⟩))
    (fun os started H enc _ => lifted os started H enc)
theorem proved : Rows.FieldSmallsSaid := over
#print axioms proved
end fieldSmallsDone

end Go.Proofs.Ytfjaplggohflbaa
