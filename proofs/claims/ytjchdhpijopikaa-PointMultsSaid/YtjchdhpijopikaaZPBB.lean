/- What PB rests on, part 2 of 6: my own texts, put together (merge.py). -/
import Derived.Test.YtjchdhpijopikaaRows
import Derived.WalkKit
import Derived.ProofKit
import Derived.Lib.Hide
import Derived.OpenShut
import Derived.WalkSpells
import Derived.StillTactics
import Derived.Laws.Pointers
import Derived.Laws.CopyOwn
import Derived.Laws.AppendOwnNone
import Derived.Deep.RegionHeld3
import Derived.RowKit3
import Derived.BigQuiet
import Derived.Deep.QuietTactic
import Derived.Deep.LoopGhost
import Derived.Deep.DeepFit
import Derived.WalkLawsBesides
import Derived.Shelf.Spec.BitsCarry
import Derived.Deep.MidRow
import Derived.Laws.IdiomStrings
import Derived.Deep.DeepCutAuto
import Derived.Deep.WholeRow
import Derived.Laws.Rows
import Derived.Lib.AppendZerosOnto
import Derived.Lib.SliceRun
import Derived.Deep.AppendLies
import Derived.ShutString
import Derived.ChangeOld
import Derived.Test.YtjchdhpijopikaaZPBA
namespace Go.Proofs.Ytjchdhpijopikaa
instance decEP : DecidableEq EP := fun P Q => decidable_of_iff (P.x = Q.x ∧ P.y = Q.y) ⟨fun h => Cp.ext' h.1 h.2, fun h => by subst h; exact ⟨rfl, rfl⟩⟩
theorem base_enc : encP base = 88 :: List.replicate 31 102 := by decide +kernel
theorem mul_two' (P : EP) : Cp.mul 2 P = P.add P := by show (Cp.add (Cp.add Cp.zero P) P) = _; rw [Cp.zero_add]
/-- One digit more of a multiple. -/
theorem mul_digit (P : EP) (n k : Nat) : Cp.mul (n / 2 ^ k) P = if n / 2 ^ k % 2 = 1 then ((Cp.mul (n / 2 ^ (k + 1)) P).add (Cp.mul (n / 2 ^ (k + 1)) P)).add P else (Cp.mul (n / 2 ^ (k + 1)) P).add (Cp.mul (n / 2 ^ (k + 1)) P) := by
  rw [← Cp.mul_add]
  have h : n / 2 ^ (k + 1) = n / 2 ^ k / 2 := by rw [Nat.pow_succ, ← Nat.div_div_eq_div_mul]
  rw [h]
  generalize n / 2 ^ k = m
  split
  · rename_i h1
    have e : m = m / 2 + m / 2 + 1 := by omega
    conv => lhs; rw [e]
    rfl
  · rename_i h1
    have e : m = m / 2 + m / 2 := by omega
    conv => lhs; rw [e]
theorem same_num {K : Type} [Lean.Grind.Field K] {p q z z' : K} (hz : z ≠ 0) (hz' : z' ≠ 0) (h : p * z * z' = q * z' * z) : p = q := by
  have hw := mul_ne hz hz'
  have h3 : (p - q) * (z * z') = 0 := by grind
  generalize z * z' = w at *
  have := Lean.Grind.Field.mul_inv_cancel hw
  grind
theorem num_same {K : Type} [Lean.Grind.Field K] {p q z z' : K} (h : p = q) : p * z * z' = q * z' * z := by subst h; grind
theorem Prep.same_x {P Q : EP} {X Y Z X' Y' Z' : F} (h : Prep P X Y Z) (h' : Prep Q X' Y' Z') (e : X * Z' = X' * Z) : P.x = Q.x := by
  obtain ⟨hz, rfl, rfl⟩ := h
  obtain ⟨hz', rfl, rfl⟩ := h'
  exact same_num hz hz' e
theorem Prep.same_x' {P Q : EP} {X Y Z X' Y' Z' : F} (h : Prep P X Y Z) (h' : Prep Q X' Y' Z') (e : P.x = Q.x) : X * Z' = X' * Z := by
  obtain ⟨hz, rfl, rfl⟩ := h
  obtain ⟨hz', rfl, rfl⟩ := h'
  exact num_same e
theorem Prep.same_y {P Q : EP} {X Y Z X' Y' Z' : F} {q : Bool} (h : Prep P X Y Z) (h' : Prep Q X' Y' Z') (e : P.x = Q.x) (hq : decide (P = Q) = q) : decide (Y * Z' = Y' * Z) = q := by
  rw [← hq, decide_eq_decide]
  obtain ⟨hz, rfl, rfl⟩ := h
  obtain ⟨hz', rfl, rfl⟩ := h'
  exact ⟨fun k => Cp.ext' e (same_num hz hz' k), fun k => num_same (congrArg Cp.y k)⟩
end Go.Proofs.Ytjchdhpijopikaa
namespace Go.Proofs.Ytjchdhpijopikaa
open Go.RowKit
def fV (f : Nat → Nat) (i : Nat) : Value := .int .u64 (f i : Nat)
theorem row5 (f : Nat → Value) : row 5 f = [f 0, f 1, f 2, f 3, f 4] := rfl
/-- The first k limbs carried, the others not yet. -/
def pasV (f : Nat → Nat) (c0 k i : Nat) : Value := if i < k then fV (pas f c0) i else fV f i
theorem pasV_at (f : Nat → Nat) (c0 k : Nat) : pasV f c0 k k = .int .u64 (f k : Nat) := by unfold pasV; rw [if_neg (by omega)]; rfl
theorem pasV_set (f : Nat → Nat) (c0 k : Nat) : (row 5 (pasV f c0 k)).set k (.int .u64 (pas f c0 k : Nat)) = row 5 (pasV f c0 (k + 1)) :=
  row_set k _ (by unfold pasV; rw [if_pos (by omega)]; rfl) (fun i _ h => by unfold pasV; by_cases h1 : i < k; rw [if_pos h1, if_pos (by omega)]; rw [if_neg h1, if_neg (by omega)])
theorem pasV_zero (f : Nat → Nat) (c0 : Nat) : row 5 (pasV f c0 0) = row 5 (fV f) := row_ext fun i _ => by unfold pasV; rw [if_neg (by omega)]
theorem pasV_five (f : Nat → Nat) (c0 : Nat) : row 5 (pasV f c0 5) = row 5 (fV (pas f c0)) := row_ext fun i h => by unfold pasV; rw [if_pos h]
theorem and51 (x : Nat) (h : x < 18446744073709551616) : bits BinOp.and IntKind.u64 (x : Int) 2251799813685247 = ((x % 2251799813685248 : Nat) : Int) := by
  rw [show (2251799813685247 : Int) = ((2251799813685247 : Nat) : Int) from rfl, u64_and_nat x 2251799813685247 h (by omega)]
  rw [show x &&& 2251799813685247 = x % 2251799813685248 from Nat.and_two_pow_sub_one_eq_mod x 51]
/-- What the walk wants of one step of a pass. -/
theorem pass_step (f : Nat → Nat) (c0 k : Nat) (h : f k + cr f c0 k < 18446744073709551616) :
    ∃ s : Int, IntKind.u64.wrap ((f k : Nat) + (cr f c0 k : Nat) : Int) = s ∧ 0 ≤ s ∧ s < 18446744073709551616 ∧ bits BinOp.and IntKind.u64 s 2251799813685247 = (pas f c0 k : Nat) ∧ s / 2251799813685248 = (cr f c0 (k + 1) : Nat) := by
  refine ⟨((f k + cr f c0 k : Nat) : Int), by rw [wrapU]; omega, by omega, by omega, and51 _ h, ?_⟩
  show _ = (((f k + cr f c0 k) / 2251799813685248 : Nat) : Int)
  omega
set_option maxRecDepth 100000 in
set_option maxHeartbeats 1000000 in
theorem carried_any (f : Nat → Nat) (hf : ∀ i, i < 5 → f i ≤ 9223372036854775808) (w : World) :
    Calls Try.prog 84 #[.agg #[.int .u64 (f 0 : Nat), .int .u64 (f 1 : Nat), .int .u64 (f 2 : Nat), .int .u64 (f 3 : Nat), .int .u64 (f 4 : Nat)]] w fun e w' => e = .returned (.agg #[.int .u64 (cF f 0 : Nat), .int .u64 (cF f 1 : Nat), .int .u64 (cF f 2 : Nat), .int .u64 (cF f 3 : Nat), .int .u64 (cF f 4 : Nat)]) ∧ Below w.heap.size w w' := by
  have HF := Lib.hid hf
  clear hf
  go_enter Try.func84, Try.ntmps84
  go_wp2
  refine wp_gen (fun W => Blk W w.heap.size (row 5 (fV f)) 25 ∧ Blk W (w.heap.size + 1) (row 5 (fV fun _ => 0)) 27 ∧ Below w.heap.size w W) ?_ (fun W hW => ?_)
  · exact ⟨(Blk.new w _ _).alloc _, Blk.new' (by simp), (by repeat (first | (with_reducible refine Below.alloc' ?_ _) | (with_reducible refine Below.drew ?_) | (with_reducible refine below_drewN ?_ _) | ((with_reducible refine Below.setCell ?_ ?_ _); rotate_left; (focus (first | exact Nat.le_refl _ | (simp; done) | (simp; omega)))) | (with_reducible assumption) | (with_reducible exact Below.refl _ _)))⟩
  obtain ⟨hA, hO, hbel⟩ := hW
  refine wp_loop_rounds 3 ?_
  rw [rounds_succ]
  go_wp2
  go_loopw [3, 7] (fun c i wr => ∃ k : Nat, k ≤ 5 ∧ i = .int .i64 k ∧ c = .int .u64 (cr f 0 k : Nat) ∧ Blk wr w.heap.size (row 5 (pasV f 0 k)) 25 ∧ Blk wr (w.heap.size + 1) (row 5 (fV fun _ => 0)) 27 ∧ Below w.heap.size w wr) (fun _ i _ => 5 - (intOf i).toNat)
  case atStart => exact ⟨0, by omega, rfl, rfl, by rw [pasV_zero]; exact hA, hO, hbel⟩
  clear hA hO hbel
  have hb1 : ∀ k, k < 5 → f k + cr f 0 k < 18446744073709551616 := fun k hk => by
    have := HF.out k hk; have := cr_lt f 0 HF.out (by omega) k (by omega); omega
  have HB1 := Lib.hid hb1
  clear hb1
  case round =>
    obtain ⟨k, hk, rfl, rfl, hA, hO, hbel⟩ := hrel
    by_cases hlt : k < 5
    · obtain ⟨s, hs, hs0, hs1, ha, hd⟩ := pass_step f 0 k (HB1.out k hlt)
      have hcell := hA.at hlt
      rw [pasV_at] at hcell
      have hfr := hA.frozen k
      have HD := Lib.hid hd
      have HA := Lib.hid ((hA.set k (.int .u64 s)).set k (.int .u64 (pas f 0 k : Nat)))
      have HO := Lib.hid ((hO.other ⟨w.heap.size, k, none⟩ (by simp) (.int .u64 s)).other ⟨w.heap.size, k, none⟩ (by simp) (.int .u64 (pas f 0 k : Nat)))
      clear hA hO hd
      go_wp2
      go_roundw
      case rel => exact ⟨k + 1, by omega, by go_num, by rw [HD.out], by have := HA.out; rw [List.set_set, pasV_set] at this; exact this, HO.out, (by repeat (first | (with_reducible refine Below.alloc' ?_ _) | (with_reducible refine Below.drew ?_) | (with_reducible refine below_drewN ?_ _) | ((with_reducible refine Below.setCell ?_ ?_ _); rotate_left; (focus (first | exact Nat.le_refl _ | (simp; done) | (simp; omega)))) | (with_reducible assumption) | (with_reducible exact Below.refl _ _)))⟩
      case measure => simp [intOf]; omega
    · obtain rfl : k = 5 := by omega
      rw [pasV_five] at hA
      have hm : IntKind.u64.wrap (((cr f 0 5 : Nat) : Int) * 19) = ((cr f 0 5 * 19 : Nat) : Int) := by
        have := cr5 f HF.out; rw [wrapU]; omega
      have HC1 : Hid (cr f 0 5 * 19 ≤ 77843) := Lib.hid (by have := cr5 f HF.out; omega)
      clear hlt hk HB1
      generalize hc1 : cr f 0 5 * 19 = c1 at *
      have HC := Lib.hid hc1
      clear hc1
      go_wp2
      rw [rounds_succ]
      go_wp2
      clear hm
      go_loopw [3, 7] (fun c i wr => ∃ k : Nat, k ≤ 5 ∧ i = .int .i64 k ∧ c = .int .u64 (cr (pas f 0) c1 k : Nat) ∧ Blk wr w.heap.size (row 5 (pasV (pas f 0) c1 k)) 25 ∧ Blk wr (w.heap.size + 1) (row 5 (fV fun _ => 0)) 27 ∧ Below w.heap.size w wr) (fun _ i _ => 5 - (intOf i).toNat)
      case atStart => exact ⟨0, by omega, rfl, rfl, by rw [pasV_zero]; exact hA, hO, hbel⟩
      clear hA hO hbel
      have hb2 : ∀ k, k < 5 → pas f 0 k + cr (pas f 0) c1 k < 18446744073709551616 := fun k hk => by
        have := pas_lt f 0 k; have := cr_lt (pas f 0) c1 (fun i _ => by have := pas_lt f 0 i; omega) (by have := HC1.out; omega) k (by omega); omega
      have HB2 := Lib.hid hb2
      clear hb2
      case round =>
        obtain ⟨k, hk, rfl, rfl, hA, hO, hbel⟩ := hrel
        by_cases hlt : k < 5
        · obtain ⟨s, hs, hs0, hs1, ha, hd⟩ := pass_step (pas f 0) c1 k (HB2.out k hlt)
          have hcell := hA.at hlt
          rw [pasV_at] at hcell
          have hfr := hA.frozen k
          have HD := Lib.hid hd
          have HA := Lib.hid ((hA.set k (.int .u64 s)).set k (.int .u64 (pas (pas f 0) c1 k : Nat)))
          have HO := Lib.hid ((hO.other ⟨w.heap.size, k, none⟩ (by simp) (.int .u64 s)).other ⟨w.heap.size, k, none⟩ (by simp) (.int .u64 (pas (pas f 0) c1 k : Nat)))
          clear hA hO hd
          go_wp2
          go_roundw
          case rel => exact ⟨k + 1, by omega, by go_num, by rw [HD.out], by have := HA.out; rw [List.set_set, pasV_set] at this; exact this, HO.out, (by repeat (first | (with_reducible refine Below.alloc' ?_ _) | (with_reducible refine Below.drew ?_) | (with_reducible refine below_drewN ?_ _) | ((with_reducible refine Below.setCell ?_ ?_ _); rotate_left; (focus (first | exact Nat.le_refl _ | (simp; done) | (simp; omega)))) | (with_reducible assumption) | (with_reducible exact Below.refl _ _)))⟩
          case measure => simp [intOf]; omega
        · obtain rfl : k = 5 := by omega
          rw [pasV_five] at hA
          have h5 := cr_one (pas f 0) c1 (pas_lt f 0) (by have := HC1.out; omega) 5 (by omega)
          have h0 := pas_lt (pas f 0) c1 0
          have hm : IntKind.u64.wrap (((cr (pas f 0) c1 5 : Nat) : Int) * 19) = ((cr (pas f 0) c1 5 * 19 : Nat) : Int) := by rw [wrapU]; omega
          have hs : IntKind.u64.wrap (((pas (pas f 0) c1 0 : Nat) : Int) + ((cr (pas f 0) c1 5 * 19 : Nat) : Int)) = ((cF f 0 : Nat) : Int) := by
            rw [wrapU]; show _ = ((pas (pas f 0) (cr f 0 5 * 19) 0 + cr (pas f 0) (cr f 0 5 * 19) 5 * 19 : Nat) : Int)
            rw [HC.out]; omega
          rw [row5] at hA hO
          have hAc := hA.cell; have hAf := hA.frozen; have hOc := hO.cell; have hOf := hO.frozen
          unfold fV at hAc hOc
          rw [show pas (pas f 0) c1 1 = cF f 1 from by rw [← HC.out]; rfl, show pas (pas f 0) c1 2 = cF f 2 from by rw [← HC.out]; rfl, show pas (pas f 0) c1 3 = cF f 3 from by rw [← HC.out]; rfl, show pas (pas f 0) c1 4 = cF f 4 from by rw [← HC.out]; rfl] at hAc
          generalize cr (pas f 0) c1 5 * 19 = c2 at *
          generalize cr (pas f 0) c1 5 = c3 at *
          generalize pas (pas f 0) c1 0 = p0 at *
          clear h5 h0 hA hO hlt hk HB2
          go_wp2
          rw [rounds_succ]
          go_wp2
          exact bodyPost_ret (v := .agg #[.int .u64 (cF f 0 : Nat), .int .u64 (cF f 1 : Nat), .int .u64 (cF f 2 : Nat), .int .u64 (cF f 3 : Nat), .int .u64 (cF f 4 : Nat)]) (by simp [results, Try.results84, go_sem, hOc]) rfl ⟨rfl, (by repeat (first | (with_reducible refine Below.alloc' ?_ _) | (with_reducible refine Below.drew ?_) | (with_reducible refine below_drewN ?_ _) | ((with_reducible refine Below.setCell ?_ ?_ _); rotate_left; (focus (first | exact Nat.le_refl _ | (simp; done) | (simp; omega)))) | (with_reducible assumption) | (with_reducible exact Below.refl _ _)))⟩
end Go.Proofs.Ytjchdhpijopikaa
namespace Go.Proofs.Ytjchdhpijopikaa
open Go.RowKit
/-- The limbs f mean the number n (below p). -/
structure FE (f : Nat → Nat) (n : Nat) : Prop where
  lim : Lim f
  num : val f % Pq = n
theorem FE.lt {f : Nat → Nat} {n : Nat} (h : FE f n) : n < Pq := by rw [← h.num]; exact Nat.mod_lt _ Pq_pos
theorem Lim.lt {f : Nat → Nat} (h : Lim f) : ∀ i, i < 5 → f i < 2251799813685268 := by
  intro i hi
  have hh : i = 0 ∨ i = 1 ∨ i = 2 ∨ i = 3 ∨ i = 4 := by omega
  rcases hh with rfl | rfl | rfl | rfl | rfl
  · exact h.l0
  · have := h.l1; omega
  · have := h.l2; omega
  · have := h.l3; omega
  · have := h.l4; omega
def addF (f g : Nat → Nat) (i : Nat) : Nat := f i + g i
theorem addF_val (f g : Nat → Nat) : val (addF f g) = val f + val g := by simp only [val, addF]; omega
theorem addF_at {f g : Nat → Nat} (hf : Lim f) (hg : Lim g) (i : Nat) (hi : i < 5) : IntKind.u64.wrap ((f i : Nat) + (g i : Nat) : Int) = (addF f g i : Nat) := by
  have := hf.lt i hi; have := hg.lt i hi
  unfold addF; rw [wrapU]; omega
set_option maxRecDepth 100000 in
set_option maxHeartbeats 1000000 in
theorem feadd_any {f g : Nat → Nat} {x y : Nat} (hf : FE f x) (hg : FE g y) (w : World) :
    Calls Try.prog 41 #[.agg #[.int .u64 (f 0 : Nat), .int .u64 (f 1 : Nat), .int .u64 (f 2 : Nat), .int .u64 (f 3 : Nat), .int .u64 (f 4 : Nat)], .agg #[.int .u64 (g 0 : Nat), .int .u64 (g 1 : Nat), .int .u64 (g 2 : Nat), .int .u64 (g 3 : Nat), .int .u64 (g 4 : Nat)]] w fun e w' => ∃ h, e = .returned (.agg #[.int .u64 (h 0 : Nat), .int .u64 (h 1 : Nat), .int .u64 (h 2 : Nat), .int .u64 (h 3 : Nat), .int .u64 (h 4 : Nat)]) ∧ FE h ((x + y) % Pq) ∧ Below w.heap.size w w' := by
  have s0 := addF_at hf.lim hg.lim 0 (by omega)
  have s1 := addF_at hf.lim hg.lim 1 (by omega)
  have s2 := addF_at hf.lim hg.lim 2 (by omega)
  have s3 := addF_at hf.lim hg.lim 3 (by omega)
  have s4 := addF_at hf.lim hg.lim 4 (by omega)
  have hb : ∀ i, i < 5 → addF f g i ≤ 9223372036854775808 := fun i hi => by
    have := hf.lim.lt i hi; have := hg.lim.lt i hi; unfold addF; omega
  have HB := Lib.hid hb
  have HR : Hid (FE (cF (addF f g)) ((x + y) % Pq)) := Lib.hid ⟨cF_lim _ hb, by rw [cF_val, addF_val, Nat.add_mod, hf.num, hg.num]⟩
  clear hb hf hg
  go_enter Try.func41, Try.ntmps41
  go_wp2
  refine wp_loop_rounds 6 ?_
  iterate 5 (rw [rounds_succ]; go_wp2; go_region; go_wp2)
  rw [rounds_succ]
  go_wp2_with (go_at_call 84; go_must (refine (carried_any (addF f g) HB.out _).mono ?_; rintro e w1 ⟨rfl, hb⟩; have hO := (show Blk _ (w.heap.size + 1 + 1) [.int .u64 0, .int .u64 0, .int .u64 0, .int .u64 0, .int .u64 0] 27 from (by repeat (first | (with_reducible refine Blk.drew ?_) | exact Blk.new' (by simp) | (with_reducible refine Blk.alloc ?_ _)))).below' hb; have hOc := hO.cell; have hOf := hO.frozen; have hbel : Below w.heap.size w w1 := Below.call (by repeat (first | (with_reducible refine Below.alloc' ?_ _) | (with_reducible refine Below.drew ?_) | (with_reducible refine below_drewN ?_ _) | ((with_reducible refine Below.setCell ?_ ?_ _); rotate_left; (focus (first | exact Nat.le_refl _ | (simp; done) | (simp; omega)))) | (with_reducible assumption) | (with_reducible exact Below.refl _ _))) hb; clear hb hO))
  exact bodyPost_ret (v := .agg #[.int .u64 (cF (addF f g) 0 : Nat), .int .u64 (cF (addF f g) 1 : Nat), .int .u64 (cF (addF f g) 2 : Nat), .int .u64 (cF (addF f g) 3 : Nat), .int .u64 (cF (addF f g) 4 : Nat)]) (by simp [results, Try.results41, go_sem, hOc]) rfl ⟨_, rfl, HR.out, (by repeat (first | (with_reducible refine Below.alloc' ?_ _) | (with_reducible refine Below.drew ?_) | (with_reducible refine below_drewN ?_ _) | ((with_reducible refine Below.setCell ?_ ?_ _); rotate_left; (focus (first | exact Nat.le_refl _ | (simp; done) | (simp; omega)))) | (with_reducible assumption) | (with_reducible exact Below.refl _ _)))⟩
def fourP (i : Nat) : Nat := if i = 0 then 9007199254740916 else 9007199254740988
def subF (f g : Nat → Nat) (i : Nat) : Nat := f i + (fourP i - g i)
theorem subF_val {f g : Nat → Nat} (hg : Lim g) : val (subF f g) + val g = val f + 4 * Pq := by
  have h0 := hg.l0; have h1 := hg.l1; have h2 := hg.l2; have h3 := hg.l3; have h4 := hg.l4
  simp only [val, subF, fourP, if_true, if_neg (show ¬ (1 = 0) by omega), if_neg (show ¬ (2 = 0) by omega), if_neg (show ¬ (3 = 0) by omega), if_neg (show ¬ (4 = 0) by omega), Pq]
  omega
theorem subF_at {f g : Nat → Nat} (hf : Lim f) (hg : Lim g) (i : Nat) (hi : i < 5) : IntKind.u64.wrap ((f i : Nat) + IntKind.u64.wrap ((fourP i : Nat) - (g i : Nat)) : Int) = (subF f g i : Nat) := by
  have := hf.lt i hi; have := hg.lt i hi
  have hk : 9007199254740916 ≤ fourP i ∧ fourP i ≤ 9007199254740988 := by unfold fourP; split <;> omega
  unfold subF; rw [wrapU, wrapU]; omega
theorem mod_sub {a b x y : Nat} (h : a + b = x + 4 * Pq) (hy : b % Pq = y) : a % Pq = (x % Pq + (Pq - y)) % Pq := by
  unfold Pq at *; omega
set_option maxRecDepth 100000 in
set_option maxHeartbeats 1000000 in
theorem fesub_any {f g : Nat → Nat} {x y : Nat} (hf : FE f x) (hg : FE g y) (w : World) :
    Calls Try.prog 39 #[.agg #[.int .u64 (f 0 : Nat), .int .u64 (f 1 : Nat), .int .u64 (f 2 : Nat), .int .u64 (f 3 : Nat), .int .u64 (f 4 : Nat)], .agg #[.int .u64 (g 0 : Nat), .int .u64 (g 1 : Nat), .int .u64 (g 2 : Nat), .int .u64 (g 3 : Nat), .int .u64 (g 4 : Nat)]] w fun e w' => ∃ h, e = .returned (.agg #[.int .u64 (h 0 : Nat), .int .u64 (h 1 : Nat), .int .u64 (h 2 : Nat), .int .u64 (h 3 : Nat), .int .u64 (h 4 : Nat)]) ∧ FE h ((x + (Pq - y)) % Pq) ∧ Below w.heap.size w w' := by
  have s0 : IntKind.u64.wrap ((f 0 : Nat) + IntKind.u64.wrap (9007199254740916 - (g 0 : Nat)) : Int) = (subF f g 0 : Nat) := subF_at hf.lim hg.lim 0 (by omega)
  have s1 : IntKind.u64.wrap ((f 1 : Nat) + IntKind.u64.wrap (9007199254740988 - (g 1 : Nat)) : Int) = (subF f g 1 : Nat) := subF_at hf.lim hg.lim 1 (by omega)
  have s2 : IntKind.u64.wrap ((f 2 : Nat) + IntKind.u64.wrap (9007199254740988 - (g 2 : Nat)) : Int) = (subF f g 2 : Nat) := subF_at hf.lim hg.lim 2 (by omega)
  have s3 : IntKind.u64.wrap ((f 3 : Nat) + IntKind.u64.wrap (9007199254740988 - (g 3 : Nat)) : Int) = (subF f g 3 : Nat) := subF_at hf.lim hg.lim 3 (by omega)
  have s4 : IntKind.u64.wrap ((f 4 : Nat) + IntKind.u64.wrap (9007199254740988 - (g 4 : Nat)) : Int) = (subF f g 4 : Nat) := subF_at hf.lim hg.lim 4 (by omega)
  have hb : ∀ i, i < 5 → subF f g i ≤ 9223372036854775808 := fun i hi => by
    have := hf.lim.lt i hi
    have hk : fourP i ≤ 9007199254740988 := by unfold fourP; split <;> omega
    unfold subF; omega
  have HB := Lib.hid hb
  have HR : Hid (FE (cF (subF f g)) ((x + (Pq - y)) % Pq)) := Lib.hid ⟨cF_lim _ hb, by rw [cF_val, mod_sub (subF_val hg.lim) hg.num, hf.num]⟩
  clear hb hf hg
  go_enter Try.func39, Try.ntmps39
  go_wp2
  refine wp_loop_rounds 6 ?_
  iterate 5 (rw [rounds_succ]; go_wp2; (try go_region); go_wp2)
  rw [rounds_succ]
  go_wp2_with (go_at_call 84; go_must (refine (carried_any (subF f g) HB.out _).mono ?_; rintro e w1 ⟨rfl, hb⟩; have hO := (show Blk _ (w.heap.size + 1 + 1) [.int .u64 0, .int .u64 0, .int .u64 0, .int .u64 0, .int .u64 0] 27 from (by repeat (first | (with_reducible refine Blk.drew ?_) | exact Blk.new' (by simp) | (with_reducible refine Blk.alloc ?_ _)))).below' hb; have hOc := hO.cell; have hOf := hO.frozen; have hbel : Below w.heap.size w w1 := Below.call (by repeat (first | (with_reducible refine Below.alloc' ?_ _) | (with_reducible refine Below.drew ?_) | (with_reducible refine below_drewN ?_ _) | ((with_reducible refine Below.setCell ?_ ?_ _); rotate_left; (focus (first | exact Nat.le_refl _ | (simp; done) | (simp; omega)))) | (with_reducible assumption) | (with_reducible exact Below.refl _ _))) hb; clear hb hO))
  exact bodyPost_ret (v := .agg #[.int .u64 (cF (subF f g) 0 : Nat), .int .u64 (cF (subF f g) 1 : Nat), .int .u64 (cF (subF f g) 2 : Nat), .int .u64 (cF (subF f g) 3 : Nat), .int .u64 (cF (subF f g) 4 : Nat)]) (by simp [results, Try.results39, go_sem, hOc]) rfl ⟨_, rfl, HR.out, (by repeat (first | (with_reducible refine Below.alloc' ?_ _) | (with_reducible refine Below.drew ?_) | (with_reducible refine below_drewN ?_ _) | ((with_reducible refine Below.setCell ?_ ?_ _); rotate_left; (focus (first | exact Nat.le_refl _ | (simp; done) | (simp; omega)))) | (with_reducible assumption) | (with_reducible exact Below.refl _ _)))⟩
theorem FE.zero : FE (fun _ => 0) 0 := ⟨⟨by omega, by omega, by omega, by omega, by omega⟩, by decide +kernel⟩
theorem buildE (w : World) : (Instr.build 27 #[]).run Try.prog w = .ok (.agg #[.int .u64 0, .int .u64 0, .int .u64 0, .int .u64 0, .int .u64 0]) w := by kernel_rfl
theorem fesub_zero {g : Nat → Nat} {y : Nat} (hg : FE g y) (w : World) :
    Calls Try.prog 39 #[.agg #[.int .u64 0, .int .u64 0, .int .u64 0, .int .u64 0, .int .u64 0], .agg #[.int .u64 (g 0 : Nat), .int .u64 (g 1 : Nat), .int .u64 (g 2 : Nat), .int .u64 (g 3 : Nat), .int .u64 (g 4 : Nat)]] w fun e w' => ∃ h, e = .returned (.agg #[.int .u64 (h 0 : Nat), .int .u64 (h 1 : Nat), .int .u64 (h 2 : Nat), .int .u64 (h 3 : Nat), .int .u64 (h 4 : Nat)]) ∧ FE h ((Pq - y) % Pq) ∧ Below w.heap.size w w' := by
  have := fesub_any FE.zero hg w
  rw [Nat.zero_add] at this; exact this
set_option maxRecDepth 100000 in
set_option maxHeartbeats 1000000 in
theorem feneg_any {f : Nat → Nat} {x : Nat} (hf : FE f x) (w : World) :
    Calls Try.prog 47 #[.agg #[.int .u64 (f 0 : Nat), .int .u64 (f 1 : Nat), .int .u64 (f 2 : Nat), .int .u64 (f 3 : Nat), .int .u64 (f 4 : Nat)]] w fun e w' => ∃ h, e = .returned (.agg #[.int .u64 (h 0 : Nat), .int .u64 (h 1 : Nat), .int .u64 (h 2 : Nat), .int .u64 (h 3 : Nat), .int .u64 (h 4 : Nat)]) ∧ FE h ((Pq - x) % Pq) ∧ Below w.heap.size w w' := by
  have hbE := buildE
  go_enter Try.func47, Try.ntmps47
  go_wp2_with (go_at_call 39; go_must (refine (fesub_zero hf _).mono ?_; rintro e w1 ⟨h, rfl, hr, hb⟩; have hO := (show Blk _ (w.heap.size + 1) [.int .u64 0, .int .u64 0, .int .u64 0, .int .u64 0, .int .u64 0] 27 from (by repeat (first | (with_reducible refine Blk.drew ?_) | exact Blk.new' (by simp) | (with_reducible refine Blk.alloc ?_ _)))).below' hb; have hOc := hO.cell; have hOf := hO.frozen; have hbel : Below w.heap.size w w1 := Below.call (by repeat (first | (with_reducible refine Below.alloc' ?_ _) | (with_reducible refine Below.drew ?_) | (with_reducible refine below_drewN ?_ _) | ((with_reducible refine Below.setCell ?_ ?_ _); rotate_left; (focus (first | exact Nat.le_refl _ | (simp; done) | (simp; omega)))) | (with_reducible assumption) | (with_reducible exact Below.refl _ _))) hb; clear hb hO))
  exact bodyPost_ret (v := .agg #[.int .u64 (h 0 : Nat), .int .u64 (h 1 : Nat), .int .u64 (h 2 : Nat), .int .u64 (h 3 : Nat), .int .u64 (h 4 : Nat)]) (by simp [results, Try.results47, go_sem, hOc]) rfl ⟨_, rfl, hr, (by repeat (first | (with_reducible refine Below.alloc' ?_ _) | (with_reducible refine Below.drew ?_) | (with_reducible refine below_drewN ?_ _) | ((with_reducible refine Below.setCell ?_ ?_ _); rotate_left; (focus (first | exact Nat.le_refl _ | (simp; done) | (simp; omega)))) | (with_reducible assumption) | (with_reducible exact Below.refl _ _)))⟩
def smallF (n i : Nat) : Nat := if i = 0 then n % 2251799813685248 else if i = 1 then n / 2251799813685248 else 0
theorem smallF_val (n : Nat) : val (smallF n) = n := by
  simp only [val, smallF, if_true, if_neg (show ¬ (1 = 0) by omega), if_neg (show ¬ (2 = 0) by omega), if_neg (show ¬ (3 = 0) by omega), if_neg (show ¬ (4 = 0) by omega), if_neg (show ¬ (2 = 1) by omega), if_neg (show ¬ (3 = 1) by omega), if_neg (show ¬ (4 = 1) by omega)]
  omega
theorem FE.small {n : Nat} (hn : n < 18446744073709551616) : FE (smallF n) n :=
  ⟨⟨by simp only [smallF, if_true]; omega, by simp [smallF]; omega, by simp [smallF], by simp [smallF], by simp [smallF]⟩, by rw [smallF_val, Nat.mod_eq_of_lt (by unfold Pq; omega)]⟩
set_option maxRecDepth 100000 in
set_option maxHeartbeats 1000000 in
theorem fesmall_any {n : Nat} (hn : n < 18446744073709551616) (w : World) :
    Calls Try.prog 37 #[.int .u64 n] w fun e w' => e = .returned (.agg #[.int .u64 (smallF n 0 : Nat), .int .u64 (smallF n 1 : Nat), .int .u64 (smallF n 2 : Nat), .int .u64 (smallF n 3 : Nat), .int .u64 (smallF n 4 : Nat)]) ∧ Below w.heap.size w w' := by
  have ha := and51 n hn
  have HD : Hid ((n : Int) / 2251799813685248 = (smallF n 1 : Nat)) := Lib.hid (by simp [smallF])
  have HE : Hid (((n % 2251799813685248 : Nat) : Int) = (smallF n 0 : Nat)) := Lib.hid (by simp [smallF])
  rw [HE.out] at ha
  clear hn
  go_enter Try.func37, Try.ntmps37
  go_wp2
  exact bodyPost_ret (v := .agg #[.int .u64 (smallF n 0 : Nat), .int .u64 ((n : Int) / 2251799813685248), .int .u64 0, .int .u64 0, .int .u64 0]) (by simp [results, Try.results37, go_sem]) rfl ⟨by rw [HD.out]; rfl, (by repeat (first | (with_reducible refine Below.alloc' ?_ _) | (with_reducible refine Below.drew ?_) | (with_reducible refine below_drewN ?_ _) | ((with_reducible refine Below.setCell ?_ ?_ _); rotate_left; (focus (first | exact Nat.le_refl _ | (simp; done) | (simp; omega)))) | (with_reducible assumption) | (with_reducible exact Below.refl _ _)))⟩
set_option maxRecDepth 100000 in
set_option maxHeartbeats 1000000 in
theorem fepick_any (b : Bool) (f g : Nat → Nat) (w : World) :
    Calls Try.prog 46 #[.bool b, .agg #[.int .u64 (f 0 : Nat), .int .u64 (f 1 : Nat), .int .u64 (f 2 : Nat), .int .u64 (f 3 : Nat), .int .u64 (f 4 : Nat)], .agg #[.int .u64 (g 0 : Nat), .int .u64 (g 1 : Nat), .int .u64 (g 2 : Nat), .int .u64 (g 3 : Nat), .int .u64 (g 4 : Nat)]] w fun e w' => e = .returned (.agg #[.int .u64 ((if b then f else g) 0 : Nat), .int .u64 ((if b then f else g) 1 : Nat), .int .u64 ((if b then f else g) 2 : Nat), .int .u64 ((if b then f else g) 3 : Nat), .int .u64 ((if b then f else g) 4 : Nat)]) ∧ Below w.heap.size w w' := by
  cases b
  · go_enter Try.func46, Try.ntmps46
    go_wp2
    exact bodyPost_ret (v := .agg #[.int .u64 (g 0 : Nat), .int .u64 (g 1 : Nat), .int .u64 (g 2 : Nat), .int .u64 (g 3 : Nat), .int .u64 (g 4 : Nat)]) (by simp [results, Try.results46, go_sem]) rfl ⟨rfl, (by repeat (first | (with_reducible refine Below.alloc' ?_ _) | (with_reducible refine Below.drew ?_) | (with_reducible refine below_drewN ?_ _) | ((with_reducible refine Below.setCell ?_ ?_ _); rotate_left; (focus (first | exact Nat.le_refl _ | (simp; done) | (simp; omega)))) | (with_reducible assumption) | (with_reducible exact Below.refl _ _)))⟩
  · go_enter Try.func46, Try.ntmps46
    go_wp2
    exact bodyPost_ret (v := .agg #[.int .u64 (f 0 : Nat), .int .u64 (f 1 : Nat), .int .u64 (f 2 : Nat), .int .u64 (f 3 : Nat), .int .u64 (f 4 : Nat)]) (by simp [results, Try.results46, go_sem]) rfl ⟨rfl, (by repeat (first | (with_reducible refine Below.alloc' ?_ _) | (with_reducible refine Below.drew ?_) | (with_reducible refine below_drewN ?_ _) | ((with_reducible refine Below.setCell ?_ ?_ _); rotate_left; (focus (first | exact Nat.le_refl _ | (simp; done) | (simp; omega)))) | (with_reducible assumption) | (with_reducible exact Below.refl _ _)))⟩
end Go.Proofs.Ytjchdhpijopikaa
namespace Go.Proofs.Ytjchdhpijopikaa
open Go.RowKit
/-- The two words of a number of 128 digits. -/
def whi (n : Nat) : Nat := n / 18446744073709551616
def wlo (n : Nat) : Nat := n % 18446744073709551616
theorem plus_num (n a b : Nat) (_ha : a < 18446744073709551616) (_hb : b < 18446744073709551616) (h : n + a * b < 340282366920938463463374607431768211456) :
    adds (mlo a b) (wlo n : Nat) 0 = (wlo (n + a * b) : Nat) ∧ adds (mhi a b) (whi n : Nat) (addc (mlo a b) (wlo n : Nat) 0) = (whi (n + a * b) : Nat) := by
  unfold adds addc mlo mhi wlo whi
  rw [show (a : Int) * (b : Int) = ((a * b : Nat) : Int) from by simp]
  generalize a * b = p at *
  constructor
  · omega
  · omega
theorem mhi_wd (a b : Nat) (ha : a < 18446744073709551616) (hb : b < 18446744073709551616) : Wd (mhi a b) := by
  have h5 : a * b ≤ 18446744073709551615 * 18446744073709551615 := Nat.mul_le_mul (by omega) (by omega)
  unfold mhi
  rw [show (a : Int) * (b : Int) = ((a * b : Nat) : Int) from by simp]
  generalize a * b = p at *
  exact ⟨by omega, by omega⟩
theorem wlo_wd (n : Nat) : Wd (wlo n : Nat) := by unfold wlo; exact ⟨by omega, by omega⟩
theorem whi_wd {n : Nat} (h : n < 340282366920938463463374607431768211456) : Wd (whi n : Nat) := by unfold whi; exact ⟨by omega, by omega⟩
set_option maxRecDepth 100000 in
set_option maxHeartbeats 1000000 in
theorem feplus_any (n a b : Nat) (ha : a < 18446744073709551616) (hb : b < 18446744073709551616) (h : n + a * b < 340282366920938463463374607431768211456) (w : World) :
    Calls Try.prog 83 #[.agg #[.int .u64 (whi n : Nat), .int .u64 (wlo n : Nat)], .int .u64 a, .int .u64 b] w fun e w' => e = .returned (.agg #[.int .u64 (whi (n + a * b) : Nat), .int .u64 (wlo (n + a * b) : Nat)]) ∧ Below w.heap.size w w' := by
  have hn := plus_num n a b ha hb h
  have h1 := fun w => add64 (mlo_wd a b) (wlo_wd n) Cy.zero w
  have h2 := fun w => add64 (mhi_wd a b ha hb) (whi_wd (n := n) (by omega)) (addc_cy (mlo_wd a b) (wlo_wd n) Cy.zero) w
  rw [hn.1] at h1
  rw [hn.2] at h2
  have HM := Lib.hid (fun w => mul64_o (x := a) (y := b) ⟨by omega, by omega⟩ ⟨by omega, by omega⟩ w)
  clear hn h ha hb
  go_enter Try.func83, Try.ntmps83
  go_wp2_with (go_at_call 79; go_must (refine (HM.out _).mono ?_; rintro e w1 ⟨rfl, rfl⟩))
  exact bodyPost_ret (v := .agg #[.int .u64 (whi (n + a * b) : Nat), .int .u64 (wlo (n + a * b) : Nat)]) (by simp [results, Try.results83, go_sem]) rfl ⟨rfl, (by repeat (first | (with_reducible refine Below.alloc' ?_ _) | (with_reducible refine Below.drew ?_) | (with_reducible refine below_drewN ?_ _) | ((with_reducible refine Below.setCell ?_ ?_ _); rotate_left; (focus (first | exact Nat.le_refl _ | (simp; done) | (simp; omega)))) | (with_reducible assumption) | (with_reducible exact Below.refl _ _)))⟩
theorem ix5_0 (x0 x1 x2 x3 x4 : Value) (w : World) : (Instr.index 25 (.agg #[x0, x1, x2, x3, x4]) (.int .i64 0)).run Try.prog w = .ok x0 w := by kernel_rfl
theorem ix5_1 (x0 x1 x2 x3 x4 : Value) (w : World) : (Instr.index 25 (.agg #[x0, x1, x2, x3, x4]) (.int .i64 1)).run Try.prog w = .ok x1 w := by kernel_rfl
theorem ix5_2 (x0 x1 x2 x3 x4 : Value) (w : World) : (Instr.index 25 (.agg #[x0, x1, x2, x3, x4]) (.int .i64 2)).run Try.prog w = .ok x2 w := by kernel_rfl
theorem ix5_3 (x0 x1 x2 x3 x4 : Value) (w : World) : (Instr.index 25 (.agg #[x0, x1, x2, x3, x4]) (.int .i64 3)).run Try.prog w = .ok x3 w := by kernel_rfl
theorem ix5_4 (x0 x1 x2 x3 x4 : Value) (w : World) : (Instr.index 25 (.agg #[x0, x1, x2, x3, x4]) (.int .i64 4)).run Try.prog w = .ok x4 w := by kernel_rfl
theorem ix5 (f : Nat → Nat) (k : Nat) (hk : k < 5) (w : World) : (Instr.index 25 (.agg #[.int .u64 (f 0 : Nat), .int .u64 (f 1 : Nat), .int .u64 (f 2 : Nat), .int .u64 (f 3 : Nat), .int .u64 (f 4 : Nat)]) (.int .i64 (k : Nat))).run Try.prog w = .ok (.int .u64 (f k : Nat)) w := by
  have h : k = 0 ∨ k = 1 ∨ k = 2 ∨ k = 3 ∨ k = 4 := by omega
  rcases h with rfl | rfl | rfl | rfl | rfl
  · exact ix5_0 _ _ _ _ _ _
  · exact ix5_1 _ _ _ _ _ _
  · exact ix5_2 _ _ _ _ _ _
  · exact ix5_3 _ _ _ _ _ _
  · exact ix5_4 _ _ _ _ _ _
/-- The columns of a product, when i rows, and j products of the next one, were done. -/
def colStep (f g : Nat → Nat) (i j : Nat) (R : Nat → Nat) (k : Nat) : Nat :=
  if k = (i + j) % 5 then R k + (if 5 ≤ i + j then f i * 19 else f i) * g j else R k
def colJ (f g : Nat → Nat) (i : Nat) (R : Nat → Nat) : Nat → Nat → Nat
  | 0 => R
  | j + 1 => colStep f g i j (colJ f g i R j)
def colI (f g : Nat → Nat) : Nat → Nat → Nat
  | 0 => fun _ => 0
  | i + 1 => colJ f g i (colI f g i) 5
def col (f g : Nat → Nat) (i j : Nat) : Nat → Nat := colJ f g i (colI f g i) j
/-- The columns as cells. -/
def colV (R : Nat → Nat) (q : Nat) : Value := if q % 2 = 0 then .int .u64 (whi (R (q / 2)) : Nat) else .int .u64 (wlo (R (q / 2)) : Nat)
theorem col_succ (f g : Nat → Nat) (i j : Nat) : col f g i (j + 1) = colStep f g i j (col f g i j) := rfl
theorem colStep_le {f g R : Nat → Nat} {i j B : Nat} (hf : Lim f) (hg : Lim g) (hi : i < 5) (hj : j < 5) (h : ∀ k, R k ≤ B) (k : Nat) : colStep f g i j R k ≤ B + 96342400000000000000000000000000 := by
  have h1 := hf.lt i hi
  have h2 := hg.lt j hj
  have h3 : (if 5 ≤ i + j then f i * 19 else f i) ≤ 42784196460020092 := by split <;> omega
  have h4 : (if 5 ≤ i + j then f i * 19 else f i) * g j ≤ 96342400000000000000000000000000 := Nat.le_trans (Nat.mul_le_mul h3 (show g j ≤ 2251799813685268 by omega)) (by decide)
  have := h k
  unfold colStep
  generalize (if 5 ≤ i + j then f i * 19 else f i) * g j = z at *
  split <;> omega
theorem colJ_le {f g R : Nat → Nat} {i B : Nat} (hf : Lim f) (hg : Lim g) (hi : i < 5) (h : ∀ k, R k ≤ B) : ∀ j, j ≤ 5 → ∀ k, colJ f g i R j k ≤ B + j * 96342400000000000000000000000000
  | 0, _, k => by have := h k; simpa [colJ] using this
  | j + 1, hj, k => by
    have := colStep_le (j := j) hf hg hi (by omega) (colJ_le hf hg hi h j (by omega)) k
    show colStep f g i j (colJ f g i R j) k ≤ _
    omega
theorem colI_le {f g : Nat → Nat} (hf : Lim f) (hg : Lim g) : ∀ i, i ≤ 5 → ∀ k, colI f g i k ≤ 5 * i * 96342400000000000000000000000000
  | 0, _, k => by simp [colI]
  | i + 1, hi, k => by
    have := colJ_le hf hg (show i < 5 by omega) (colI_le hf hg i (by omega)) 5 (by omega) k
    show colJ f g i (colI f g i) 5 k ≤ _
    omega
theorem col_le {f g : Nat → Nat} (hf : Lim f) (hg : Lim g) (i j : Nat) (hi : i < 5) (hj : j ≤ 5) (k : Nat) : col f g i j k ≤ 25 * 96342400000000000000000000000000 := by
  have := colJ_le hf hg hi (colI_le hf hg i (by omega)) j hj k
  unfold col
  have h2 : 5 * i * 96342400000000000000000000000000 ≤ 20 * 96342400000000000000000000000000 := Nat.mul_le_mul_right _ (by omega)
  have h3 : j * 96342400000000000000000000000000 ≤ 5 * 96342400000000000000000000000000 := Nat.mul_le_mul_right _ (by omega)
  omega
theorem colV_hi (R : Nat → Nat) (m : Nat) : colV R (m * 2) = .int .u64 (whi (R m) : Nat) := by
  unfold colV; rw [if_pos (by omega), show m * 2 / 2 = m from by omega]
theorem colV_lo (R : Nat → Nat) (m : Nat) : colV R (m * 2 + 1) = .int .u64 (wlo (R m) : Nat) := by
  unfold colV; rw [if_neg (by omega), show (m * 2 + 1) / 2 = m from by omega]
theorem colV_set (R : Nat → Nat) (m v : Nat) : ((row 10 (colV R)).set (m * 2) (.int .u64 (whi v : Nat))).set (m * 2 + 1) (.int .u64 (wlo v : Nat)) = row 10 (colV fun k => if k = m then v else R k) := by
  rw [row_set (g := fun q => if q = m * 2 then .int .u64 (whi v : Nat) else colV R q) (m * 2) _ (by simp) (fun i _ h => by simp [h])]
  refine row_set _ _ ?_ (fun i _ h => ?_)
  · rw [colV_lo, if_pos rfl]
  · by_cases h1 : i = m * 2
    · subst h1; rw [if_pos rfl, colV_hi, if_pos rfl]
    · rw [if_neg h1]
      unfold colV
      simp only [if_neg (show ¬ i / 2 = m by omega)]
theorem col_big (f g : Nat → Nat) (i j : Nat) (h : 5 ≤ i + j) (hi : i < 5) (hj : j < 5) : col f g i (j + 1) = fun k => if k = i + j - 5 then col f g i j (i + j - 5) + f i * 19 * g j else col f g i j k := by
  rw [col_succ]; funext k; unfold colStep
  rw [show (i + j) % 5 = i + j - 5 from by omega]
  by_cases hk : k = i + j - 5
  · subst hk; rw [if_pos rfl, if_pos rfl, if_pos h]
  · rw [if_neg hk, if_neg hk]
theorem col_low (f g : Nat → Nat) (i j : Nat) (h : ¬ 5 ≤ i + j) : col f g i (j + 1) = fun k => if k = i + j then col f g i j (i + j) + f i * g j else col f g i j k := by
  rw [col_succ]; funext k; unfold colStep
  rw [show (i + j) % 5 = i + j from by omega]
  by_cases hk : k = i + j
  · subst hk; rw [if_pos rfl, if_pos rfl, if_neg h]
  · rw [if_neg hk, if_neg hk]
theorem row10 (f : Nat → Value) : row 10 f = [f 0, f 1, f 2, f 3, f 4, f 5, f 6, f 7, f 8, f 9] := rfl
theorem colV_0 (R : Nat → Nat) : colV R 0 = .int .u64 (whi (R 0) : Nat) := rfl
theorem colV_1 (R : Nat → Nat) : colV R 1 = .int .u64 (wlo (R 0) : Nat) := rfl
theorem colV_2 (R : Nat → Nat) : colV R 2 = .int .u64 (whi (R 1) : Nat) := rfl
theorem colV_3 (R : Nat → Nat) : colV R 3 = .int .u64 (wlo (R 1) : Nat) := rfl
theorem colV_4 (R : Nat → Nat) : colV R 4 = .int .u64 (whi (R 2) : Nat) := rfl
theorem colV_5 (R : Nat → Nat) : colV R 5 = .int .u64 (wlo (R 2) : Nat) := rfl
theorem colV_6 (R : Nat → Nat) : colV R 6 = .int .u64 (whi (R 3) : Nat) := rfl
theorem colV_7 (R : Nat → Nat) : colV R 7 = .int .u64 (wlo (R 3) : Nat) := rfl
theorem colV_8 (R : Nat → Nat) : colV R 8 = .int .u64 (whi (R 4) : Nat) := rfl
theorem colV_9 (R : Nat → Nat) : colV R 9 = .int .u64 (wlo (R 4) : Nat) := rfl
/-- The columns are the product, but for 2^255, that is 19. -/
theorem col_val (f g : Nat → Nat) : val (col f g 5 0) % Pq = val f * val g % Pq := by
  have e : val f * val g = (f 0 * g 0 + 2251799813685248 * ((f 0 * g 1 + f 1 * g 0) + 2251799813685248 * ((f 0 * g 2 + f 1 * g 1 + f 2 * g 0) + 2251799813685248 * ((f 0 * g 3 + f 1 * g 2 + f 2 * g 1 + f 3 * g 0) + 2251799813685248 * (f 0 * g 4 + f 1 * g 3 + f 2 * g 2 + f 3 * g 1 + f 4 * g 0))))) +
      57896044618658097711785492504343953926634992332820282019728792003956564819968 * ((f 1 * g 4 + f 2 * g 3 + f 3 * g 2 + f 4 * g 1) + 2251799813685248 * ((f 2 * g 4 + f 3 * g 3 + f 4 * g 2) + 2251799813685248 * ((f 3 * g 4 + f 4 * g 3) + 2251799813685248 * (f 4 * g 4)))) := by
    unfold val; grind
  rw [e, add_mul_mod19]
  congr 1
  simp [val, col, colJ, colI, colStep]
  grind
theorem ixw_0 (x0 x1 x2 x3 x4 x5 x6 x7 x8 x9 : Value) (w : World) : (Instr.index 99 (.agg #[x0, x1, x2, x3, x4, x5, x6, x7, x8, x9]) (.int .i64 0)).run Try.prog w = .ok (.agg #[x0, x1]) w := by kernel_rfl
theorem ixw_1 (x0 x1 x2 x3 x4 x5 x6 x7 x8 x9 : Value) (w : World) : (Instr.index 99 (.agg #[x0, x1, x2, x3, x4, x5, x6, x7, x8, x9]) (.int .i64 1)).run Try.prog w = .ok (.agg #[x2, x3]) w := by kernel_rfl
theorem ixw_2 (x0 x1 x2 x3 x4 x5 x6 x7 x8 x9 : Value) (w : World) : (Instr.index 99 (.agg #[x0, x1, x2, x3, x4, x5, x6, x7, x8, x9]) (.int .i64 2)).run Try.prog w = .ok (.agg #[x4, x5]) w := by kernel_rfl
theorem ixw_3 (x0 x1 x2 x3 x4 x5 x6 x7 x8 x9 : Value) (w : World) : (Instr.index 99 (.agg #[x0, x1, x2, x3, x4, x5, x6, x7, x8, x9]) (.int .i64 3)).run Try.prog w = .ok (.agg #[x6, x7]) w := by kernel_rfl
theorem ixw_4 (x0 x1 x2 x3 x4 x5 x6 x7 x8 x9 : Value) (w : World) : (Instr.index 99 (.agg #[x0, x1, x2, x3, x4, x5, x6, x7, x8, x9]) (.int .i64 4)).run Try.prog w = .ok (.agg #[x8, x9]) w := by kernel_rfl
theorem ixw (R : Nat → Nat) (k : Nat) (hk : k < 5) (w : World) : (Instr.index 99 (.agg #[.int .u64 (whi (R 0) : Nat), .int .u64 (wlo (R 0) : Nat), .int .u64 (whi (R 1) : Nat), .int .u64 (wlo (R 1) : Nat), .int .u64 (whi (R 2) : Nat), .int .u64 (wlo (R 2) : Nat), .int .u64 (whi (R 3) : Nat), .int .u64 (wlo (R 3) : Nat), .int .u64 (whi (R 4) : Nat), .int .u64 (wlo (R 4) : Nat)]) (.int .i64 (k : Nat))).run Try.prog w = .ok (.agg #[.int .u64 (whi (R k) : Nat), .int .u64 (wlo (R k) : Nat)]) w := by
  have h : k = 0 ∨ k = 1 ∨ k = 2 ∨ k = 3 ∨ k = 4 := by omega
  rcases h with rfl | rfl | rfl | rfl | rfl
  · exact ixw_0 _ _ _ _ _ _ _ _ _ _ _
  · exact ixw_1 _ _ _ _ _ _ _ _ _ _ _
  · exact ixw_2 _ _ _ _ _ _ _ _ _ _ _
  · exact ixw_3 _ _ _ _ _ _ _ _ _ _ _
  · exact ixw_4 _ _ _ _ _ _ _ _ _ _ _
theorem lo51 (n : Nat) : bits BinOp.and IntKind.u64 (wlo n : Nat) 2251799813685247 = ((n % 2251799813685248 : Nat) : Int) := by
  rw [and51 _ (by unfold wlo; omega)]; unfold wlo; omega
theorem hi51 (n : Nat) (h : n < 41538374868278621028243970633760768) : bits BinOp.or IntKind.u64 (IntKind.u64.wrap ((whi n : Nat) * 8192 : Int)) ((wlo n : Nat) / 2251799813685248 : Int) = ((n / 2251799813685248 : Nat) : Int) := by
  have h1 : whi n < 2251799813685248 := by unfold whi; omega
  have h2 : wlo n / 2251799813685248 < 2 ^ 13 := by unfold wlo; omega
  rw [wrapU, show ((whi n : Nat) * 8192 : Int) % 18446744073709551616 = ((whi n * 8192 : Nat) : Int) from by omega, show ((wlo n : Nat) : Int) / 2251799813685248 = ((wlo n / 2251799813685248 : Nat) : Int) from by omega, u64_or_nat _ _ (by omega) (by omega)]
  have h3 := Nat.shiftLeft_add_eq_or_of_lt h2 (whi n)
  rw [Nat.shiftLeft_eq] at h3
  rw [show whi n * 8192 = whi n * 2 ^ 13 from rfl, ← h3]
  unfold whi wlo; omega
theorem feplus_one (n a : Nat) (ha : a < 18446744073709551616) (h : n + a < 340282366920938463463374607431768211456) (w : World) :
    Calls Try.prog 83 #[.agg #[.int .u64 (whi n : Nat), .int .u64 (wlo n : Nat)], .int .u64 a, .int .u64 1] w fun e w' => e = .returned (.agg #[.int .u64 (whi (n + a) : Nat), .int .u64 (wlo (n + a) : Nat)]) ∧ Below w.heap.size w w' := by
  have := feplus_any n a 1 ha (by omega) (by omega) w
  rw [Nat.mul_one] at this; exact this
theorem feplus_low (n a b : Nat) (hn : n < 18446744073709551616) (ha : a < 18446744073709551616) (hb : b < 18446744073709551616) (h : n + a * b < 340282366920938463463374607431768211456) (w : World) :
    Calls Try.prog 83 #[.agg #[.int .u64 0, .int .u64 n], .int .u64 a, .int .u64 b] w fun e w' => e = .returned (.agg #[.int .u64 (whi (n + a * b) : Nat), .int .u64 (wlo (n + a * b) : Nat)]) ∧ Below w.heap.size w w' := by
  have := feplus_any n a b ha hb h w
  rw [show whi n = 0 from Nat.div_eq_of_lt hn, show wlo n = n from Nat.mod_eq_of_lt hn] at this; exact this
/-- The limbs of a product ahead of the last carrying. -/
def mulF (R : Nat → Nat) (i : Nat) : Nat :=
  if i = 0 then (pas R 0 0 + cr R 0 5 * 19) % 2251799813685248 else if i = 1 then pas R 0 1 + (pas R 0 0 + cr R 0 5 * 19) / 2251799813685248 else pas R 0 i
theorem mulF_val (R : Nat → Nat) : val (mulF R) % Pq = val R % Pq := by
  have h := pas_val R 0
  rw [Nat.add_zero] at h
  rw [← h, add_mul_mod19]
  congr 1
  simp only [val, mulF, if_true, if_neg (show ¬ (1 = 0) by omega), if_neg (show ¬ (2 = 0) by omega), if_neg (show ¬ (3 = 0) by omega), if_neg (show ¬ (4 = 0) by omega), if_neg (show ¬ (2 = 1) by omega), if_neg (show ¬ (3 = 1) by omega), if_neg (show ¬ (4 = 1) by omega)]
  omega
theorem crR (R : Nat → Nat) (h : ∀ k, R k ≤ 25 * 96342400000000000000000000000000) : ∀ k, cr R 0 k ≤ 1100000000000000000
  | 0 => by simp [cr]
  | k + 1 => by have h1 := crR R h k; have h2 := h k; rw [cr]; omega
def lowV (R : Nat → Nat) (k i : Nat) : Value := if i < k then .int .u64 (pas R 0 i : Nat) else .int .u64 0
theorem lowV_set (R : Nat → Nat) (k : Nat) : (row 5 (lowV R k)).set k (.int .u64 (pas R 0 k : Nat)) = row 5 (lowV R (k + 1)) :=
  row_set k _ (by unfold lowV; rw [if_pos (by omega)]) (fun i _ h => by unfold lowV; by_cases h1 : i < k; rw [if_pos h1, if_pos (by omega)]; rw [if_neg h1, if_neg (by omega)])
set_option maxRecDepth 100000 in
set_option maxHeartbeats 2000000 in
theorem femul_any {f g : Nat → Nat} {x y : Nat} (hf : FE f x) (hg : FE g y) (w : World) :
    Calls Try.prog 38 #[.agg #[.int .u64 (f 0 : Nat), .int .u64 (f 1 : Nat), .int .u64 (f 2 : Nat), .int .u64 (f 3 : Nat), .int .u64 (f 4 : Nat)], .agg #[.int .u64 (g 0 : Nat), .int .u64 (g 1 : Nat), .int .u64 (g 2 : Nat), .int .u64 (g 3 : Nat), .int .u64 (g 4 : Nat)]] w fun e w' => ∃ h, e = .returned (.agg #[.int .u64 (h 0 : Nat), .int .u64 (h 1 : Nat), .int .u64 (h 2 : Nat), .int .u64 (h 3 : Nat), .int .u64 (h 4 : Nat)]) ∧ FE h (x * y % Pq) ∧ Below w.heap.size w w' := by
  go_enter Try.func38, Try.ntmps38
  go_wp2
  refine wp_gen (fun W => Blk W (w.heap.size + 1) (row 5 (fV g)) 27 ∧ Blk W (w.heap.size + 1 + 1 + 1) (row 10 (colV (col f g 0 0))) 99 ∧ Blk W (w.heap.size + 1 + 1) (row 5 (fV fun _ => 0)) 27 ∧ Below w.heap.size w W) ?_ (fun W hW => ?_)
  · exact ⟨((Blk.new' (by simp)).alloc _).alloc _, (by rw [show row 10 (colV (col f g 0 0)) = [.int .u64 0, .int .u64 0, .int .u64 0, .int .u64 0, .int .u64 0, .int .u64 0, .int .u64 0, .int .u64 0, .int .u64 0, .int .u64 0] from by simp [row, List.range, List.range.loop, colV, col, colJ, colI, whi, wlo]]; exact Blk.new' (by simp)), (by rw [show row 5 (fV fun _ => 0) = [.int .u64 0, .int .u64 0, .int .u64 0, .int .u64 0, .int .u64 0] from rfl]; exact (Blk.new' (by simp)).alloc _), (by repeat (first | (with_reducible refine Below.alloc' ?_ _) | (with_reducible refine Below.drew ?_) | (with_reducible refine below_drewN ?_ _) | ((with_reducible refine Below.setCell ?_ ?_ _); rotate_left; (focus (first | exact Nat.le_refl _ | (simp; done) | (simp; omega)))) | (with_reducible assumption) | (with_reducible exact Below.refl _ _)))⟩
  obtain ⟨hb1, hw1, ho1, hbl1⟩ := hW
  go_loopw [17] (fun i wr => ∃ k : Nat, k ≤ 5 ∧ i = .int .i64 k ∧ Blk wr (w.heap.size + 1) (row 5 (fV g)) 27 ∧ Blk wr (w.heap.size + 1 + 1 + 1) (row 10 (colV (col f g k 0))) 99 ∧ Blk wr (w.heap.size + 1 + 1) (row 5 (fV fun _ => 0)) 27 ∧ Below w.heap.size w wr) (fun i _ => 5 - (intOf i).toNat)
  case atStart => exact ⟨0, by omega, rfl, hb1, hw1, ho1, hbl1⟩
  case round =>
    clear hb1 hw1 ho1 hbl1 W
    obtain ⟨i, hi, rfl, hbB, hwB, hoB, hbl⟩ := hrel
    obtain ⟨wo, hwo⟩ : ∃ wo : World, wo = wr := ⟨_, rfl⟩
    by_cases hlt : i < 5
    · have hx := ix5 f i hlt
      have hdd : decide ((i : Int) < 5) = true := by simp; omega
      have hbc := hbB.cell
      rw [row5] at hbc
      unfold fV at hbc
      go_wp2
      clear hx hbc
      go_loopw [23] (fun j wr => ∃ k : Nat, k ≤ 5 ∧ j = .int .i64 k ∧ Blk wr (w.heap.size + 1) (row 5 (fV g)) 27 ∧ Blk wr (w.heap.size + 1 + 1 + 1) (row 10 (colV (col f g i k))) 99 ∧ Blk wr (w.heap.size + 1 + 1) (row 5 (fV fun _ => 0)) 27 ∧ Below w.heap.size w wr) (fun j _ => 5 - (intOf j).toNat)
      case atStart => exact ⟨0, by omega, rfl, hbB, hwB, hoB, hbl⟩
      case round =>
        subst hwo
        clear hbB hwB hoB hbl
        obtain ⟨j, hj, rfl, hbB, hwB, hoB, hbl⟩ := hrel
        by_cases hlt' : j < 5
        · have hy := ix5 g j hlt'
          by_cases h5 : 5 ≤ i + j
          · have d5 : decide ((5 : Int) ≤ (i : Int) + (j : Int)) = true := by simp; omega
            have hm : i + j - 5 < 5 := by omega
            have c1 : wr.cell? ⟨w.heap.size + 1 + 1 + 1, (i + j - 5) * 2, none⟩ = some (.int .u64 (whi (col f g i j (i + j - 5)) : Nat)) := by rw [hwB.at (by omega), colV_hi]
            have c2 : wr.cell? ⟨w.heap.size + 1 + 1 + 1, (i + j - 5) * 2 + 1, none⟩ = some (.int .u64 (wlo (col f g i j (i + j - 5)) : Nat)) := by rw [hwB.at (by omega), colV_lo]
            have h19 : IntKind.u64.wrap ((f i : Nat) * 19 : Int) = ((f i * 19 : Nat) : Int) := by have := hf.lim.lt i hlt; rw [wrapU]; omega
            have hP := fun W => feplus_any (col f g i j (i + j - 5)) (f i * 19) (g j) (by have := hf.lim.lt i hlt; omega) (by have := hg.lim.lt j hlt'; omega) (by
              have h1 := col_le hf.lim hg.lim i (j + 1) (by omega) (by omega) (i + j - 5)
              rw [col_big f g i j h5 hlt hlt'] at h1
              simp only [if_true] at h1
              omega) W
            have HP := Lib.hid hP
            have HC := Lib.hid (col_big f g i j h5 hlt hlt')
            have HB := Lib.hid hbB; have HW := Lib.hid hwB; have HO := Lib.hid hoB
            clear hP hbB hwB hoB
            generalize hn : col f g i j (i + j - 5) + f i * 19 * g j = n at *
            clear hn
            generalize f i * 19 = a19 at *
            go_wp2_with (go_at_call 83; go_must (refine (HP.out _).mono ?_; rintro e w1 ⟨rfl, hb⟩; have hB1 := HB.out.below' hb; have hW1 := HW.out.below' hb; have hO1 := HO.out.below' hb; have hbl1 := Below.call hbl hb; have e1 := hW1.cell ((i + j - 5) * 2); have e2 := hW1.cell ((i + j - 5) * 2 + 1); rw [row_get (by omega)] at e1 e2; have ef := hW1.frozen; clear hb hbl c1 c2))
            go_roundw
            case rel => exact ⟨j + 1, by omega, by go_num, (hB1.other _ (by simp; omega) _).other _ (by simp; omega) _, by rw [HC.out, ← colV_set]; exact (hW1.set _ _).set _ _, (hO1.other _ (by simp) _).other _ (by simp) _, (by repeat (first | (with_reducible refine Below.alloc' ?_ _) | (with_reducible refine Below.drew ?_) | (with_reducible refine below_drewN ?_ _) | ((with_reducible refine Below.setCell ?_ ?_ _); rotate_left; (focus (first | exact Nat.le_refl _ | (simp; done) | (simp; omega)))) | (with_reducible assumption) | (with_reducible exact Below.refl _ _)))⟩
            case measure => simp [intOf]; omega
          · have d5 : decide ((5 : Int) ≤ (i : Int) + (j : Int)) = false := by simp; omega
            have hm : i + j < 5 := by omega
            have c1 : wr.cell? ⟨w.heap.size + 1 + 1 + 1, (i + j) * 2, none⟩ = some (.int .u64 (whi (col f g i j (i + j)) : Nat)) := by rw [hwB.at (by omega), colV_hi]
            have c2 : wr.cell? ⟨w.heap.size + 1 + 1 + 1, (i + j) * 2 + 1, none⟩ = some (.int .u64 (wlo (col f g i j (i + j)) : Nat)) := by rw [hwB.at (by omega), colV_lo]
            have hP := fun W => feplus_any (col f g i j (i + j)) (f i) (g j) (by have := hf.lim.lt i hlt; omega) (by have := hg.lim.lt j hlt'; omega) (by
              have h1 := col_le hf.lim hg.lim i (j + 1) (by omega) (by omega) (i + j)
              rw [col_low f g i j h5] at h1
              simp only [if_true] at h1
              omega) W
            have HP := Lib.hid hP
            have HC := Lib.hid (col_low f g i j h5)
            have HB := Lib.hid hbB; have HW := Lib.hid hwB; have HO := Lib.hid hoB
            clear hP hbB hwB hoB
            generalize hn : col f g i j (i + j) + f i * g j = n at *
            clear hn
            go_wp2_with (go_at_call 83; go_must (refine (HP.out _).mono ?_; rintro e w1 ⟨rfl, hb⟩; have hB1 := HB.out.below' hb; have hW1 := HW.out.below' hb; have hO1 := HO.out.below' hb; have hbl1 := Below.call hbl hb; have e1 := hW1.cell ((i + j) * 2); have e2 := hW1.cell ((i + j) * 2 + 1); rw [row_get (by omega)] at e1 e2; have ef := hW1.frozen; clear hb hbl c1 c2))
            go_roundw
            case rel => exact ⟨j + 1, by omega, by go_num, (hB1.other _ (by simp; omega) _).other _ (by simp; omega) _, by rw [HC.out, ← colV_set]; exact (hW1.set _ _).set _ _, (hO1.other _ (by simp) _).other _ (by simp) _, (by repeat (first | (with_reducible refine Below.alloc' ?_ _) | (with_reducible refine Below.drew ?_) | (with_reducible refine below_drewN ?_ _) | ((with_reducible refine Below.setCell ?_ ?_ _); rotate_left; (focus (first | exact Nat.le_refl _ | (simp; done) | (simp; omega)))) | (with_reducible assumption) | (with_reducible exact Below.refl _ _)))⟩
            case measure => simp [intOf]; omega
        · obtain rfl : j = 5 := by omega
          clear hlt' hj
          go_wp2
          go_roundw
          case rel => exact ⟨i + 1, by omega, by go_num, hbB, hwB, hoB, hbl⟩
          case measure => simp [intOf]; omega
    · obtain rfl : i = 5 := by omega
      clear hwo hlt hi hbB
      have hR : ∀ k, col f g 5 0 k ≤ 25 * 96342400000000000000000000000000 := col_le hf.lim hg.lim 4 5 (by omega) (by omega)
      have HV := Lib.hid (col_val f g)
      have HF := Lib.hid hf; have HG := Lib.hid hg
      clear hf hg
      generalize col f g 5 0 = R at *
      rw [row10] at hwB
      rw [row5] at hoB
      unfold fV at hoB
      simp only [colV_0, colV_1, colV_2, colV_3, colV_4, colV_5, colV_6, colV_7, colV_8, colV_9] at hwB
      have hwc := hwB.cell
      have hwlt := hwB.lt
      have HR := Lib.hid hR
      have HO := Lib.hid hoB
      clear hR hwB hoB
      go_wp2
      clear hwc
      obtain ⟨wo, rfl⟩ : ∃ wo : World, wo = wr := ⟨_, rfl⟩
      have hB0 : Below w.heap.size w (wo.alloc (.cells #[.int .u64 0, .int .u64 0, .int .u64 0, .int .u64 0, .int .u64 0] 25)) := (by repeat (first | (with_reducible refine Below.alloc' ?_ _) | (with_reducible refine Below.drew ?_) | (with_reducible refine below_drewN ?_ _) | ((with_reducible refine Below.setCell ?_ ?_ _); rotate_left; (focus (first | exact Nat.le_refl _ | (simp; done) | (simp; omega)))) | (with_reducible assumption) | (with_reducible exact Below.refl _ _)))
      have hL0 : Blk (wo.alloc (.cells #[.int .u64 0, .int .u64 0, .int .u64 0, .int .u64 0, .int .u64 0] 25)) wo.heap.size (row 5 (lowV R 0)) 25 := Blk.new wo _ _
      have hO0 := (HO.out).alloc (.cells #[.int .u64 0, .int .u64 0, .int .u64 0, .int .u64 0, .int .u64 0] 25)
      have HO1 := Lib.hid hO0
      have hwl : w.heap.size + 1 + 1 < wo.heap.size := HO.out.lt
      have hwz : w.heap.size ≤ wo.heap.size := by omega
      clear HO hO0 hbl hwlt
      go_loopw [11, 61] (fun c i wx => ∃ k : Nat, k ≤ 5 ∧ i = .int .i64 k ∧ c = .int .u64 (cr R 0 k : Nat) ∧ Blk wx wo.heap.size (row 5 (lowV R k)) 25 ∧ Hid (Blk wx (w.heap.size + 1 + 1) [.int .u64 0, .int .u64 0, .int .u64 0, .int .u64 0, .int .u64 0] 27) ∧ Below w.heap.size w wx) (fun _ i _ => 5 - (intOf i).toNat)
      case atStart => exact ⟨0, by omega, rfl, rfl, hL0, HO1, hB0⟩
      case round =>
        clear hL0 HO1 hB0
        obtain ⟨k, hk, rfl, rfl, hL, HO, hbel⟩ := hrel
        by_cases hlt : k < 5
        · have hx := ixw R k hlt
          have hcr := crR R HR.out k
          have hRk := HR.out k
          have hP := fun W => feplus_one (R k) (cr R 0 k) (by omega) (by omega) W
          have hlo : bits BinOp.and IntKind.u64 (wlo (R k + cr R 0 k) : Nat) 2251799813685247 = ((pas R 0 k : Nat) : Int) := lo51 _
          have hhi : bits BinOp.or IntKind.u64 (IntKind.u64.wrap ((whi (R k + cr R 0 k) : Nat) * 8192 : Int)) ((wlo (R k + cr R 0 k) : Nat) / 2251799813685248 : Int) = ((cr R 0 (k + 1) : Nat) : Int) := hi51 _ (by omega)
          have HP := Lib.hid hP
          have HL := Lib.hid hL
          have hLs := hL.lt
          have hOs := HO.out.lt
          clear hcr hRk hP hL
          generalize hn : R k + cr R 0 k = n at *
          clear hn
          go_wp2_with (go_at_call 83; go_must (refine (HP.out _).mono ?_; rintro e w1 ⟨rfl, hb⟩; have hV1 := (Blk.new wr #[.int .u64 (whi (R k) : Nat), .int .u64 (wlo (R k) : Nat)] 98).below' hb; have hL1 := (HL.out.alloc _).below' hb; have hO1 := (HO.out.alloc _).below' hb; have hbl1 := Below.call (show Below w.heap.size w _ from (by repeat (first | (with_reducible refine Below.alloc' ?_ _) | (with_reducible refine Below.drew ?_) | (with_reducible refine below_drewN ?_ _) | ((with_reducible refine Below.setCell ?_ ?_ _); rotate_left; (focus (first | exact Nat.le_refl _ | (simp; done) | (simp; omega)))) | (with_reducible assumption) | (with_reducible exact Below.refl _ _)))) hb; have vc := hV1.cell; have vf := hV1.frozen; have lc := hL1.at hlt; have lf := hL1.frozen k; rw [show lowV R k k = .int .u64 0 from if_neg (by omega)] at lc; have hne : ¬ wo.heap.size = wr.heap.size := (by omega); have hne2 : ¬ wr.heap.size = wo.heap.size := (by omega); have HL1 := Lib.hid hL1; have HO1 := Lib.hid hO1; clear hb hV1 hL1 hO1 HL HO))
          go_roundw
          case rel => exact ⟨k + 1, by omega, by go_num, rfl, by have := ((HL1.out.other ⟨wr.heap.size, 0, none⟩ (by simp; omega) (.int .u64 (whi n : Nat))).other ⟨wr.heap.size, 1, none⟩ (by simp; omega) (.int .u64 (wlo n : Nat))).set k (.int .u64 (pas R 0 k : Nat)); rw [lowV_set] at this; exact this, ((HO1.out.other _ (by simp; omega) _).other _ (by simp; omega) _).other _ (by simp; omega) _, (by repeat (first | (with_reducible refine Below.alloc' ?_ _) | (with_reducible refine Below.drew ?_) | (with_reducible refine below_drewN ?_ _) | ((with_reducible refine Below.setCell ?_ ?_ _); rotate_left; (focus (first | exact Nat.le_refl _ | (simp; done) | (simp; omega)))) | (with_reducible assumption) | (with_reducible exact Below.refl _ _)))⟩
          case measure => simp [intOf]; omega
        · obtain rfl : k = 5 := by omega
          have hcr := crR R HR.out 5
          have hL5 : row 5 (lowV R 5) = [.int .u64 (pas R 0 0 : Nat), .int .u64 (pas R 0 1 : Nat), .int .u64 (pas R 0 2 : Nat), .int .u64 (pas R 0 3 : Nat), .int .u64 (pas R 0 4 : Nat)] := rfl
          rw [hL5] at hL
          clear hL5
          have hp := pas_lt R 0
          have HP0 := Lib.hid (fun W => feplus_low (pas R 0 0) (cr R 0 5) 19 (by have := hp 0; omega) (by omega) (by omega) (by have := hp 0; omega) W)
          have hlo : bits BinOp.and IntKind.u64 (wlo (pas R 0 0 + cr R 0 5 * 19) : Nat) 2251799813685247 = ((mulF R 0 : Nat) : Int) := lo51 _
          have hhi : IntKind.u64.wrap ((pas R 0 1 : Nat) + bits BinOp.or IntKind.u64 (IntKind.u64.wrap ((whi (pas R 0 0 + cr R 0 5 * 19) : Nat) * 8192 : Int)) ((wlo (pas R 0 0 + cr R 0 5 * 19) : Nat) / 2251799813685248 : Int) : Int) = ((mulF R 1 : Nat) : Int) := by
            rw [hi51 _ (by have := hp 0; omega), wrapU]
            have := hp 0; have := hp 1
            show _ = ((pas R 0 1 + (pas R 0 0 + cr R 0 5 * 19) / 2251799813685248 : Nat) : Int)
            omega
          have hbd : ∀ i, i < 5 → mulF R i ≤ 9223372036854775808 := fun i _ => by
            have := hp 0; have := hp 1; have := hp i
            unfold mulF; split
            · omega
            · split <;> omega
          have HQ : Hid (FE (cF (mulF R)) (x * y % Pq)) := Lib.hid ⟨cF_lim _ hbd, by rw [cF_val, mulF_val, HV.out, Nat.mul_mod, HF.out.num, HG.out.num]⟩
          have HBD := Lib.hid hbd
          rw [show pas R 0 2 = mulF R 2 from rfl, show pas R 0 3 = mulF R 3 from rfl, show pas R 0 4 = mulF R 4 from rfl] at hL
          have HL := Lib.hid hL
          clear hcr hp hbd hL hk hlt
          have hLc := HL.out.cell
          have hLf := HL.out.frozen
          have hLl := HL.out.lt
          have hOl := HO.out.lt
          generalize pas R 0 0 + cr R 0 5 * 19 = n at *
          go_wp2_with (first             | (go_at_call 83; go_must (refine (HP0.out _).mono ?_; rintro e w1 ⟨rfl, hb⟩; have hL1 := HL.out.below' hb; have lc := hL1.cell; have lf := hL1.frozen; have hO1 := HO.out.below' hb; have hbl1 := Below.call hbel hb; have HL1 := Lib.hid hL1; have HO1 := Lib.hid hO1; have hlt1 := hL1.lt; have hot1 := hO1.lt; have hne : ¬ wo.heap.size = w1.heap.size := (by omega); have hne2 : ¬ w1.heap.size = wo.heap.size := (by omega); clear hb hL1 hO1 HL HO HP0))             | (go_at_call 84; go_must (refine (carried_any (mulF R) HBD.out _).mono ?_; rintro e w2 ⟨rfl, hb⟩; have hO2 := (((HO1.out.other ⟨wo.heap.size, 0, none⟩ (by simp; omega) (.int .u64 (mulF R 0 : Nat))).other ⟨wo.heap.size, 1, none⟩ (by simp; omega) (.int .u64 (mulF R 1 : Nat))).alloc _).below' hb; have oc := hO2.cell; have of := hO2.frozen; have hbl2 := Below.call (show Below w.heap.size w _ from (by repeat (first | (with_reducible refine Below.alloc' ?_ _) | (with_reducible refine Below.drew ?_) | (with_reducible refine below_drewN ?_ _) | ((with_reducible refine Below.setCell ?_ ?_ _); rotate_left; (focus (first | exact Nat.le_refl _ | (simp; done) | (simp; omega)))) | (with_reducible assumption) | (with_reducible exact Below.refl _ _)))) hb; clear hb hO2 lc lf)))
          exact bodyPost_ret (v := .agg #[.int .u64 (cF (mulF R) 0 : Nat), .int .u64 (cF (mulF R) 1 : Nat), .int .u64 (cF (mulF R) 2 : Nat), .int .u64 (cF (mulF R) 3 : Nat), .int .u64 (cF (mulF R) 4 : Nat)]) (by simp [results, Try.results38, go_sem, oc]) rfl ⟨_, rfl, HQ.out, (by repeat (first | (with_reducible refine Below.alloc' ?_ _) | (with_reducible refine Below.drew ?_) | (with_reducible refine below_drewN ?_ _) | ((with_reducible refine Below.setCell ?_ ?_ _); rotate_left; (focus (first | exact Nat.le_refl _ | (simp; done) | (simp; omega)))) | (with_reducible assumption) | (with_reducible exact Below.refl _ _)))⟩
end Go.Proofs.Ytjchdhpijopikaa
namespace Go.Proofs.Ytjchdhpijopikaa
open Go.RowKit
theorem pow_step (x N j : Nat) : (x ^ (N / 2 ^ (j + 1)) % Pq) * (x ^ (N / 2 ^ (j + 1)) % Pq) % Pq = x ^ (2 * (N / 2 ^ (j + 1))) % Pq := by
  rw [← Nat.mul_mod, ← Nat.pow_add]; congr 2; omega
theorem half_step (N j : Nat) : N / 2 ^ j = 2 * (N / 2 ^ (j + 1)) + N / 2 ^ j % 2 := by
  rw [Nat.pow_succ, ← Nat.div_div_eq_div_mul]; omega
/-- The exponent's digit, as the walk tests it. -/
theorem dig_test (N j : Nat) (x : Int) (hx : x = (lw N (j / 64) : Nat)) : (bits BinOp.and IntKind.u64 (x / 2 ^ (j % 64)) 1 == 1) = decide (N / 2 ^ j % 2 = 1) := by
  subst hx
  have hq : lw N (j / 64) / 2 ^ (j % 64) < 18446744073709551616 := Nat.lt_of_le_of_lt (Nat.div_le_self _ _) (lw_lt _ _)
  rw [show ((lw N (j / 64) : Nat) : Int) / 2 ^ (j % 64) = ((lw N (j / 64) / 2 ^ (j % 64) : Nat) : Int) from by simp, show (1 : Int) = ((1 : Nat) : Int) from rfl, u64_and_nat _ 1 hq (by omega), Nat.and_one_is_mod, lw_bit]
  generalize N / 2 ^ j % 2 = b
  by_cases hb : b = 1
  · subst hb; simp
  · rw [decide_eq_false hb, beq_eq_false_iff_ne]; omega
theorem pow_odd (x N j : Nat) (h : N / 2 ^ j % 2 = 1) : x ^ (N / 2 ^ j) % Pq = (x ^ (N / 2 ^ (j + 1)) % Pq) * (x ^ (N / 2 ^ (j + 1)) % Pq) % Pq * x % Pq := by
  have e : N / 2 ^ j = 2 * (N / 2 ^ (j + 1)) + 1 := by have := half_step N j; omega
  rw [pow_step, e, Nat.pow_succ]
  generalize x ^ (2 * (N / 2 ^ (j + 1))) = y
  rw [Nat.mul_mod (y % Pq), Nat.mod_mod, ← Nat.mul_mod]
set_option maxRecDepth 100000 in
set_option maxHeartbeats 1000000 in
theorem power_any {f : Nat → Nat} {x : Nat} (N T : Nat) (hT1 : T ≤ 256) (hT2 : 256 ≤ T) (hN : N < 2 ^ T) (hf : FE f x) (w : World) :
    Calls Try.prog 85 #[.agg #[.int .u64 (f 0 : Nat), .int .u64 (f 1 : Nat), .int .u64 (f 2 : Nat), .int .u64 (f 3 : Nat), .int .u64 (f 4 : Nat)], .agg #[.int .u64 (lw N 0 : Nat), .int .u64 (lw N 1 : Nat), .int .u64 (lw N 2 : Nat), .int .u64 (lw N 3 : Nat)]] w fun e w' => ∃ h, e = .returned (.agg #[.int .u64 (h 0 : Nat), .int .u64 (h 1 : Nat), .int .u64 (h 2 : Nat), .int .u64 (h 3 : Nat), .int .u64 (h 4 : Nat)]) ∧ FE h (x ^ N % Pq) ∧ Below w.heap.size w w' := by
  have HN := Lib.hid hN; have HF := Lib.hid hf
  clear hN hf
  go_enter Try.func85, Try.ntmps85
  go_upto_region 2 with (go_at_call 37; go_must (refine (fesmall_any (n := 1) (by omega) _).mono ?_; rintro e w1 ⟨rfl, hb⟩))
  refine wp_gen (fun W => Blk W w.heap.size [.int .u64 (f 0 : Nat),.int .u64 (f 1 : Nat),.int .u64 (f 2 : Nat),.int .u64 (f 3 : Nat),.int .u64 (f 4 : Nat)] 27 ∧ Blk W (w.heap.size + 1) (row 4 (wV N)) 44 ∧ Blk W (w.heap.size + 1 + 1) [.int .u64 0, .int .u64 0, .int .u64 0, .int .u64 0, .int .u64 0] 27 ∧ (∃ h, FE h (x ^ (N / 2 ^ T) % Pq) ∧ Blk W w1.heap.size [.int .u64 (h 0 : Nat),.int .u64 (h 1 : Nat),.int .u64 (h 2 : Nat),.int .u64 (h 3 : Nat),.int .u64 (h 4 : Nat)] 27) ∧ Below w.heap.size w W) ?_ (fun W hW => ?_)
  · refine ⟨(((Blk.new w _ _).alloc _).alloc _ |>.below' hb).alloc _, (((Blk.new' (by simp)).alloc _).below' hb).alloc _, ((Blk.new' (by simp)).below' hb).alloc _, ⟨smallF 1, ?_, Blk.new w1 _ _⟩, Below.alloc' (Below.call (by repeat (first | (with_reducible refine Below.alloc' ?_ _) | (with_reducible refine Below.drew ?_) | (with_reducible refine below_drewN ?_ _) | ((with_reducible refine Below.setCell ?_ ?_ _); rotate_left; (focus (first | exact Nat.le_refl _ | (simp; done) | (simp; omega)))) | (with_reducible assumption) | (with_reducible exact Below.refl _ _))) hb) _⟩
    rw [Nat.div_eq_of_lt HN.out, Nat.pow_zero]
    exact FE.small (by omega)
  have hs1 : w.heap.size + 1 + 1 < w1.heap.size := by have := hb.size; simp at this; omega
  obtain ⟨hA, hK, hO, hH, hbel⟩ := hW
  clear hb
  generalize w1.heap.size = g at *
  clear w1
  go_wp2
  go_loopw [6] (fun i wr => ∃ k : Nat, k ≤ 256 ∧ i = .int .i64 ((k : Int) - 1) ∧ Blk wr w.heap.size [.int .u64 (f 0 : Nat),.int .u64 (f 1 : Nat),.int .u64 (f 2 : Nat),.int .u64 (f 3 : Nat),.int .u64 (f 4 : Nat)] 27 ∧ Blk wr (w.heap.size + 1) (row 4 (wV N)) 44 ∧ Blk wr (w.heap.size + 1 + 1) [.int .u64 0, .int .u64 0, .int .u64 0, .int .u64 0, .int .u64 0] 27 ∧ (∃ h, FE h (x ^ (N / 2 ^ k) % Pq) ∧ Blk wr g [.int .u64 (h 0 : Nat),.int .u64 (h 1 : Nat),.int .u64 (h 2 : Nat),.int .u64 (h 3 : Nat),.int .u64 (h 4 : Nat)] 27) ∧ Below w.heap.size w wr) (fun i _ => (intOf i + 1).toNat)
  case atStart => exact ⟨T, by omega, by congr 1; omega, hA, hK, hO, hH, hbel⟩
  case round =>
    clear hA hK hO hH hbel W
    obtain ⟨k, hk, rfl, hA, hK, hO, ⟨h, hh, hH⟩, hbel⟩ := hrel
    by_cases hk0 : k = 0
    · subst hk0
      rw [Nat.pow_zero, Nat.div_one] at hh
      have hHc := hH.cell; have hOc := hO.cell; have hOf := hO.frozen
      rw [show (((0 : Nat) : Int) - 1) = -1 from rfl]
      clear hA hK hO hH hk
      go_wp2
      exact bodyPost_ret (v := .agg #[.int .u64 (h 0 : Nat), .int .u64 (h 1 : Nat), .int .u64 (h 2 : Nat), .int .u64 (h 3 : Nat), .int .u64 (h 4 : Nat)]) (by simp [results, Try.results85, go_sem, hOc]) rfl ⟨_, rfl, hh, (by repeat (first | (with_reducible refine Below.alloc' ?_ _) | (with_reducible refine Below.drew ?_) | (with_reducible refine below_drewN ?_ _) | ((with_reducible refine Below.setCell ?_ ?_ _); rotate_left; (focus (first | exact Nat.le_refl _ | (simp; done) | (simp; omega)))) | (with_reducible assumption) | (with_reducible exact Below.refl _ _)))⟩
    · obtain ⟨j, rfl⟩ : ∃ j, k = j + 1 := ⟨k - 1, by omega⟩
      rw [show (((j + 1 : Nat) : Int) - 1) = (j : Int) from by omega]
      have hj4 : j / 64 < 4 := by omega
      obtain ⟨xi, hxi⟩ : ∃ xi : Int, xi = (lw N (j / 64) : Nat) := ⟨_, rfl⟩
      have HD := Lib.hid (dig_test N j xi hxi)
      have hx0 : 0 ≤ xi := by omega
      have hx1 : xi < 18446744073709551616 := by have := lw_lt N (j / 64); omega
      have HK := Lib.hid (show ∀ W, Blk W (w.heap.size + 1) (row 4 (wV N)) 44 → W.cell? ⟨w.heap.size + 1, j / 64, none⟩ = some (.int .u64 xi) from fun W h => by rw [h.at hj4, hxi]; rfl)
      have hHc := hH.cell
      have HA0 := Lib.hid hA; have HK0 := Lib.hid hK; have HO0 := Lib.hid hO; have HH0 := Lib.hid hH
      clear hxi hA hK hO hH hk0
      by_cases hb : N / 2 ^ j % 2 = 1
      · have hd : (bits BinOp.and IntKind.u64 (xi / 2 ^ (j % 64)) 1 == 1) = true := by rw [HD.out, decide_eq_true hb]
        have HB := Lib.hid hb
        clear hb
        go_wp2_with (go_at_call 38; first | ((with_reducible refine (femul_any hh hh _).mono ?_); rintro e w1 ⟨h1, rfl, hh1, hb1⟩; have hH1 := HH0.out.below' hb1; have hHf := hH1.frozen; have hHc1 := hH1.cell; have kc := HK.out _ (HK0.out.below' hb1); have ac := (HA0.out.below' hb1).cell; have hg1 : ¬ g = w.heap.size + 1 := (by omega); have hg2 : ¬ g = w.heap.size := (by omega); have hg3 : ¬ w.heap.size + 1 = g := (by omega); have hg4 : ¬ w.heap.size = g := (by omega); have HA1 := Lib.hid (HA0.out.below' hb1); have HK1 := Lib.hid (HK0.out.below' hb1); have HO1 := Lib.hid (HO0.out.below' hb1); have HH1 := Lib.hid hH1; have hbel1 := Below.call hbel hb1; clear hb1 hH1 hHc HA0 HK0 HO0 HH0 hbel) | ((with_reducible refine (femul_any hh1 HF.out _).mono ?_); rintro e w2 ⟨h2, rfl, hh2, hb2⟩; have hH2 := (((((HH1.out.set 0 (.int .u64 (h1 0 : Nat))).set 1 (.int .u64 (h1 1 : Nat))).set 2 (.int .u64 (h1 2 : Nat))).set 3 (.int .u64 (h1 3 : Nat))).set 4 (.int .u64 (h1 4 : Nat))).below' hb2; have hHf2 := hH2.frozen; have hHc2 := hH2.cell; have HH2 := Lib.hid hH2; have HA2 := Lib.hid ((((((HA1.out.other ⟨g, 0, none⟩ (by simp; omega) (.int .u64 (h1 0 : Nat))).other ⟨g, 1, none⟩ (by simp; omega) (.int .u64 (h1 1 : Nat))).other ⟨g, 2, none⟩ (by simp; omega) (.int .u64 (h1 2 : Nat))).other ⟨g, 3, none⟩ (by simp; omega) (.int .u64 (h1 3 : Nat))).other ⟨g, 4, none⟩ (by simp; omega) (.int .u64 (h1 4 : Nat))).below' hb2); have HK2 := Lib.hid ((((((HK1.out.other ⟨g, 0, none⟩ (by simp; omega) (.int .u64 (h1 0 : Nat))).other ⟨g, 1, none⟩ (by simp; omega) (.int .u64 (h1 1 : Nat))).other ⟨g, 2, none⟩ (by simp; omega) (.int .u64 (h1 2 : Nat))).other ⟨g, 3, none⟩ (by simp; omega) (.int .u64 (h1 3 : Nat))).other ⟨g, 4, none⟩ (by simp; omega) (.int .u64 (h1 4 : Nat))).below' hb2); have HO2 := Lib.hid ((((((HO1.out.other ⟨g, 0, none⟩ (by simp; omega) (.int .u64 (h1 0 : Nat))).other ⟨g, 1, none⟩ (by simp; omega) (.int .u64 (h1 1 : Nat))).other ⟨g, 2, none⟩ (by simp; omega) (.int .u64 (h1 2 : Nat))).other ⟨g, 3, none⟩ (by simp; omega) (.int .u64 (h1 3 : Nat))).other ⟨g, 4, none⟩ (by simp; omega) (.int .u64 (h1 4 : Nat))).below' hb2); have hbel2 := Below.call (show Below w.heap.size w _ from (by repeat (first | (with_reducible refine Below.alloc' ?_ _) | (with_reducible refine Below.drew ?_) | (with_reducible refine below_drewN ?_ _) | ((with_reducible refine Below.setCell ?_ ?_ _); rotate_left; (focus (first | exact Nat.le_refl _ | (simp; done) | (simp; omega)))) | (with_reducible assumption) | (with_reducible exact Below.refl _ _)))) hb2; clear hb2 hH2 hHc1 hHf kc ac HA1 HK1 HO1 HH1 hbel1))
        go_roundw
        case rel => exact ⟨j, by omega, rfl, (((((HA2.out.other ⟨g, 0, none⟩ (by simp; omega) (.int .u64 (h2 0 : Nat))).other ⟨g, 1, none⟩ (by simp; omega) (.int .u64 (h2 1 : Nat))).other ⟨g, 2, none⟩ (by simp; omega) (.int .u64 (h2 2 : Nat))).other ⟨g, 3, none⟩ (by simp; omega) (.int .u64 (h2 3 : Nat))).other ⟨g, 4, none⟩ (by simp; omega) (.int .u64 (h2 4 : Nat))), (((((HK2.out.other ⟨g, 0, none⟩ (by simp; omega) (.int .u64 (h2 0 : Nat))).other ⟨g, 1, none⟩ (by simp; omega) (.int .u64 (h2 1 : Nat))).other ⟨g, 2, none⟩ (by simp; omega) (.int .u64 (h2 2 : Nat))).other ⟨g, 3, none⟩ (by simp; omega) (.int .u64 (h2 3 : Nat))).other ⟨g, 4, none⟩ (by simp; omega) (.int .u64 (h2 4 : Nat))), (((((HO2.out.other ⟨g, 0, none⟩ (by simp; omega) (.int .u64 (h2 0 : Nat))).other ⟨g, 1, none⟩ (by simp; omega) (.int .u64 (h2 1 : Nat))).other ⟨g, 2, none⟩ (by simp; omega) (.int .u64 (h2 2 : Nat))).other ⟨g, 3, none⟩ (by simp; omega) (.int .u64 (h2 3 : Nat))).other ⟨g, 4, none⟩ (by simp; omega) (.int .u64 (h2 4 : Nat))), ⟨h2, by rw [pow_odd x N j HB.out]; exact hh2, (((((HH2.out.set 0 (.int .u64 (h2 0 : Nat))).set 1 (.int .u64 (h2 1 : Nat))).set 2 (.int .u64 (h2 2 : Nat))).set 3 (.int .u64 (h2 3 : Nat))).set 4 (.int .u64 (h2 4 : Nat)))⟩, (by repeat (first | (with_reducible refine Below.alloc' ?_ _) | (with_reducible refine Below.drew ?_) | (with_reducible refine below_drewN ?_ _) | ((with_reducible refine Below.setCell ?_ ?_ _); rotate_left; (focus (first | exact Nat.le_refl _ | (simp; done) | (simp; omega)))) | (with_reducible assumption) | (with_reducible exact Below.refl _ _)))⟩
        case measure => simp [intOf] <;> omega
      · have hd : (bits BinOp.and IntKind.u64 (xi / 2 ^ (j % 64)) 1 == 1) = false := by rw [HD.out, decide_eq_false hb]
        have HB : Hid (N / 2 ^ j % 2 = 0) := Lib.hid (by omega)
        clear hb
        go_wp2_with (go_at_call 38; first | ((with_reducible refine (femul_any hh hh _).mono ?_); rintro e w1 ⟨h1, rfl, hh1, hb1⟩; have hH1 := HH0.out.below' hb1; have hHf := hH1.frozen; have hHc1 := hH1.cell; have kc := HK.out _ (HK0.out.below' hb1); have ac := (HA0.out.below' hb1).cell; have hg1 : ¬ g = w.heap.size + 1 := (by omega); have hg2 : ¬ g = w.heap.size := (by omega); have hg3 : ¬ w.heap.size + 1 = g := (by omega); have hg4 : ¬ w.heap.size = g := (by omega); have HA1 := Lib.hid (HA0.out.below' hb1); have HK1 := Lib.hid (HK0.out.below' hb1); have HO1 := Lib.hid (HO0.out.below' hb1); have HH1 := Lib.hid hH1; have hbel1 := Below.call hbel hb1; clear hb1 hH1 hHc HA0 HK0 HO0 HH0 hbel))
        go_roundw
        case rel => exact ⟨j, by omega, rfl, (((((HA1.out.other ⟨g, 0, none⟩ (by simp; omega) (.int .u64 (h1 0 : Nat))).other ⟨g, 1, none⟩ (by simp; omega) (.int .u64 (h1 1 : Nat))).other ⟨g, 2, none⟩ (by simp; omega) (.int .u64 (h1 2 : Nat))).other ⟨g, 3, none⟩ (by simp; omega) (.int .u64 (h1 3 : Nat))).other ⟨g, 4, none⟩ (by simp; omega) (.int .u64 (h1 4 : Nat))), (((((HK1.out.other ⟨g, 0, none⟩ (by simp; omega) (.int .u64 (h1 0 : Nat))).other ⟨g, 1, none⟩ (by simp; omega) (.int .u64 (h1 1 : Nat))).other ⟨g, 2, none⟩ (by simp; omega) (.int .u64 (h1 2 : Nat))).other ⟨g, 3, none⟩ (by simp; omega) (.int .u64 (h1 3 : Nat))).other ⟨g, 4, none⟩ (by simp; omega) (.int .u64 (h1 4 : Nat))), (((((HO1.out.other ⟨g, 0, none⟩ (by simp; omega) (.int .u64 (h1 0 : Nat))).other ⟨g, 1, none⟩ (by simp; omega) (.int .u64 (h1 1 : Nat))).other ⟨g, 2, none⟩ (by simp; omega) (.int .u64 (h1 2 : Nat))).other ⟨g, 3, none⟩ (by simp; omega) (.int .u64 (h1 3 : Nat))).other ⟨g, 4, none⟩ (by simp; omega) (.int .u64 (h1 4 : Nat))), ⟨h1, by rw [half_step, HB.out, Nat.add_zero, ← pow_step]; exact hh1, (((((HH1.out.set 0 (.int .u64 (h1 0 : Nat))).set 1 (.int .u64 (h1 1 : Nat))).set 2 (.int .u64 (h1 2 : Nat))).set 3 (.int .u64 (h1 3 : Nat))).set 4 (.int .u64 (h1 4 : Nat)))⟩, (by repeat (first | (with_reducible refine Below.alloc' ?_ _) | (with_reducible refine Below.drew ?_) | (with_reducible refine below_drewN ?_ _) | ((with_reducible refine Below.setCell ?_ ?_ _); rotate_left; (focus (first | exact Nat.le_refl _ | (simp; done) | (simp; omega)))) | (with_reducible assumption) | (with_reducible exact Below.refl _ _)))⟩
        case measure => simp [intOf] <;> omega
set_option maxRecDepth 100000 in
set_option maxHeartbeats 1000000 in
theorem feinv_any {f : Nat → Nat} {x : Nat} (hf : FE f x) (w : World) :
    Calls Try.prog 42 #[.agg #[.int .u64 (f 0 : Nat), .int .u64 (f 1 : Nat), .int .u64 (f 2 : Nat), .int .u64 (f 3 : Nat), .int .u64 (f 4 : Nat)]] w fun e w' => ∃ h, e = .returned (.agg #[.int .u64 (h 0 : Nat), .int .u64 (h 1 : Nat), .int .u64 (h 2 : Nat), .int .u64 (h 3 : Nat), .int .u64 (h 4 : Nat)]) ∧ FE h (x ^ expInv % Pq) ∧ Below w.heap.size w w' := by
  have hP := fun W => power_any expInv (8 * 32) (by omega) (by omega) (by decide +kernel) hf W
  rw [show lw expInv 0 = 18446744073709551595 from by decide +kernel, show lw expInv 1 = 18446744073709551615 from by decide +kernel, show lw expInv 2 = 18446744073709551615 from by decide +kernel, show lw expInv 3 = 9223372036854775807 from by decide +kernel] at hP
  have HP := Lib.hid hP
  clear hP
  go_enter Try.func42, Try.ntmps42
  go_wp2_with (go_at_call 85; go_must (refine (HP.out _).mono ?_; rintro e w1 ⟨h, rfl, hr, hb⟩; have hO := (show Blk _ (w.heap.size + 1) [.int .u64 0, .int .u64 0, .int .u64 0, .int .u64 0, .int .u64 0] 27 from (by repeat (first | (with_reducible refine Blk.drew ?_) | exact Blk.new' (by simp) | (with_reducible refine Blk.alloc ?_ _)))).below' hb; have hOc := hO.cell; have hOf := hO.frozen; have hbel : Below w.heap.size w w1 := Below.call (by repeat (first | (with_reducible refine Below.alloc' ?_ _) | (with_reducible refine Below.drew ?_) | (with_reducible refine below_drewN ?_ _) | ((with_reducible refine Below.setCell ?_ ?_ _); rotate_left; (focus (first | exact Nat.le_refl _ | (simp; done) | (simp; omega)))) | (with_reducible assumption) | (with_reducible exact Below.refl _ _))) hb; clear hb hO))
  exact bodyPost_ret (v := .agg #[.int .u64 (h 0 : Nat), .int .u64 (h 1 : Nat), .int .u64 (h 2 : Nat), .int .u64 (h 3 : Nat), .int .u64 (h 4 : Nat)]) (by simp [results, Try.results42, go_sem, hOc]) rfl ⟨_, rfl, hr, (by repeat (first | (with_reducible refine Below.alloc' ?_ _) | (with_reducible refine Below.drew ?_) | (with_reducible refine below_drewN ?_ _) | ((with_reducible refine Below.setCell ?_ ?_ _); rotate_left; (focus (first | exact Nat.le_refl _ | (simp; done) | (simp; omega)))) | (with_reducible assumption) | (with_reducible exact Below.refl _ _)))⟩
end Go.Proofs.Ytjchdhpijopikaa
namespace Go.Proofs.Ytjchdhpijopikaa
open Go.RowKit
/-- A digit of 51 binary digits. -/
def dg (n i : Nat) : Nat := n / 2 ^ (51 * i) % 2251799813685248
theorem dg_lt (n i : Nat) : dg n i < 2251799813685248 := Nat.mod_lt _ (by omega)
theorem dg_of (f : Nat → Nat) (h : ∀ i, f i < 2251799813685248) (i : Nat) (hi : i < 5) : dg (val f) i = f i := by
  have h0 := h 0; have h1 := h 1; have h2 := h 2; have h3 := h 3; have h4 := h 4
  have hh : i = 0 ∨ i = 1 ∨ i = 2 ∨ i = 3 ∨ i = 4 := by omega
  unfold dg val
  rcases hh with rfl | rfl | rfl | rfl | rfl <;> simp only [Nat.reduceMul, Nat.reducePow] <;> omega
theorem pas_small (f : Nat → Nat) (c0 : Nat) : val (pas f c0) < 57896044618658097711785492504343953926634992332820282019728792003956564819968 := by
  have h0 := pas_lt f c0 0; have h1 := pas_lt f c0 1; have h2 := pas_lt f c0 2; have h3 := pas_lt f c0 3; have h4 := pas_lt f c0 4
  unfold val; omega
theorem cr_five (f : Nat → Nat) (c0 : Nat) : cr f c0 5 = (val f + c0) / 57896044618658097711785492504343953926634992332820282019728792003956564819968 ∧ val (pas f c0) = (val f + c0) % 57896044618658097711785492504343953926634992332820282019728792003956564819968 := by
  have h1 := pas_val f c0
  have h2 := pas_small f c0
  omega
theorem Lim.val {f : Nat → Nat} (h : Lim f) : val f < 57896044618658097711785492504343953926634992332820282019728792003956564819968 + 20 := by
  have := h.l0; have := h.l1; have := h.l2; have := h.l3; have := h.l4
  unfold Go.Proofs.Ytjchdhpijopikaa.val; omega
theorem whole_num {f : Nat → Nat} {x : Nat} (h : FE f x) : val (pas f (cr f 19 5 * 19)) = x := by
  have h1 := h.lim.val
  rw [(cr_five f _).2, (cr_five f 19).1, ← h.num]
  unfold Pq
  generalize val f = v at *
  by_cases hv : v < 57896044618658097711785492504343953926634992332820282019728792003956564819949
  · rw [Nat.div_eq_of_lt (show v + 19 < 57896044618658097711785492504343953926634992332820282019728792003956564819968 by omega), Nat.mod_eq_of_lt hv, Nat.mod_eq_of_lt (by omega)]
    omega
  · rw [show (v + 19) / 57896044618658097711785492504343953926634992332820282019728792003956564819968 = 1 by omega]
    omega
theorem whole_dg {f : Nat → Nat} {x : Nat} (h : FE f x) (i : Nat) (hi : i < 5) : pas f (cr f 19 5 * 19) i = dg x i := by
  rw [← whole_num h]; exact (dg_of _ (pas_lt _ _) i hi).symm
theorem FE.carry {f : Nat → Nat} {x : Nat} (h : FE f x) : FE (cF f) x := ⟨cF_lim f (fun i hi => by have := h.lim.lt i hi; omega), by rw [cF_val, h.num]⟩
theorem FE.sum_lt {f : Nat → Nat} {x : Nat} (h : FE f x) (c0 k : Nat) (hc : c0 ≤ 19) (hk : k < 5) : f k + cr f c0 k < 18446744073709551616 := by
  have h1 := h.lim.lt k hk
  have h2 := cr_lt f c0 (fun i hi => by have := h.lim.lt i hi; omega) (by omega) k (by omega)
  omega
set_option maxRecDepth 100000 in
set_option maxHeartbeats 1000000 in
theorem whole_any {f : Nat → Nat} {x : Nat} (hf : FE f x) (w : World) :
    Calls Try.prog 87 #[.agg #[.int .u64 (f 0 : Nat), .int .u64 (f 1 : Nat), .int .u64 (f 2 : Nat), .int .u64 (f 3 : Nat), .int .u64 (f 4 : Nat)]] w fun e w' => e = .returned (.agg #[.int .u64 (dg x 0 : Nat), .int .u64 (dg x 1 : Nat), .int .u64 (dg x 2 : Nat), .int .u64 (dg x 3 : Nat), .int .u64 (dg x 4 : Nat)]) ∧ Below w.heap.size w w' := by
  have hb1 : ∀ i, i < 5 → f i ≤ 9223372036854775808 := fun i hi => by have := hf.lim.lt i hi; omega
  have hb2 : ∀ i, i < 5 → cF f i ≤ 9223372036854775808 := fun i hi => by have := hf.carry.lim.lt i hi; omega
  have HB1 := Lib.hid hb1; have HB2 := Lib.hid hb2
  have HE := Lib.hid hf.carry.carry
  clear hb1 hb2 hf
  have fld : ∀ (x0 x1 x2 x3 x4 : Value) (w : World), (Instr.field 27 (.agg #[x0, x1, x2, x3, x4]) 0).run Try.prog w = .ok (.agg #[x0, x1, x2, x3, x4]) w := fun _ _ _ _ _ _ => by kernel_rfl
  go_enter Try.func87, Try.ntmps87
  go_upto_region 3 with (go_at_call 84; first | ((with_reducible refine (carried_any f HB1.out _).mono ?_); rintro e w1 ⟨rfl, hb1⟩; have hO1 := (show Blk _ (w.heap.size + 1) [.int .u64 0, .int .u64 0, .int .u64 0, .int .u64 0, .int .u64 0] 25 from (by repeat (first | (with_reducible refine Blk.drew ?_) | exact Blk.new' (by simp) | (with_reducible refine Blk.alloc ?_ _)))).below' hb1; have hbel1 : Below w.heap.size w w1 := Below.call (by repeat (first | (with_reducible refine Below.alloc' ?_ _) | (with_reducible refine Below.drew ?_) | (with_reducible refine below_drewN ?_ _) | ((with_reducible refine Below.setCell ?_ ?_ _); rotate_left; (focus (first | exact Nat.le_refl _ | (simp; done) | (simp; omega)))) | (with_reducible assumption) | (with_reducible exact Below.refl _ _))) hb1; clear hb1) | ((with_reducible refine (carried_any (cF f) HB2.out _).mono ?_); rintro e w2 ⟨rfl, hb2⟩; have hL2 := (Blk.new w1 #[.int .u64 (cF f 0 : Nat),.int .u64 (cF f 1 : Nat),.int .u64 (cF f 2 : Nat),.int .u64 (cF f 3 : Nat),.int .u64 (cF f 4 : Nat)] 25).below' hb2; have hO2 := (hO1.alloc _).below' hb2; have hbel2 : Below w.heap.size w w2 := Below.call (show Below w.heap.size w _ from (by repeat (first | (with_reducible refine Below.alloc' ?_ _) | (with_reducible refine Below.drew ?_) | (with_reducible refine below_drewN ?_ _) | ((with_reducible refine Below.setCell ?_ ?_ _); rotate_left; (focus (first | exact Nat.le_refl _ | (simp; done) | (simp; omega)))) | (with_reducible assumption) | (with_reducible exact Below.refl _ _)))) hb2; have lc := hL2.cell; have lf := hL2.frozen; have hg : w.heap.size + 1 < w1.heap.size := hO1.lt; clear hb2 hbel1 hO1))
  refine wp_gen (fun W => Blk W w1.heap.size (row 5 (fV (cF (cF f)))) 25 ∧ Blk W (w.heap.size + 1) [.int .u64 0, .int .u64 0, .int .u64 0, .int .u64 0, .int .u64 0] 25 ∧ Below w.heap.size w W) ?_ (fun W hW => ?_)
  · exact ⟨(((((hL2.set 0 (.int .u64 (cF (cF f) 0 : Nat))).set 1 (.int .u64 (cF (cF f) 1 : Nat))).set 2 (.int .u64 (cF (cF f) 2 : Nat))).set 3 (.int .u64 (cF (cF f) 3 : Nat))).set 4 (.int .u64 (cF (cF f) 4 : Nat))), (((((hO2.other _ (by simp; omega) _).other _ (by simp; omega) _).other _ (by simp; omega) _).other _ (by simp; omega) _).other _ (by simp; omega) _), (by repeat (first | (with_reducible refine Below.alloc' ?_ _) | (with_reducible refine Below.drew ?_) | (with_reducible refine below_drewN ?_ _) | ((with_reducible refine Below.setCell ?_ ?_ _); rotate_left; (focus (first | exact Nat.le_refl _ | (simp; done) | (simp; omega)))) | (with_reducible assumption) | (with_reducible exact Below.refl _ _)))⟩
  obtain ⟨hA, hO, hbel⟩ := hW
  clear hbel2 lc lf hL2 hO2
  generalize w1.heap.size = g at *
  clear w1 w2
  generalize cF (cF f) = G at *
  have HS := Lib.hid (fun k hk => HE.out.sum_lt 19 k (by omega) hk)
  go_wp2
  go_loopw [4, 14] (fun c i wr => ∃ k : Nat, k ≤ 5 ∧ i = .int .i64 k ∧ c = .int .u64 (cr G 19 k : Nat) ∧ Blk wr g (row 5 (fV G)) 25 ∧ Blk wr (w.heap.size + 1) [.int .u64 0, .int .u64 0, .int .u64 0, .int .u64 0, .int .u64 0] 25 ∧ Below w.heap.size w wr) (fun _ i _ => 5 - (intOf i).toNat)
  case atStart => exact ⟨0, by omega, rfl, rfl, hA, hO, hbel⟩
  case round =>
    clear hA hO hbel W
    obtain ⟨k, hk, rfl, rfl, hA, hO, hbel⟩ := hrel
    by_cases hlt : k < 5
    · obtain ⟨s, hs, hs0, hs1, ha, hd⟩ := pass_step G 19 k (HS.out k hlt)
      have hcell : wr.cell? ⟨g, k, none⟩ = some (.int .u64 (G k : Nat)) := hA.at hlt
      have HD := Lib.hid hd
      have HA := Lib.hid hA; have HO := Lib.hid hO
      clear hA hO hd ha
      go_wp2
      go_roundw
      case rel => exact ⟨k + 1, by omega, by go_num, by rw [HD.out], HA.out, HO.out, hbel⟩
      case measure => simp [intOf]; omega
    · obtain rfl : k = 5 := by omega
      have h5 : cr G 19 5 ≤ 1 := by
        have := HE.out.lim.val
        rw [(cr_five G 19).1]; omega
      have hm : IntKind.u64.wrap (((cr G 19 5 : Nat) : Int) * 19) = ((cr G 19 5 * 19 : Nat) : Int) := by rw [wrapU]; omega
      have HW := Lib.hid (fun i hi => whole_dg HE.out i hi)
      have h19 : cr G 19 5 * 19 ≤ 19 := by omega
      have HS2 := Lib.hid (fun k hk => HE.out.sum_lt (cr G 19 5 * 19) k h19 hk)
      clear h5 h19 hlt hk HS
      generalize cr G 19 5 * 19 = c1 at *
      go_wp2
      clear hm
      go_loopw [4, 26] (fun c i wr => ∃ k : Nat, k ≤ 5 ∧ i = .int .i64 k ∧ c = .int .u64 (cr G c1 k : Nat) ∧ Blk wr g (row 5 (pasV G c1 k)) 25 ∧ Blk wr (w.heap.size + 1) [.int .u64 0, .int .u64 0, .int .u64 0, .int .u64 0, .int .u64 0] 25 ∧ Below w.heap.size w wr) (fun _ i _ => 5 - (intOf i).toNat)
      case atStart => exact ⟨0, by omega, rfl, rfl, by rw [pasV_zero]; exact hA, hO, hbel⟩
      clear hA hO hbel
      case round =>
        obtain ⟨k, hk, rfl, rfl, hA, hO, hbel⟩ := hrel
        by_cases hlt : k < 5
        · obtain ⟨s, hs, hs0, hs1, ha, hd⟩ := pass_step G c1 k (HS2.out k hlt)
          have hcell := hA.at hlt
          rw [pasV_at] at hcell
          have hfr := hA.frozen k
          have HD := Lib.hid hd
          have HA := Lib.hid ((hA.set k (.int .u64 s)).set k (.int .u64 (pas G c1 k : Nat)))
          have HO := Lib.hid ((hO.other ⟨g, k, none⟩ (by simp; omega) (.int .u64 s)).other ⟨g, k, none⟩ (by simp; omega) (.int .u64 (pas G c1 k : Nat)))
          clear hA hO hd
          go_wp2
          go_roundw
          case rel => exact ⟨k + 1, by omega, by go_num, by rw [HD.out], by have := HA.out; rw [List.set_set, pasV_set] at this; exact this, HO.out, (by repeat (first | (with_reducible refine Below.alloc' ?_ _) | (with_reducible refine Below.drew ?_) | (with_reducible refine below_drewN ?_ _) | ((with_reducible refine Below.setCell ?_ ?_ _); rotate_left; (focus (first | exact Nat.le_refl _ | (simp; done) | (simp; omega)))) | (with_reducible assumption) | (with_reducible exact Below.refl _ _)))⟩
          case measure => simp [intOf]; omega
        · obtain rfl : k = 5 := by omega
          rw [pasV_five, row5] at hA
          unfold fV at hA
          rw [HW.out 0 (by omega), HW.out 1 (by omega), HW.out 2 (by omega), HW.out 3 (by omega), HW.out 4 (by omega)] at hA
          have hAc := hA.cell; have hOc := hO.cell; have hOf := hO.frozen
          clear hA hO
          go_wp2
          exact bodyPost_ret (v := .agg #[.int .u64 (dg x 0 : Nat), .int .u64 (dg x 1 : Nat), .int .u64 (dg x 2 : Nat), .int .u64 (dg x 3 : Nat), .int .u64 (dg x 4 : Nat)]) (by simp [results, Try.results87, go_sem, hOc]) rfl ⟨rfl, (by repeat (first | (with_reducible refine Below.alloc' ?_ _) | (with_reducible refine Below.drew ?_) | (with_reducible refine below_drewN ?_ _) | ((with_reducible refine Below.setCell ?_ ?_ _); rotate_left; (focus (first | exact Nat.le_refl _ | (simp; done) | (simp; omega)))) | (with_reducible assumption) | (with_reducible exact Below.refl _ _)))⟩
end Go.Proofs.Ytjchdhpijopikaa
namespace Go.Proofs.Ytjchdhpijopikaa
open Go.RowKit
theorem keep5 (g : Nat) (f : Nat → Nat) {w w' : World} (h : w.cell? ⟨g, 0, none⟩ = some (.int .u64 (f 0 : Nat)) ∧ w.cell? ⟨g, 1, none⟩ = some (.int .u64 (f 1 : Nat)) ∧ w.cell? ⟨g, 2, none⟩ = some (.int .u64 (f 2 : Nat)) ∧ w.cell? ⟨g, 3, none⟩ = some (.int .u64 (f 3 : Nat)) ∧ w.cell? ⟨g, 4, none⟩ = some (.int .u64 (f 4 : Nat))) (hb : Below w.heap.size w w') : w'.cell? ⟨g, 0, none⟩ = some (.int .u64 (f 0 : Nat)) ∧ w'.cell? ⟨g, 1, none⟩ = some (.int .u64 (f 1 : Nat)) ∧ w'.cell? ⟨g, 2, none⟩ = some (.int .u64 (f 2 : Nat)) ∧ w'.cell? ⟨g, 3, none⟩ = some (.int .u64 (f 3 : Nat)) ∧ w'.cell? ⟨g, 4, none⟩ = some (.int .u64 (f 4 : Nat)) := by
  obtain ⟨h0, h1, h2, h3, h4⟩ := h
  exact ⟨by rw [hb.cell (cell_lt h0)]; exact h0, by rw [hb.cell (cell_lt h1)]; exact h1, by rw [hb.cell (cell_lt h2)]; exact h2, by rw [hb.cell (cell_lt h3)]; exact h3, by rw [hb.cell (cell_lt h4)]; exact h4⟩
theorem dg_zero (x : Nat) : dg x 0 % 2 = x % 2 := by simp only [dg, Nat.mul_zero, Nat.pow_zero, Nat.div_one]; omega
theorem odd_num (x : Nat) : (bits BinOp.and IntKind.u64 (dg x 0 : Nat) 1 == 1) = decide (x % 2 = 1) := by
  have h := dg_lt x 0
  rw [show (1 : Int) = ((1 : Nat) : Int) from rfl, u64_and_nat _ 1 (by omega) (by omega), Nat.and_one_is_mod, dg_zero]
  generalize hb : x % 2 = b
  by_cases h1 : b = 1
  · subst h1; simp
  · rw [decide_eq_false h1, beq_eq_false_iff_ne]; omega
set_option maxRecDepth 100000 in
set_option maxHeartbeats 1000000 in
theorem feodd_any {f : Nat → Nat} {x : Nat} (hf : FE f x) (w : World) :
    Calls Try.prog 61 #[.agg #[.int .u64 (f 0 : Nat), .int .u64 (f 1 : Nat), .int .u64 (f 2 : Nat), .int .u64 (f 3 : Nat), .int .u64 (f 4 : Nat)]] w fun e w' => e = .returned (.bool (decide (x % 2 = 1))) ∧ Below w.heap.size w w' := by
  have HO := Lib.hid (odd_num x)
  have hi := ix5_0
  go_enter Try.func61, Try.ntmps61
  go_wp2_with (go_at_call 87; go_must (refine (whole_any hf _).mono ?_; rintro e w1 ⟨rfl, hb⟩; have hbel : Below w.heap.size w w1 := Below.call (by repeat (first | (with_reducible refine Below.alloc' ?_ _) | (with_reducible refine Below.drew ?_) | (with_reducible refine below_drewN ?_ _) | ((with_reducible refine Below.setCell ?_ ?_ _); rotate_left; (focus (first | exact Nat.le_refl _ | (simp; done) | (simp; omega)))) | (with_reducible assumption) | (with_reducible exact Below.refl _ _))) hb; clear hb))
  go_ret
  exact ⟨ret_bool HO.out, (by repeat (first | (with_reducible refine Below.alloc' ?_ _) | (with_reducible refine Below.drew ?_) | (with_reducible refine below_drewN ?_ _) | ((with_reducible refine Below.setCell ?_ ?_ _); rotate_left; (focus (first | exact Nat.le_refl _ | (simp; done) | (simp; omega)))) | (with_reducible assumption) | (with_reducible exact Below.refl _ _)))⟩
theorem dg_ext {x y : Nat} (hx : x < Pq) (hy : y < Pq) (h : ∀ i, i < 5 → dg x i = dg y i) : x = y := by
  have key : ∀ n, n < Pq → val (dg n) = n := by
    intro n hn
    unfold Pq at hn
    simp only [val, dg, Nat.reduceMul, Nat.reducePow]
    omega
  rw [← key x hx, ← key y hy]
  simp only [val, h 0 (by omega), h 1 (by omega), h 2 (by omega), h 3 (by omega), h 4 (by omega)]
set_option maxRecDepth 100000 in
set_option maxHeartbeats 1000000 in
theorem fesame_any {f g : Nat → Nat} {x y : Nat} (hf : FE f x) (hg : FE g y) (w : World) :
    Calls Try.prog 44 #[.agg #[.int .u64 (f 0 : Nat), .int .u64 (f 1 : Nat), .int .u64 (f 2 : Nat), .int .u64 (f 3 : Nat), .int .u64 (f 4 : Nat)], .agg #[.int .u64 (g 0 : Nat), .int .u64 (g 1 : Nat), .int .u64 (g 2 : Nat), .int .u64 (g 3 : Nat), .int .u64 (g 4 : Nat)]] w fun e w' => e = .returned (.bool (decide (x = y))) ∧ Below w.heap.size w w' := by
  have HE : Hid (([((dg x 0 : Nat) : Int), (dg x 1 : Nat), (dg x 2 : Nat), (dg x 3 : Nat), (dg x 4 : Nat)] == [((dg y 0 : Nat) : Int), (dg y 1 : Nat), (dg y 2 : Nat), (dg y 3 : Nat), (dg y 4 : Nat)]) = decide (x = y)) := by
    refine Lib.hid ?_
    by_cases h : x = y
    · subst h; simp
    · rw [decide_eq_false h, beq_eq_false_iff_ne]
      intro h'
      simp only [List.cons.injEq, Int.natCast_inj, and_true] at h'
      refine h (dg_ext hf.lt hg.lt fun i hi => ?_)
      have hh : i = 0 ∨ i = 1 ∨ i = 2 ∨ i = 3 ∨ i = 4 := by omega
      rcases hh with rfl | rfl | rfl | rfl | rfl <;> simp [h']
  have hq : ∀ w : World, (Op.equalIn 10000 25 (.agg #[.int .u64 (dg x 0 : Nat), .int .u64 (dg x 1 : Nat), .int .u64 (dg x 2 : Nat), .int .u64 (dg x 3 : Nat), .int .u64 (dg x 4 : Nat)]) (.agg #[.int .u64 (dg y 0 : Nat), .int .u64 (dg y 1 : Nat), .int .u64 (dg y 2 : Nat), .int .u64 (dg y 3 : Nat), .int .u64 (dg y 4 : Nat)])).run Try.prog w = .ok ([((dg x 0 : Nat) : Int), (dg x 1 : Nat), (dg x 2 : Nat), (dg x 3 : Nat), (dg x 4 : Nat)] == [((dg y 0 : Nat) : Int), (dg y 1 : Nat), (dg y 2 : Nat), (dg y 3 : Nat), (dg y 4 : Nat)]) w :=
    fun w => eqArr w 9998 25 24 5 .u64 Try.underlying25 Try.underlying24 (fun _ => by kernel_rfl) [((dg x 0 : Nat) : Int), (dg x 1 : Nat), (dg x 2 : Nat), (dg x 3 : Nat), (dg x 4 : Nat)] [((dg y 0 : Nat) : Int), (dg y 1 : Nat), (dg y 2 : Nat), (dg y 3 : Nat), (dg y 4 : Nat)] rfl rfl
  generalize ([((dg x 0 : Nat) : Int), (dg x 1 : Nat), (dg x 2 : Nat), (dg x 3 : Nat), (dg x 4 : Nat)] == [((dg y 0 : Nat) : Int), (dg y 1 : Nat), (dg y 2 : Nat), (dg y 3 : Nat), (dg y 4 : Nat)]) = q at *
  have HF := Lib.hid hf; have HG := Lib.hid hg
  clear hf hg
  go_enter Try.func44, Try.ntmps44
  go_wp2
  refine wp_gen (fun W => (W.cell? ⟨w.heap.size, 0, none⟩ = some (.int .u64 (f 0 : Nat)) ∧ W.cell? ⟨w.heap.size, 1, none⟩ = some (.int .u64 (f 1 : Nat)) ∧ W.cell? ⟨w.heap.size, 2, none⟩ = some (.int .u64 (f 2 : Nat)) ∧ W.cell? ⟨w.heap.size, 3, none⟩ = some (.int .u64 (f 3 : Nat)) ∧ W.cell? ⟨w.heap.size, 4, none⟩ = some (.int .u64 (f 4 : Nat))) ∧ (W.cell? ⟨w.heap.size + 1, 0, none⟩ = some (.int .u64 (g 0 : Nat)) ∧ W.cell? ⟨w.heap.size + 1, 1, none⟩ = some (.int .u64 (g 1 : Nat)) ∧ W.cell? ⟨w.heap.size + 1, 2, none⟩ = some (.int .u64 (g 2 : Nat)) ∧ W.cell? ⟨w.heap.size + 1, 3, none⟩ = some (.int .u64 (g 3 : Nat)) ∧ W.cell? ⟨w.heap.size + 1, 4, none⟩ = some (.int .u64 (g 4 : Nat))) ∧ Below w.heap.size w W) ?_ (fun W0 hW => ?_)
  · exact ⟨⟨((Blk.new w _ _).alloc _).cell 0, ((Blk.new w _ _).alloc _).cell 1, ((Blk.new w _ _).alloc _).cell 2, ((Blk.new w _ _).alloc _).cell 3, ((Blk.new w _ _).alloc _).cell 4⟩, ⟨(Blk.new' (by simp)).cell 0, (Blk.new' (by simp)).cell 1, (Blk.new' (by simp)).cell 2, (Blk.new' (by simp)).cell 3, (Blk.new' (by simp)).cell 4⟩, (by repeat (first | (with_reducible refine Below.alloc' ?_ _) | (with_reducible refine Below.drew ?_) | (with_reducible refine below_drewN ?_ _) | ((with_reducible refine Below.setCell ?_ ?_ _); rotate_left; (focus (first | exact Nat.le_refl _ | (simp; done) | (simp; omega)))) | (with_reducible assumption) | (with_reducible exact Below.refl _ _)))⟩
  have hst : ∀ W W' : World, ((W.cell? ⟨w.heap.size, 0, none⟩ = some (.int .u64 (f 0 : Nat)) ∧ W.cell? ⟨w.heap.size, 1, none⟩ = some (.int .u64 (f 1 : Nat)) ∧ W.cell? ⟨w.heap.size, 2, none⟩ = some (.int .u64 (f 2 : Nat)) ∧ W.cell? ⟨w.heap.size, 3, none⟩ = some (.int .u64 (f 3 : Nat)) ∧ W.cell? ⟨w.heap.size, 4, none⟩ = some (.int .u64 (f 4 : Nat))) ∧ (W.cell? ⟨w.heap.size + 1, 0, none⟩ = some (.int .u64 (g 0 : Nat)) ∧ W.cell? ⟨w.heap.size + 1, 1, none⟩ = some (.int .u64 (g 1 : Nat)) ∧ W.cell? ⟨w.heap.size + 1, 2, none⟩ = some (.int .u64 (g 2 : Nat)) ∧ W.cell? ⟨w.heap.size + 1, 3, none⟩ = some (.int .u64 (g 3 : Nat)) ∧ W.cell? ⟨w.heap.size + 1, 4, none⟩ = some (.int .u64 (g 4 : Nat))) ∧ Below w.heap.size w W) → Below W.heap.size W W' → ((W'.cell? ⟨w.heap.size, 0, none⟩ = some (.int .u64 (f 0 : Nat)) ∧ W'.cell? ⟨w.heap.size, 1, none⟩ = some (.int .u64 (f 1 : Nat)) ∧ W'.cell? ⟨w.heap.size, 2, none⟩ = some (.int .u64 (f 2 : Nat)) ∧ W'.cell? ⟨w.heap.size, 3, none⟩ = some (.int .u64 (f 3 : Nat)) ∧ W'.cell? ⟨w.heap.size, 4, none⟩ = some (.int .u64 (f 4 : Nat))) ∧ (W'.cell? ⟨w.heap.size + 1, 0, none⟩ = some (.int .u64 (g 0 : Nat)) ∧ W'.cell? ⟨w.heap.size + 1, 1, none⟩ = some (.int .u64 (g 1 : Nat)) ∧ W'.cell? ⟨w.heap.size + 1, 2, none⟩ = some (.int .u64 (g 2 : Nat)) ∧ W'.cell? ⟨w.heap.size + 1, 3, none⟩ = some (.int .u64 (g 3 : Nat)) ∧ W'.cell? ⟨w.heap.size + 1, 4, none⟩ = some (.int .u64 (g 4 : Nat))) ∧ Below w.heap.size w W') := by
    rintro W W' ⟨h1, h2, h3⟩ hb
    exact ⟨keep5 _ _ h1 hb, keep5 _ _ h2 hb, Below.call h3 hb⟩
  have hst' := Lib.hid hst; have HS0 := Lib.hid (show (fun W => (W.cell? ⟨w.heap.size, 0, none⟩ = some (.int .u64 (f 0 : Nat)) ∧ W.cell? ⟨w.heap.size, 1, none⟩ = some (.int .u64 (f 1 : Nat)) ∧ W.cell? ⟨w.heap.size, 2, none⟩ = some (.int .u64 (f 2 : Nat)) ∧ W.cell? ⟨w.heap.size, 3, none⟩ = some (.int .u64 (f 3 : Nat)) ∧ W.cell? ⟨w.heap.size, 4, none⟩ = some (.int .u64 (f 4 : Nat))) ∧ (W.cell? ⟨w.heap.size + 1, 0, none⟩ = some (.int .u64 (g 0 : Nat)) ∧ W.cell? ⟨w.heap.size + 1, 1, none⟩ = some (.int .u64 (g 1 : Nat)) ∧ W.cell? ⟨w.heap.size + 1, 2, none⟩ = some (.int .u64 (g 2 : Nat)) ∧ W.cell? ⟨w.heap.size + 1, 3, none⟩ = some (.int .u64 (g 3 : Nat)) ∧ W.cell? ⟨w.heap.size + 1, 4, none⟩ = some (.int .u64 (g 4 : Nat))) ∧ Below w.heap.size w W) W0.drew from ⟨hW.1, hW.2.1, hW.2.2.drew⟩)
  clear hst hW
  have hst := hst'
  clear hst'
  go_region_held3 (fun W => (W.cell? ⟨w.heap.size, 0, none⟩ = some (.int .u64 (f 0 : Nat)) ∧ W.cell? ⟨w.heap.size, 1, none⟩ = some (.int .u64 (f 1 : Nat)) ∧ W.cell? ⟨w.heap.size, 2, none⟩ = some (.int .u64 (f 2 : Nat)) ∧ W.cell? ⟨w.heap.size, 3, none⟩ = some (.int .u64 (f 3 : Nat)) ∧ W.cell? ⟨w.heap.size, 4, none⟩ = some (.int .u64 (f 4 : Nat))) ∧ (W.cell? ⟨w.heap.size + 1, 0, none⟩ = some (.int .u64 (g 0 : Nat)) ∧ W.cell? ⟨w.heap.size + 1, 1, none⟩ = some (.int .u64 (g 1 : Nat)) ∧ W.cell? ⟨w.heap.size + 1, 2, none⟩ = some (.int .u64 (g 2 : Nat)) ∧ W.cell? ⟨w.heap.size + 1, 3, none⟩ = some (.int .u64 (g 3 : Nat)) ∧ W.cell? ⟨w.heap.size + 1, 4, none⟩ = some (.int .u64 (g 4 : Nat))) ∧ Below w.heap.size w W) (first | (exact HS0.out) | (first | assumption | (refine hst.out _ _ ?_ hb; assumption) | (refine hst.out _ _ ?_ (Below.alloc' (Below.refl _ _) _); assumption) | (refine hst.out _ _ ?_ (Below.drew (Below.refl _ _)); assumption))) ((go_at_call 87; first | ((with_reducible refine (whole_any HF.out _).mono ?_); rintro e w1 ⟨rfl, hb⟩) | ((with_reducible refine (whole_any HG.out _).mono ?_); rintro e w1 ⟨rfl, hb⟩)))
  go_wp2
  go_ret
  have hf : ∀ W : World, ((W.cell? ⟨w.heap.size, 0, none⟩ = some (.int .u64 (f 0 : Nat)) ∧ W.cell? ⟨w.heap.size, 1, none⟩ = some (.int .u64 (f 1 : Nat)) ∧ W.cell? ⟨w.heap.size, 2, none⟩ = some (.int .u64 (f 2 : Nat)) ∧ W.cell? ⟨w.heap.size, 3, none⟩ = some (.int .u64 (f 3 : Nat)) ∧ W.cell? ⟨w.heap.size, 4, none⟩ = some (.int .u64 (f 4 : Nat))) ∧ (W.cell? ⟨w.heap.size + 1, 0, none⟩ = some (.int .u64 (g 0 : Nat)) ∧ W.cell? ⟨w.heap.size + 1, 1, none⟩ = some (.int .u64 (g 1 : Nat)) ∧ W.cell? ⟨w.heap.size + 1, 2, none⟩ = some (.int .u64 (g 2 : Nat)) ∧ W.cell? ⟨w.heap.size + 1, 3, none⟩ = some (.int .u64 (g 3 : Nat)) ∧ W.cell? ⟨w.heap.size + 1, 4, none⟩ = some (.int .u64 (g 4 : Nat))) ∧ Below w.heap.size w W) → Below w.heap.size w W := fun W h => h.2.2
  exact ⟨ret_bool HE.out, hf _ (by assumption)⟩
end Go.Proofs.Ytjchdhpijopikaa
namespace Go.Proofs.Ytjchdhpijopikaa
open Go.RowKit
/-- The limb that two words make. -/
theorem limb_or (x y : Nat) (s t : Nat) (hs : s ≤ 64) (ht : t + s = 64) (hx : x < 18446744073709551616) :
    bits BinOp.and IntKind.u64 (bits BinOp.or IntKind.u64 ((x : Int) / 2 ^ s) (IntKind.u64.wrap ((y : Int) * 2 ^ t))) 2251799813685247 = ((x / 2 ^ s + y * 2 ^ t % 18446744073709551616) % 2251799813685248 : Nat) := by
  have h0 : x / 2 ^ s < 2 ^ t := by
    apply Nat.div_lt_of_lt_mul
    rw [← Nat.pow_add, show s + t = 64 from by omega]; exact hx
  have h1 : 2 ^ t ≤ 2 ^ 64 := Nat.pow_le_pow_right (by omega) (by omega)
  rw [wrapU, show ((x : Int) / 2 ^ s) = ((x / 2 ^ s : Nat) : Int) from by simp, show ((y : Int) * 2 ^ t) % 18446744073709551616 = ((y * 2 ^ t % 18446744073709551616 : Nat) : Int) from by simp, u64_or_nat _ _ (by omega) (Nat.mod_lt _ (by omega))]
  have e : y * 2 ^ t % 18446744073709551616 = (y % 2 ^ s) * 2 ^ t := by
    rw [show (18446744073709551616 : Nat) = 2 ^ t * 2 ^ s from by rw [← Nat.pow_add, ht], Nat.mul_comm y, Nat.mul_mod_mul_left, Nat.mul_comm]
  have h2 : y % 2 ^ s * 2 ^ t < 18446744073709551616 := by rw [← e]; exact Nat.mod_lt _ (by omega)
  have h3 : x / 2 ^ s ||| y % 2 ^ s * 2 ^ t = x / 2 ^ s + y % 2 ^ s * 2 ^ t := by
    have h4 := Nat.shiftLeft_add_eq_or_of_lt h0 (y % 2 ^ s)
    rw [Nat.shiftLeft_eq] at h4
    rw [Nat.or_comm, ← h4, Nat.add_comm]
  rw [e, h3]
  apply and51
  rw [← h3]
  exact Nat.or_lt_two_pow (n := 64) (by omega) h2
theorem of0 (n : Nat) : bits BinOp.and IntKind.u64 (lw n 0 : Nat) 2251799813685247 = (dg n 0 : Nat) := by
  rw [and51 _ (lw_lt _ _)]; simp only [lw, dg, Nat.mul_zero, Nat.pow_zero, Nat.div_one]; omega
theorem of1 (n : Nat) : bits BinOp.and IntKind.u64 (bits BinOp.or IntKind.u64 ((lw n 0 : Nat) / 2251799813685248) (IntKind.u64.wrap ((lw n 1 : Nat) * 8192))) 2251799813685247 = (dg n 1 : Nat) := by
  have h := limb_or (lw n 0) (lw n 1) 51 13 (by omega) (by omega) (lw_lt _ _)
  have e : (((lw n 0 : Nat) : Int) / 2 ^ 51) = (lw n 0 : Nat) / 2251799813685248 := rfl
  refine Eq.trans (show _ = _ from h) ?_
  congr 1
  simp only [lw, dg, Nat.reduceMul, Nat.reducePow]; omega
theorem of2 (n : Nat) : bits BinOp.and IntKind.u64 (bits BinOp.or IntKind.u64 ((lw n 1 : Nat) / 274877906944) (IntKind.u64.wrap ((lw n 2 : Nat) * 67108864))) 2251799813685247 = (dg n 2 : Nat) := by
  have h := limb_or (lw n 1) (lw n 2) 38 26 (by omega) (by omega) (lw_lt _ _)
  refine Eq.trans (show _ = _ from h) ?_
  congr 1
  simp only [lw, dg, Nat.reduceMul, Nat.reducePow]; omega
theorem of3 (n : Nat) : bits BinOp.and IntKind.u64 (bits BinOp.or IntKind.u64 ((lw n 2 : Nat) / 33554432) (IntKind.u64.wrap ((lw n 3 : Nat) * 549755813888))) 2251799813685247 = (dg n 3 : Nat) := by
  have h := limb_or (lw n 2) (lw n 3) 25 39 (by omega) (by omega) (lw_lt _ _)
  refine Eq.trans (show _ = _ from h) ?_
  congr 1
  simp only [lw, dg, Nat.reduceMul, Nat.reducePow]; omega
theorem of4 (n : Nat) : bits BinOp.and IntKind.u64 ((lw n 3 : Nat) / 4096) 2251799813685247 = (dg n 4 : Nat) := by
  have := lw_lt n 3
  rw [show ((lw n 3 : Nat) : Int) / 4096 = ((lw n 3 / 4096 : Nat) : Int) from by simp, and51 _ (by omega)]
  simp only [lw, dg, Nat.reduceMul, Nat.reducePow]; omega
theorem dg_val (n : Nat) : val (dg n) = n % 57896044618658097711785492504343953926634992332820282019728792003956564819968 := by
  simp only [val, dg, Nat.reduceMul, Nat.reducePow]; omega
theorem FE.of (n : Nat) : FE (dg n) (n % 57896044618658097711785492504343953926634992332820282019728792003956564819968 % Pq) :=
  ⟨⟨by have := dg_lt n 0; omega, dg_lt _ _, dg_lt _ _, dg_lt _ _, dg_lt _ _⟩, by rw [dg_val]⟩
theorem row4_zero : row 4 (wV 0) = [.int .u64 0, .int .u64 0, .int .u64 0, .int .u64 0] := by simp only [row4, wV0]
set_option maxRecDepth 100000 in
set_option maxHeartbeats 1000000 in
theorem feof_any {a : Option Addr} {n cap : Nat} {l : List UInt8} (w : World) (h : RdB w a n cap l) :
    Calls Try.prog 81 #[.slice a n cap] w fun e w' => e = .returned (.agg #[.int .u64 (dg (leN (first l 32)) 0 : Nat), .int .u64 (dg (leN (first l 32)) 1 : Nat), .int .u64 (dg (leN (first l 32)) 2 : Nat), .int .u64 (dg (leN (first l 32)) 3 : Nat), .int .u64 (dg (leN (first l 32)) 4 : Nat)]) ∧ Below w.heap.size w w' := by
  have hlen := first_len l 32
  generalize hfl : first l 32 = fl at *
  have HF := Lib.hid hfl; have HL := Lib.hid hlen
  clear hfl hlen
  go_enter Try.func81, Try.ntmps81
  go_wp2_with (go_at_call 67; go_must (refine (first_any 32 (by omega) _ (h.below (by repeat (first | (with_reducible refine Below.alloc' ?_ _) | (with_reducible refine Below.drew ?_) | (with_reducible refine below_drewN ?_ _) | ((with_reducible refine Below.setCell ?_ ?_ _); rotate_left; (focus (first | exact Nat.le_refl _ | (simp; done) | (simp; omega)))) | (with_reducible assumption) | (with_reducible exact Below.refl _ _))))).mono ?_; rintro e w1 ⟨rfl, hB, hb⟩))
  rw [HF.out] at hB
  have hB1 : Blk w1 (w.heap.size + 1) (fl.map bV) 5 := by simpa using hB
  clear hB
  have hg : w.heap.size + 1 < w1.heap.size := hB1.lt
  refine wp_gen (fun W => Blk W w1.heap.size (row 4 (wV (leN (fl.take 0)))) 44 ∧ Blk W w.heap.size [.int .u64 0, .int .u64 0, .int .u64 0, .int .u64 0, .int .u64 0] 27 ∧ Blk W (w.heap.size + 1) (fl.map bV) 5 ∧ Below w.heap.size w W) ?_ (fun W hW => ?_)
  · refine ⟨?_, ((Blk.new w _ _).below' hb).alloc _, hB1.alloc _, Below.alloc' (Below.call (by repeat (first | (with_reducible refine Below.alloc' ?_ _) | (with_reducible refine Below.drew ?_) | (with_reducible refine below_drewN ?_ _) | ((with_reducible refine Below.setCell ?_ ?_ _); rotate_left; (focus (first | exact Nat.le_refl _ | (simp; done) | (simp; omega)))) | (with_reducible assumption) | (with_reducible exact Below.refl _ _))) hb) _⟩
    rw [List.take_zero, show leN [] = 0 from rfl, row4_zero]
    exact Blk.new w1 _ _
  obtain ⟨hA, hO, hB2, hbel⟩ := hW
  clear hb h hB1
  generalize w1.heap.size = g at *
  clear w1
  go_wp2
  go_loopw [9] (fun i wr => ∃ k : Nat, k ≤ 32 ∧ i = .int .i64 k ∧ Blk wr g (row 4 (wV (leN (fl.take k)))) 44 ∧ Blk wr w.heap.size [.int .u64 0, .int .u64 0, .int .u64 0, .int .u64 0, .int .u64 0] 27 ∧ Blk wr (w.heap.size + 1) (fl.map bV) 5 ∧ Below w.heap.size w wr) (fun i _ => 32 - (intOf i).toNat)
  case atStart => exact ⟨0, by omega, rfl, hA, hO, hB2, hbel⟩
  case round =>
    clear hA hO hB2 hbel W
    obtain ⟨k, hk, rfl, hA, hO, hB, hbel⟩ := hrel
    by_cases hlt : k < 32
    · have hkl : k < fl.length := by rw [HL.out]; exact hlt
      have hcb : wr.cell? ⟨w.heap.size + 1, k, none⟩ = some (.int .u8 (fl[k].toNat : Int)) := by rw [hB.cell]; simp [hkl, bV]
      have HT := Lib.hid (leN_take fl k hkl)
      have hn := leN_take_lt fl k
      have HC := Lib.hid (fl[k].toNat_lt)
      generalize leN (fl.take k) = x at *
      generalize fl[k].toNat = c at *
      obtain ⟨ci, hci⟩ : ∃ ci : Int, ci = (c : Int) := ⟨_, rfl⟩
      have HI := Lib.hid hci
      rw [← hci] at hcb
      have hc0 : 0 ≤ ci := by omega
      have hc1 : ci < 256 := by have := HC.out; omega
      clear hci
      have hq : k / 8 < 4 := by omega
      have ca : wr.cell? ⟨g, k / 8, none⟩ = some (.int .u64 (lw x (k / 8) : Nat)) := hA.at hq
      have cf := hA.frozen (k / 8)
      have HN := Lib.hid hn
      have HS := Lib.hid (or_byteI x k c ci HI.out HN.out HC.out)
      have HO := Lib.hid hO; have HB := Lib.hid hB; have HA := Lib.hid hA
      clear hn hO hB hA
      go_wp2
      go_region
      rw [HS.out]
      have hA2 := HA.out.set (k / 8) (wV (x + c * 256 ^ k) (k / 8))
      rw [row_set (g := wV (x + c * 256 ^ k)) _ _ rfl (fun i _ hi => by unfold wV; rw [or_other x k c i HN.out HC.out hi])] at hA2
      have hO2 := HO.out.other ⟨g, k / 8, none⟩ (by simp; omega) (wV (x + c * 256 ^ k) (k / 8))
      have hB2 := HB.out.other ⟨g, k / 8, none⟩ (by simp; omega) (wV (x + c * 256 ^ k) (k / 8))
      have HA2 := Lib.hid hA2; have HO2 := Lib.hid hO2; have HB2 := Lib.hid hB2
      clear hA2 hO2 hB2 ca cf hcb
      go_wp2
      go_roundw
      case rel => exact ⟨k + 1, by omega, by go_num, by rw [HT.out]; exact HA2.out.drew, HO2.out.drew, HB2.out.drew, (by repeat (first | (with_reducible refine Below.alloc' ?_ _) | (with_reducible refine Below.drew ?_) | (with_reducible refine below_drewN ?_ _) | ((with_reducible refine Below.setCell ?_ ?_ _); rotate_left; (focus (first | exact Nat.le_refl _ | (simp; done) | (simp; omega)))) | (with_reducible assumption) | (with_reducible exact Below.refl _ _)))⟩
      case measure => simp [intOf] <;> omega
    · obtain rfl : k = 32 := by omega
      rw [List.take_of_length_le (by rw [HL.out]; omega)] at hA
      clear hB hlt hk
      generalize hx : leN fl = x at *
      have HX := Lib.hid hx
      clear hx
      have g0 : wr.cell? ⟨g, 0, none⟩ = some (.int .u64 (lw x 0 : Nat)) := hA.at (by omega); have g1 : wr.cell? ⟨g, 1, none⟩ = some (.int .u64 (lw x 1 : Nat)) := hA.at (by omega); have g2 : wr.cell? ⟨g, 2, none⟩ = some (.int .u64 (lw x 2 : Nat)) := hA.at (by omega); have g3 : wr.cell? ⟨g, 3, none⟩ = some (.int .u64 (lw x 3 : Nat)) := hA.at (by omega)
      have hOc := hO.cell; have hOf := hO.frozen
      have e0 := of0 x; have e1 := of1 x; have e2 := of2 x; have e3 := of3 x; have e4 := of4 x
      clear hA hO
      go_wp2
      exact bodyPost_ret (v := .agg #[.int .u64 (dg x 0 : Nat), .int .u64 (dg x 1 : Nat), .int .u64 (dg x 2 : Nat), .int .u64 (dg x 3 : Nat), .int .u64 (dg x 4 : Nat)]) (by simp [results, Try.results81, go_sem, hOc]) rfl ⟨by rw [HX.out], (by repeat (first | (with_reducible refine Below.alloc' ?_ _) | (with_reducible refine Below.drew ?_) | (with_reducible refine below_drewN ?_ _) | ((with_reducible refine Below.setCell ?_ ?_ _); rotate_left; (focus (first | exact Nat.le_refl _ | (simp; done) | (simp; omega)))) | (with_reducible assumption) | (with_reducible exact Below.refl _ _)))⟩
end Go.Proofs.Ytjchdhpijopikaa
namespace Go.Proofs.Ytjchdhpijopikaa
open Go.RowKit
/-- The slice (a, n, cap) holds slices that read as the rows ls. -/
structure RdRows (w : World) (a : Option Addr) (n cap : Nat) (ls : List (List UInt8)) : Prop where
  hlen : ls.length = n
  hcap : n ≤ cap
  hmax : cap ≤ maxLen
  get : ∀ i (h : i < ls.length), ∃ b o sa sn sc, a = some ⟨b, o, none⟩ ∧ w.cell? ⟨b, o + i, none⟩ = some (.slice sa sn sc) ∧ RdB w sa sn sc ls[i]
theorem RdRows.below {w w' : World} {a : Option Addr} {n cap : Nat} {ls : List (List UInt8)} (h : RdRows w a n cap ls) (hb : Below w.heap.size w w') : RdRows w' a n cap ls := by
  refine ⟨h.hlen, h.hcap, h.hmax, fun i hi => ?_⟩
  obtain ⟨b, o, sa, sn, sc, ha, hc, hr⟩ := h.get i hi
  exact ⟨b, o, sa, sn, sc, ha, by rw [hb.cell (cell_lt hc)]; exact hc, hr.below hb⟩
theorem RdRows.cases {w : World} {a : Option Addr} {n cap : Nat} {ls : List (List UInt8)} (h : RdRows w a n cap ls) :
    (n = 0 ∧ ls = []) ∨ ∃ b o, 0 < n ∧ a = some ⟨b, o, none⟩ ∧ ∀ i (hi : i < ls.length), ∃ sa sn sc, w.cell? ⟨b, o + i, none⟩ = some (.slice sa sn sc) ∧ RdB w sa sn sc ls[i] := by
  by_cases h0 : n = 0
  · exact .inl ⟨h0, List.eq_nil_of_length_eq_zero (by rw [h.hlen, h0])⟩
  · obtain ⟨b, o, _, _, _, ha, _, _⟩ := h.get 0 (by have := h.hlen; omega)
    refine .inr ⟨b, o, by omega, ha, fun i hi => ?_⟩
    obtain ⟨b', o', sa, sn, sc, ha', hc, hr⟩ := h.get i hi
    rw [ha] at ha'
    simp at ha'
    obtain ⟨rfl, rfl⟩ := ha'
    exact ⟨sa, sn, sc, hc, hr⟩
/-- How many bytes the first k rows have. -/
def lens (ls : List (List UInt8)) (k : Nat) : Nat := (ls.take k).flatten.length
theorem lens_succ (ls : List (List UInt8)) (k : Nat) (h : k < ls.length) : lens ls (k + 1) = lens ls k + ls[k].length := by
  unfold lens; rw [List.take_succ_eq_append_getElem h, List.flatten_append, List.length_append, List.flatten_singleton]
theorem flat_succ (ls : List (List UInt8)) (k : Nat) (h : k < ls.length) : (ls.take (k + 1)).flatten = (ls.take k).flatten ++ ls[k] := by
  rw [List.take_succ_eq_append_getElem h, List.flatten_append, List.flatten_singleton]
theorem lens_le (ls : List (List UInt8)) (k : Nat) : lens ls k ≤ ls.flatten.length := by
  unfold lens
  conv => rhs; rw [← List.take_append_drop k ls, List.flatten_append, List.length_append]
  omega
set_option maxRecDepth 100000 in
set_option maxHeartbeats 4000000 in
theorem grow_any (n : Nat) (hn : n ≤ 70368744177664) (w : World) :
    Calls Try.prog 102 #[.slice none 0 0, .int .i64 n] w fun e w' => ∃ v, e = .returned v ∧ w'.ownsRow w.heap.size 5 1 v 0 [] ∧ Below w.heap.size w w' := by
  obtain ⟨i0, hi, hz0, hz1, hz2⟩ := info_parts infoU8
  by_cases h0 : n = 0
  · subst h0
    go_enter Try.func102, Try.ntmps102
    go_wp2
    go_ret
    exact ⟨_, rfl, World.ownsRow_nil _ _ _ _, Below.refl _ _⟩
  · have h1 : ¬ ((n : Int) < 0) := by omega
    have h4 : (n : Int) > 0 := by omega
    have hrz : ∀ ty, (Builtin.append_ #[22, 3] ty #[.slice none 0 0, .int .i64 (n : Int)]).run Try.prog w =
        .ok (.slice (some ⟨w.heap.size, 0, none⟩) n (grownCap w n 0 5)) (w.drew.alloc (.cells (([] : List Value).toArray ++ Builtin.zeroCells (Value.int .u8 0).cells n ++ Builtin.zeroCells (Value.int .u8 0).cells (grownCap w n 0 5 - n)) 5)) := fun ty => by
      have h := Lib.run_append_grow_zeros w 22 3 ty 5 i0 (.int .u8 0) .i64 .i64 Try.underlying22 Try.underlying3 hi hz0 none 0 0 [] (run_firstCells_none w.drew i0.size 0 0 0) n (by omega) (by omega) (by omega) (by omega)
        (by rw [hz2]; omega)
        (by rw [Nat.zero_add]; exact growslice_fits (by omega) (by rw [hz2]; omega))
      rw [Nat.zero_add] at h
      exact h
    have hGn : n ≤ grownCap w n 0 5 := grownCap_ge w _ _ _
    obtain ⟨G, hG⟩ : ∃ G, G = grownCap w n 0 5 := ⟨_, rfl⟩
    rw [← hG] at hrz hGn
    have hGm : G ≤ maxLen := by
      have := grownCap_le_maxLen w n 0 5 (by unfold maxLen; omega)
      rw [← hG] at this; exact this
    have hG63 : G ≤ 9223372036854775807 := by unfold maxLen at hGm; omega
    obtain ⟨O, hO⟩ : ∃ O, O = Obj.cells (([] : List Value).toArray ++ Builtin.zeroCells (Value.int .u8 0).cells n ++ Builtin.zeroCells (Value.int .u8 0).cells (G - n)) 5 (0, 0) := ⟨_, rfl⟩
    rw [← hO] at hrz
    have hown : World.ownsRow (w.alloc O).drew w.heap.size 5 1 (.slice (some ⟨w.heap.size, 0, none⟩) 0 G) 0 [] := by
      rw [hO]
      refine World.ownsRow_made w.drew _ G (Nat.le_refl _) hGm ?_
      simp [size_zeroCells, Value.cells]; omega
    have HO := Lib.hid hown
    clear hG hown hi hz0 hz1 hz2 hGm hO
    go_enter Try.func102, Try.ntmps102
    go_wp2_with (at_builtin; refine Lib.wpList_append_run _ rfl _ _ _ _ rfl _ _ rfl rfl _ _ (hrz _) ?_)
    all_goals (go_ret; exact ⟨_, rfl, HO.out, (by repeat (first | (with_reducible refine Below.alloc' ?_ _) | (with_reducible refine Below.drew ?_) | (with_reducible refine below_drewN ?_ _) | ((with_reducible refine Below.setCell ?_ ?_ _); rotate_left; (focus (first | exact Nat.le_refl _ | (simp; done) | (simp; omega)))) | (with_reducible assumption) | (with_reducible exact Below.refl _ _)))⟩)
set_option maxRecDepth 100000 in
set_option maxHeartbeats 4000000 in
theorem concat_any {a : Option Addr} {n cap : Nat} {ls : List (List UInt8)} (w : World) (h : RdRows w a n cap ls) (hs : ls.flatten.length ≤ 70368744177664) :
    Calls Try.prog 100 #[.slice a n cap] w fun e w' => ∃ v, e = .returned v ∧ w'.ownsRow w.heap.size 5 1 v ls.flatten.length (ls.flatten.map bV) ∧ Below w.heap.size w w' := by
  have HL := Lib.hid h.hlen
  have HS := Lib.hid hs
  have hm63 : (n : Int) ≤ 9223372036854775807 := by have := h.hcap; have := h.hmax; unfold maxLen at *; omega
  have HR := Lib.hid h
  clear h
  go_enter Try.func100, Try.ntmps100
  go_wp2
  go_loopw [3, 11] (fun s i wr => ∃ k : Nat, k ≤ n ∧ i = .int .i64 k ∧ s = .int .i64 (lens ls k : Nat) ∧ Below w.heap.size w wr) (fun _ i _ => n - (intOf i).toNat)
  case atStart => exact ⟨0, by omega, rfl, rfl, Below.refl _ _⟩
  case round =>
    obtain ⟨k, hk, rfl, rfl, hbel⟩ := hrel
    by_cases hlt : k < n
    · rcases HR.out.cases with ⟨h0, _⟩ | ⟨b, o, _, rfl, hget⟩
      · omega
      · have hkl : k < ls.length := by rw [HL.out]; exact hlt
        obtain ⟨sa, sn, sc, hc, hr⟩ := hget k hkl
        have hc2 : wr.cell? ⟨b, o + k, none⟩ = some (.slice sa sn sc) := by rw [hbel.cell (cell_lt hc)]; exact hc
        have e1 := lens_succ ls k hkl
        rw [hr.hlen] at e1
        have h2 := lens_le ls (k + 1)
        have hsum : lens ls k + sn ≤ 70368744177664 := by have := HS.out; omega
        have HE := Lib.hid e1
        have hcp := hr.hcap
        have hsn : sn ≤ 70368744177664 := by omega
        clear h2 e1 hc hr hget
        generalize lens ls k = s at *
        have hw : IntKind.i64.wrap ((s : Int) + (sn : Int)) = ((s + sn : Nat) : Int) := by rw [IntKind.wrap_i64]; omega
        have hpos : decide (((s + sn : Nat) : Int) < 0) = false := by simp; omega
        go_wp2
        go_roundw
        case rel => exact ⟨k + 1, by omega, by go_num, by rw [HE.out, Int.natCast_add], (by repeat (first | (with_reducible refine Below.alloc' ?_ _) | (with_reducible refine Below.drew ?_) | (with_reducible refine below_drewN ?_ _) | ((with_reducible refine Below.setCell ?_ ?_ _); rotate_left; (focus (first | exact Nat.le_refl _ | (simp; done) | (simp; omega)))) | (with_reducible assumption) | (with_reducible exact Below.refl _ _)))⟩
        case measure => simp [intOf]; omega
    · obtain rfl : k = n := by omega
      have HT : Hid (lens ls k = ls.flatten.length) := Lib.hid (by unfold lens; rw [List.take_of_length_le (by rw [HL.out]; omega)])
      obtain ⟨wo, rfl⟩ : ∃ wo : World, wo = wr := ⟨_, rfl⟩
      have HS2 : Hid (lens ls k ≤ 70368744177664) := Lib.hid (by rw [HT.out]; exact HS.out)
      go_wp2_with (go_at_call 102; go_must (refine (grow_any _ HS2.out _).mono ?_; rintro e w1 ⟨v, rfl, hown, hb⟩; have hbel1 := Below.call hbel hb; have hown1 : World.ownsRow w1 w.heap.size 5 1 v (lens ls 0) ((ls.take 0).flatten.map bV) := ⟨hown.1, by rcases hown.2 with h | ⟨g, c, cur, h1, h2, h3⟩; exact .inl h; exact .inr ⟨g, c, cur, h1, Nat.le_trans hbel.size h2, h3⟩⟩; clear hown hb))
      clear hlt
      go_loopw [6, 27] (fun s i wr => ∃ j : Nat, j ≤ k ∧ i = .int .i64 j ∧ wr.ownsRow w.heap.size 5 1 s (lens ls j) ((ls.take j).flatten.map bV) ∧ Below w.heap.size w wr) (fun _ i _ => k - (intOf i).toNat)
      case atStart => exact ⟨0, by omega, rfl, hown1, hbel1⟩
      case round =>
        clear hown1 hbel1 hbel
        obtain ⟨j, hj, rfl, hown, hbel⟩ := hrel
        by_cases hlt : j < k
        · rcases HR.out.cases with ⟨h0, _⟩ | ⟨b, o, _, rfl, hget⟩
          · omega
          · have hkl : j < ls.length := by rw [HL.out]; exact hlt
            obtain ⟨sa, sn, sc, hc, hr⟩ := hget j hkl
            have hc2 : wr.cell? ⟨b, o + j, none⟩ = some (.slice sa sn sc) := by rw [hbel.cell (cell_lt hc)]; exact hc
            have e1 := lens_succ ls j hkl
            rw [hr.hlen] at e1
            have h2 := lens_le ls (j + 1)
            have hsum : lens ls j + sn ≤ 70368744177664 := by have := HS.out; omega
            have HE := Lib.hid e1
            have HF := Lib.hid (flat_succ ls j hkl)
            have HRD := Lib.hid (hr.below hbel)
            clear h2 e1 hc hr hget
            go_wp2_with (at_builtin; refine app_bytes _ rfl (.tmp 31) (.tmp 32) rfl w.heap.size _ (lens ls j) ((ls.take j).flatten) rfl hown sa sn sc ls[j] rfl HRD.out hsum hbel.size w hbel ?_; intro v' w2 hown2 hbel2; have HO2 : Hid (w2.ownsRow w.heap.size 5 1 v' (lens ls (j + 1)) ((ls.take (j + 1)).flatten.map bV)) := Lib.hid (by rw [HE.out, HF.out]; exact hown2); clear hown2)
            go_roundw
            case rel => exact ⟨j + 1, by omega, by go_num, HO2.out, hbel2⟩
            case measure => simp [intOf]; omega
        · obtain rfl : j = k := by omega
          have hO := Lib.hid (show wr.ownsRow w.heap.size 5 1 _ ls.flatten.length (ls.flatten.map bV) from by
            have := hown
            rw [HT.out, List.take_of_length_le (by rw [HL.out]; omega)] at this; exact this)
          clear hown
          go_wp2
          go_ret
          exact ⟨_, rfl, hO.out, hbel⟩
set_option maxRecDepth 100000 in
set_option maxHeartbeats 4000000 in
theorem cat_any {a : Option Addr} {n cap : Nat} {ls : List (List UInt8)} (w : World) (h : RdRows w a n cap ls) (hs : ls.flatten.length ≤ 70368744177664) :
    Calls Try.prog 93 #[.slice a n cap] w fun e w' => ∃ v, e = .returned v ∧ w'.ownsRow w.heap.size 5 1 v ls.flatten.length (ls.flatten.map bV) ∧ Below w.heap.size w w' := by
  go_enter Try.func93, Try.ntmps93
  go_wp2_with (go_at_call 100; go_must (refine (concat_any _ h hs).mono ?_; rintro e w1 ⟨v, rfl, ho, hb⟩; have HO := Lib.hid ho; clear ho))
  go_ret
  exact ⟨_, rfl, HO.out, hb⟩
/-- Slices that read as rows. -/
inductive Rows (w : World) : List Value → List (List UInt8) → Prop
  | nil : Rows w [] []
  | cons {sa : Option Addr} {sn sc : Nat} {l : List UInt8} {cs : List Value} {ls : List (List UInt8)} : RdB w sa sn sc l → Rows w cs ls → Rows w (.slice sa sn sc :: cs) (l :: ls)
theorem Rows.len {w : World} {cs : List Value} {ls : List (List UInt8)} (h : Rows w cs ls) : cs.length = ls.length := by
  induction h with
  | nil => rfl
  | cons _ _ ih => simp [ih]
theorem Rows.get {w : World} {cs : List Value} {ls : List (List UInt8)} (h : Rows w cs ls) : ∀ i (hi : i < ls.length), ∃ sa sn sc, cs[i]? = some (.slice sa sn sc) ∧ RdB w sa sn sc ls[i] := by
  induction h with
  | nil => intro i hi; simp at hi
  | cons h1 _ ih =>
    intro i hi
    cases i with
    | zero => exact ⟨_, _, _, rfl, h1⟩
    | succ i => obtain ⟨sa, sn, sc, h2, h3⟩ := ih i (by simpa using hi); exact ⟨sa, sn, sc, by simpa using h2, by simpa using h3⟩
theorem RdRows.blk {w : World} {g E n : Nat} {cs : List Value} {ls : List (List UInt8)} (h : Blk w g cs E) (hr : Rows w cs ls) (hn : ls.length = n) (hm : n ≤ maxLen) : RdRows w (some ⟨g, 0, none⟩) n n ls :=
  ⟨hn, Nat.le_refl _, hm, fun i hi => by
    obtain ⟨sa, sn, sc, h2, h3⟩ := hr.get i hi
    exact ⟨g, 0, sa, sn, sc, rfl, by rw [Nat.zero_add, h.cell]; exact h2, h3⟩⟩
end Go.Proofs.Ytjchdhpijopikaa
namespace Go.Proofs.Ytjchdhpijopikaa
open Go.RowKit
theorem or_shl (a b t : Nat) (ht : t ≤ 64) (ha : a < 2 ^ t) : bits BinOp.or IntKind.u64 (a : Int) (IntKind.u64.wrap ((b : Int) * 2 ^ t)) = ((a + b * 2 ^ t) % 18446744073709551616 : Nat) := by
  obtain ⟨s, hs⟩ : ∃ s, t + s = 64 := ⟨64 - t, by omega⟩
  have h1 : 2 ^ t ≤ 2 ^ 64 := Nat.pow_le_pow_right (by omega) ht
  have e : b * 2 ^ t % 18446744073709551616 = (b % 2 ^ s) * 2 ^ t := by
    rw [show (18446744073709551616 : Nat) = 2 ^ t * 2 ^ s from by rw [← Nat.pow_add, hs], Nat.mul_comm b, Nat.mul_mod_mul_left, Nat.mul_comm]
  have h2 : b % 2 ^ s * 2 ^ t < 18446744073709551616 := by rw [← e]; exact Nat.mod_lt _ (by omega)
  have h3 : a ||| b % 2 ^ s * 2 ^ t = a + b % 2 ^ s * 2 ^ t := by
    have h4 := Nat.shiftLeft_add_eq_or_of_lt ha (b % 2 ^ s)
    rw [Nat.shiftLeft_eq] at h4
    rw [Nat.or_comm, ← h4, Nat.add_comm]
  have h5 : a ||| b % 2 ^ s * 2 ^ t < 18446744073709551616 := Nat.or_lt_two_pow (n := 64) (by omega) h2
  rw [h3] at h5
  rw [wrapU, show ((b : Int) * 2 ^ t) % 18446744073709551616 = ((b * 2 ^ t % 18446744073709551616 : Nat) : Int) from by simp, u64_or_nat _ _ (by omega) (Nat.mod_lt _ (by omega)), Nat.add_mod, e, h3, Nat.mod_eq_of_lt (show a < 18446744073709551616 by omega), Nat.mod_eq_of_lt h5]
theorem by0 (n : Nat) : bits BinOp.or IntKind.u64 (dg n 0 : Nat) (IntKind.u64.wrap ((dg n 1 : Nat) * 2251799813685248)) = (lw n 0 : Nat) := by
  have h := or_shl (dg n 0) (dg n 1) 51 (by omega) (dg_lt _ _)
  refine Eq.trans (show _ = _ from h) ?_
  congr 1
  simp only [lw, dg, Nat.reduceMul, Nat.reducePow]; omega
theorem by1 (n : Nat) : bits BinOp.or IntKind.u64 ((dg n 1 : Nat) / 8192) (IntKind.u64.wrap ((dg n 2 : Nat) * 274877906944)) = (lw n 1 : Nat) := by
  have := dg_lt n 1
  have h := or_shl (dg n 1 / 8192) (dg n 2) 38 (by omega) (by omega)
  refine Eq.trans (show _ = _ from h) ?_
  congr 1
  simp only [lw, dg, Nat.reduceMul, Nat.reducePow]; omega
theorem by2 (n : Nat) : bits BinOp.or IntKind.u64 ((dg n 2 : Nat) / 67108864) (IntKind.u64.wrap ((dg n 3 : Nat) * 33554432)) = (lw n 2 : Nat) := by
  have := dg_lt n 2
  have h := or_shl (dg n 2 / 67108864) (dg n 3) 25 (by omega) (by omega)
  refine Eq.trans (show _ = _ from h) ?_
  congr 1
  simp only [lw, dg, Nat.reduceMul, Nat.reducePow]; omega
theorem by3 (n : Nat) (hn : n < Pq) : bits BinOp.or IntKind.u64 ((dg n 3 : Nat) / 549755813888) (IntKind.u64.wrap ((dg n 4 : Nat) * 4096)) = (lw n 3 : Nat) := by
  have := dg_lt n 3
  have h := or_shl (dg n 3 / 549755813888) (dg n 4) 12 (by omega) (by omega)
  refine Eq.trans (show _ = _ from h) ?_
  congr 1
  unfold Pq at hn
  simp only [lw, dg, Nat.reduceMul, Nat.reducePow]; omega
theorem by_flat (n : Nat) : [leB 8 (lw n 0), leB 8 (lw n 1), leB 8 (lw n 2), leB 8 (lw n 3)].flatten = leB 32 n := by
  rw [show (32 : Nat) = 8 * (3 + 1) from rfl, leB_words, show 8 * 3 = 8 * (2 + 1) from rfl, leB_words, show 8 * 2 = 8 * (1 + 1) from rfl, leB_words, show 8 * 1 = 8 * (0 + 1) from rfl, leB_words]
  simp [leB]
theorem RdB.of8 {w : World} {g : Nat} {n : Nat} (h : Blk w g ((leB 8 n).map bV) 5) : RdB w (some ⟨g, 0, none⟩) 8 8 (leB 8 n) :=
  RdB.blk [] (by rw [List.append_nil]; exact h) (leB_len _ _) (Nat.le_refl _) (by unfold maxLen; omega)
theorem own_base {w : World} {B' B E n : Nat} {v : Value} {xs : List Value} (h : w.ownsRow B' E 1 v n xs) (hB : B ≤ B') : w.ownsRow B E 1 v n xs := by
  obtain ⟨h1, h2⟩ := h
  refine ⟨h1, ?_⟩
  rcases h2 with h2 | ⟨g, cap, cur, hv, hg, r⟩
  · exact .inl h2
  · exact .inr ⟨g, cap, cur, hv, Nat.le_trans hB hg, r⟩
set_option maxRecDepth 100000 in
set_option maxHeartbeats 1000000 in
theorem febytes_own {f : Nat → Nat} {x : Nat} (hf : FE f x) (w : World) :
    Calls Try.prog 60 #[.agg #[.int .u64 (f 0 : Nat), .int .u64 (f 1 : Nat), .int .u64 (f 2 : Nat), .int .u64 (f 3 : Nat), .int .u64 (f 4 : Nat)]] w fun e w' => ∃ v, e = .returned v ∧ w'.ownsRow w.heap.size 5 1 v 32 ((leB 32 x).map bV) ∧ Below w.heap.size w w' := by
  have e0 := by0 x; have e1 := by1 x; have e2 := by2 x; have e3 := by3 x hf.lt
  have HFL := Lib.hid (by_flat x)
  have HW0 := Lib.hid (lw_lt x 0); have HW1 := Lib.hid (lw_lt x 1); have HW2 := Lib.hid (lw_lt x 2); have HW3 := Lib.hid (lw_lt x 3)
  have HF := Lib.hid hf
  clear hf
  go_enter Try.func60, Try.ntmps60
  go_upto_region 2 with (go_at_call 87; go_must (refine (whole_any HF.out _).mono ?_; rintro e w1 ⟨rfl, hb⟩; have hbel : Below w.heap.size w w1 := Below.call (by repeat (first | (with_reducible refine Below.alloc' ?_ _) | (with_reducible refine Below.drew ?_) | (with_reducible refine below_drewN ?_ _) | ((with_reducible refine Below.setCell ?_ ?_ _); rotate_left; (focus (first | exact Nat.le_refl _ | (simp; done) | (simp; omega)))) | (with_reducible assumption) | (with_reducible exact Below.refl _ _))) hb; clear hb))
  refine wp_gen (fun W => (W.cell? ⟨w1.heap.size, 0, none⟩ = some (.int .u64 (dg x 0 : Nat)) ∧ W.cell? ⟨w1.heap.size, 1, none⟩ = some (.int .u64 (dg x 1 : Nat)) ∧ W.cell? ⟨w1.heap.size, 2, none⟩ = some (.int .u64 (dg x 2 : Nat)) ∧ W.cell? ⟨w1.heap.size, 3, none⟩ = some (.int .u64 (dg x 3 : Nat)) ∧ W.cell? ⟨w1.heap.size, 4, none⟩ = some (.int .u64 (dg x 4 : Nat))) ∧ Below w.heap.size w W) ?_ (fun W0 hW => ?_)
  · exact ⟨⟨(Blk.new w1 _ _).cell 0, (Blk.new w1 _ _).cell 1, (Blk.new w1 _ _).cell 2, (Blk.new w1 _ _).cell 3, (Blk.new w1 _ _).cell 4⟩, (by repeat (first | (with_reducible refine Below.alloc' ?_ _) | (with_reducible refine Below.drew ?_) | (with_reducible refine below_drewN ?_ _) | ((with_reducible refine Below.setCell ?_ ?_ _); rotate_left; (focus (first | exact Nat.le_refl _ | (simp; done) | (simp; omega)))) | (with_reducible assumption) | (with_reducible exact Below.refl _ _)))⟩
  clear hbel
  generalize w1.heap.size = g at *
  clear w1
  have hst : ∀ W W' : World, ((W.cell? ⟨g, 0, none⟩ = some (.int .u64 (dg x 0 : Nat)) ∧ W.cell? ⟨g, 1, none⟩ = some (.int .u64 (dg x 1 : Nat)) ∧ W.cell? ⟨g, 2, none⟩ = some (.int .u64 (dg x 2 : Nat)) ∧ W.cell? ⟨g, 3, none⟩ = some (.int .u64 (dg x 3 : Nat)) ∧ W.cell? ⟨g, 4, none⟩ = some (.int .u64 (dg x 4 : Nat))) ∧ Below w.heap.size w W) → Below W.heap.size W W' → ((W'.cell? ⟨g, 0, none⟩ = some (.int .u64 (dg x 0 : Nat)) ∧ W'.cell? ⟨g, 1, none⟩ = some (.int .u64 (dg x 1 : Nat)) ∧ W'.cell? ⟨g, 2, none⟩ = some (.int .u64 (dg x 2 : Nat)) ∧ W'.cell? ⟨g, 3, none⟩ = some (.int .u64 (dg x 3 : Nat)) ∧ W'.cell? ⟨g, 4, none⟩ = some (.int .u64 (dg x 4 : Nat))) ∧ Below w.heap.size w W') := by
    rintro W W' ⟨h1, h3⟩ hb
    exact ⟨keep5 _ _ h1 hb, Below.call h3 hb⟩
  have hst' := Lib.hid hst; have HS0 := Lib.hid (show (fun W => (W.cell? ⟨g, 0, none⟩ = some (.int .u64 (dg x 0 : Nat)) ∧ W.cell? ⟨g, 1, none⟩ = some (.int .u64 (dg x 1 : Nat)) ∧ W.cell? ⟨g, 2, none⟩ = some (.int .u64 (dg x 2 : Nat)) ∧ W.cell? ⟨g, 3, none⟩ = some (.int .u64 (dg x 3 : Nat)) ∧ W.cell? ⟨g, 4, none⟩ = some (.int .u64 (dg x 4 : Nat))) ∧ Below w.heap.size w W) W0.drew from ⟨hW.1, hW.2.drew⟩)
  clear hst hW
  have hst := hst'
  clear hst'
  have hF : ∀ W : World, ((W.cell? ⟨g, 0, none⟩ = some (.int .u64 (dg x 0 : Nat)) ∧ W.cell? ⟨g, 1, none⟩ = some (.int .u64 (dg x 1 : Nat)) ∧ W.cell? ⟨g, 2, none⟩ = some (.int .u64 (dg x 2 : Nat)) ∧ W.cell? ⟨g, 3, none⟩ = some (.int .u64 (dg x 3 : Nat)) ∧ W.cell? ⟨g, 4, none⟩ = some (.int .u64 (dg x 4 : Nat))) ∧ Below w.heap.size w W) → Below w.heap.size w W := fun W h => h.2
  go_region_held3 (fun W => (W.cell? ⟨g, 0, none⟩ = some (.int .u64 (dg x 0 : Nat)) ∧ W.cell? ⟨g, 1, none⟩ = some (.int .u64 (dg x 1 : Nat)) ∧ W.cell? ⟨g, 2, none⟩ = some (.int .u64 (dg x 2 : Nat)) ∧ W.cell? ⟨g, 3, none⟩ = some (.int .u64 (dg x 3 : Nat)) ∧ W.cell? ⟨g, 4, none⟩ = some (.int .u64 (dg x 4 : Nat))) ∧ Below w.heap.size w W) (first | (exact HS0.out) | (first | assumption | (refine hst.out _ _ ?_ hb; assumption) | (refine hst.out _ _ ?_ (Below.alloc' (Below.refl _ _) _); assumption) | (refine hst.out _ _ ?_ (Below.drew (Below.refl _ _)); assumption))) ((first | (go_at_call 74; first | ((with_reducible refine (little_any HW0.out _).mono ?_); rintro e w1 ⟨rfl, hB, hb⟩; have C1 := Lib.hid hb.size; have R0 := Lib.hid (RdB.of8 hB); clear hB) | ((with_reducible refine (little_any HW1.out _).mono ?_); rintro e w2 ⟨rfl, hB, hb⟩; have C2 := Lib.hid hb.size; have R1 := Lib.hid (RdB.of8 hB); have Q0 := Lib.hid (R0.out.below hb); clear hB) | ((with_reducible refine (little_any HW2.out _).mono ?_); rintro e w3 ⟨rfl, hB, hb⟩; have C3 := Lib.hid hb.size; have R2 := Lib.hid (RdB.of8 hB); have Q1 := Lib.hid (R1.out.below hb); have P0 := Lib.hid (Q0.out.below hb); clear hB) | ((with_reducible refine (little_any HW3.out _).mono ?_); rintro e w4 ⟨rfl, hB, hb⟩; have C4 := Lib.hid hb.size; have R3 := Lib.hid (RdB.of8 hB); have Q2 := Lib.hid (R2.out.below hb); have P1 := Lib.hid (Q1.out.below hb); have N0 := Lib.hid (P0.out.below hb); clear hB)) | (go_at_call 93; refine (cat_any (ls := [leB 8 (lw x 0), leB 8 (lw x 1), leB 8 (lw x 2), leB 8 (lw x 3)]) _ (RdRows.blk (n := 4) (Blk.new _ _ _) (Rows.cons (N0.out.below (Below.alloc' (Below.refl _ _) _)) (Rows.cons (P1.out.below (Below.alloc' (Below.refl _ _) _)) (Rows.cons (Q2.out.below (Below.alloc' (Below.refl _ _) _)) (Rows.cons (R3.out.below (Below.alloc' (Below.refl _ _) _)) Rows.nil)))) rfl (by unfold maxLen; omega)) (by rw [HFL.out, leB_len]; omega)).mono ?_; rintro e w5 ⟨v, rfl, ho, hb⟩; rw [HFL.out, leB_len] at ho; replace ho := own_base (B := w4.heap.size) ho (Below.alloc' (Below.refl _ _) _).size; have HO := Lib.hid ho; clear ho)))
  all_goals
    go_wp2
    go_ret
    refine ⟨v, rfl, own_base HO.out ?_, hF _ (by assumption)⟩
    have c0 := HS0.out.2.size; have c1 := C1.out; have c2 := C2.out; have c3 := C3.out; have c4 := C4.out
    omega
theorem febytes_any {f : Nat → Nat} {x : Nat} (hf : FE f x) (w : World) :
    Calls Try.prog 60 #[.agg #[.int .u64 (f 0 : Nat), .int .u64 (f 1 : Nat), .int .u64 (f 2 : Nat), .int .u64 (f 3 : Nat), .int .u64 (f 4 : Nat)]] w fun e w' => ∃ g cap r, e = .returned (.slice (some ⟨g, 0, none⟩) 32 cap) ∧ w.heap.size ≤ g ∧ Blk w' g ((leB 32 x).map bV ++ r) 5 ∧ 32 ≤ cap ∧ cap ≤ maxLen ∧ Below w.heap.size w w' := by
  refine (febytes_own hf w).mono ?_
  rintro e w' ⟨v, rfl, ho, hb⟩
  obtain ⟨g, cap, r, rfl, hg, hB, _, hc, hm⟩ := own_rdb ho (by omega)
  exact ⟨g, cap, r, rfl, hg, hB, hc, hm, hb⟩
end Go.Proofs.Ytjchdhpijopikaa
namespace Go.Proofs.Ytjchdhpijopikaa
open Go.RowKit
/-- The limbs f mean x. -/
def FF (f : Nat → Nat) (x : F) : Prop := FE f x.val
theorem FF.mk {f : Nat → Nat} {n : Nat} {x : F} (h : FE f n) (e : n = x.val) : FF f x := by subst e; exact h
/-- The number that bytes mean, freely read. -/
def feF (l : List UInt8) : F := fn (leN (first l 32) % 57896044618658097711785492504343953926634992332820282019728792003956564819968)
theorem faddM {f g : Nat → Nat} {x y : F} (hf : FF f x) (hg : FF g y) (w : World) :
    Calls Try.prog 41 #[.agg #[.int .u64 (f 0 : Nat), .int .u64 (f 1 : Nat), .int .u64 (f 2 : Nat), .int .u64 (f 3 : Nat), .int .u64 (f 4 : Nat)], .agg #[.int .u64 (g 0 : Nat), .int .u64 (g 1 : Nat), .int .u64 (g 2 : Nat), .int .u64 (g 3 : Nat), .int .u64 (g 4 : Nat)]] w fun e w' => ∃ h, e = .returned (.agg #[.int .u64 (h 0 : Nat), .int .u64 (h 1 : Nat), .int .u64 (h 2 : Nat), .int .u64 (h 3 : Nat), .int .u64 (h 4 : Nat)]) ∧ FF h (x + y) ∧ Below w.heap.size w w' := feadd_any hf hg w
theorem fsub_val (x y : F) : (x.val + (Pq - y.val)) % Pq = (x - y).val := by rw [Fin.sub_def, Nat.add_comm]
theorem fsubM {f g : Nat → Nat} {x y : F} (hf : FF f x) (hg : FF g y) (w : World) :
    Calls Try.prog 39 #[.agg #[.int .u64 (f 0 : Nat), .int .u64 (f 1 : Nat), .int .u64 (f 2 : Nat), .int .u64 (f 3 : Nat), .int .u64 (f 4 : Nat)], .agg #[.int .u64 (g 0 : Nat), .int .u64 (g 1 : Nat), .int .u64 (g 2 : Nat), .int .u64 (g 3 : Nat), .int .u64 (g 4 : Nat)]] w fun e w' => ∃ h, e = .returned (.agg #[.int .u64 (h 0 : Nat), .int .u64 (h 1 : Nat), .int .u64 (h 2 : Nat), .int .u64 (h 3 : Nat), .int .u64 (h 4 : Nat)]) ∧ FF h (x - y) ∧ Below w.heap.size w w' := by
  refine (fesub_any hf hg w).mono ?_
  rintro e w' ⟨h, rfl, hh, hb⟩
  exact ⟨h, rfl, FF.mk hh (fsub_val x y), hb⟩
theorem fnegM {f : Nat → Nat} {x : F} (hf : FF f x) (w : World) :
    Calls Try.prog 47 #[.agg #[.int .u64 (f 0 : Nat), .int .u64 (f 1 : Nat), .int .u64 (f 2 : Nat), .int .u64 (f 3 : Nat), .int .u64 (f 4 : Nat)]] w fun e w' => ∃ h, e = .returned (.agg #[.int .u64 (h 0 : Nat), .int .u64 (h 1 : Nat), .int .u64 (h 2 : Nat), .int .u64 (h 3 : Nat), .int .u64 (h 4 : Nat)]) ∧ FF h (-x) ∧ Below w.heap.size w w' := feneg_any hf w
theorem fmulM {f g : Nat → Nat} {x y : F} (hf : FF f x) (hg : FF g y) (w : World) :
    Calls Try.prog 38 #[.agg #[.int .u64 (f 0 : Nat), .int .u64 (f 1 : Nat), .int .u64 (f 2 : Nat), .int .u64 (f 3 : Nat), .int .u64 (f 4 : Nat)], .agg #[.int .u64 (g 0 : Nat), .int .u64 (g 1 : Nat), .int .u64 (g 2 : Nat), .int .u64 (g 3 : Nat), .int .u64 (g 4 : Nat)]] w fun e w' => ∃ h, e = .returned (.agg #[.int .u64 (h 0 : Nat), .int .u64 (h 1 : Nat), .int .u64 (h 2 : Nat), .int .u64 (h 3 : Nat), .int .u64 (h 4 : Nat)]) ∧ FF h (x * y) ∧ Below w.heap.size w w' := femul_any hf hg w
theorem finvM {f : Nat → Nat} {x : F} (hf : FF f x) (w : World) :
    Calls Try.prog 42 #[.agg #[.int .u64 (f 0 : Nat), .int .u64 (f 1 : Nat), .int .u64 (f 2 : Nat), .int .u64 (f 3 : Nat), .int .u64 (f 4 : Nat)]] w fun e w' => ∃ h, e = .returned (.agg #[.int .u64 (h 0 : Nat), .int .u64 (h 1 : Nat), .int .u64 (h 2 : Nat), .int .u64 (h 3 : Nat), .int .u64 (h 4 : Nat)]) ∧ FF h (finv x) ∧ Below w.heap.size w w' := feinv_any hf w
theorem fsmallM {n : Nat} (hn : n < 18446744073709551616) (w : World) :
    Calls Try.prog 37 #[.int .u64 n] w fun e w' => ∃ h, e = .returned (.agg #[.int .u64 (h 0 : Nat), .int .u64 (h 1 : Nat), .int .u64 (h 2 : Nat), .int .u64 (h 3 : Nat), .int .u64 (h 4 : Nat)]) ∧ FF h (fn n) ∧ Below w.heap.size w w' := by
  refine (fesmall_any hn w).mono ?_
  rintro e w' ⟨rfl, hb⟩
  exact ⟨_, rfl, FF.mk (FE.small hn) (by rw [fn_val, Nat.mod_eq_of_lt]; unfold Pq; omega), hb⟩
theorem fofM {a : Option Addr} {n cap : Nat} {l : List UInt8} (w : World) (h : RdB w a n cap l) :
    Calls Try.prog 81 #[.slice a n cap] w fun e w' => ∃ h, e = .returned (.agg #[.int .u64 (h 0 : Nat), .int .u64 (h 1 : Nat), .int .u64 (h 2 : Nat), .int .u64 (h 3 : Nat), .int .u64 (h 4 : Nat)]) ∧ FF h (feF l) ∧ Below w.heap.size w w' := by
  refine (feof_any w h).mono ?_
  rintro e w' ⟨rfl, hb⟩
  exact ⟨_, rfl, FE.of _, hb⟩
theorem fsameM {f g : Nat → Nat} {x y : F} (hf : FF f x) (hg : FF g y) (w : World) :
    Calls Try.prog 44 #[.agg #[.int .u64 (f 0 : Nat), .int .u64 (f 1 : Nat), .int .u64 (f 2 : Nat), .int .u64 (f 3 : Nat), .int .u64 (f 4 : Nat)], .agg #[.int .u64 (g 0 : Nat), .int .u64 (g 1 : Nat), .int .u64 (g 2 : Nat), .int .u64 (g 3 : Nat), .int .u64 (g 4 : Nat)]] w fun e w' => e = .returned (.bool (decide (x = y))) ∧ Below w.heap.size w w' := by
  refine (fesame_any hf hg w).mono ?_
  rintro e w' ⟨rfl, hb⟩
  exact ⟨ret_bool (by by_cases h : x = y <;> simp [h, Fin.val_inj]), hb⟩
theorem fsameT {f g : Nat → Nat} {x y : F} (hf : FF f x) (hg : FF g y) (h : x = y) (w : World) :
    Calls Try.prog 44 #[.agg #[.int .u64 (f 0 : Nat), .int .u64 (f 1 : Nat), .int .u64 (f 2 : Nat), .int .u64 (f 3 : Nat), .int .u64 (f 4 : Nat)], .agg #[.int .u64 (g 0 : Nat), .int .u64 (g 1 : Nat), .int .u64 (g 2 : Nat), .int .u64 (g 3 : Nat), .int .u64 (g 4 : Nat)]] w fun e w' => e = .returned (.bool true) ∧ Below w.heap.size w w' := by
  refine (fsameM hf hg w).mono ?_
  rintro e w' ⟨rfl, hb⟩
  exact ⟨ret_bool (by simp [h]), hb⟩
theorem fsameF {f g : Nat → Nat} {x y : F} (hf : FF f x) (hg : FF g y) (h : x ≠ y) (w : World) :
    Calls Try.prog 44 #[.agg #[.int .u64 (f 0 : Nat), .int .u64 (f 1 : Nat), .int .u64 (f 2 : Nat), .int .u64 (f 3 : Nat), .int .u64 (f 4 : Nat)], .agg #[.int .u64 (g 0 : Nat), .int .u64 (g 1 : Nat), .int .u64 (g 2 : Nat), .int .u64 (g 3 : Nat), .int .u64 (g 4 : Nat)]] w fun e w' => e = .returned (.bool false) ∧ Below w.heap.size w w' := by
  refine (fsameM hf hg w).mono ?_
  rintro e w' ⟨rfl, hb⟩
  exact ⟨ret_bool (by simp [h]), hb⟩
theorem foddM {f : Nat → Nat} {x : F} (hf : FF f x) (w : World) :
    Calls Try.prog 61 #[.agg #[.int .u64 (f 0 : Nat), .int .u64 (f 1 : Nat), .int .u64 (f 2 : Nat), .int .u64 (f 3 : Nat), .int .u64 (f 4 : Nat)]] w fun e w' => e = .returned (.bool (decide (x.val % 2 = 1))) ∧ Below w.heap.size w w' := feodd_any hf w
theorem fbytesM {f : Nat → Nat} {x : F} (hf : FF f x) (w : World) :
    Calls Try.prog 60 #[.agg #[.int .u64 (f 0 : Nat), .int .u64 (f 1 : Nat), .int .u64 (f 2 : Nat), .int .u64 (f 3 : Nat), .int .u64 (f 4 : Nat)]] w fun e w' => ∃ g cap r, e = .returned (.slice (some ⟨g, 0, none⟩) 32 cap) ∧ w.heap.size ≤ g ∧ Blk w' g ((leB 32 x.val).map bV ++ r) 5 ∧ 32 ≤ cap ∧ cap ≤ maxLen ∧ Below w.heap.size w w' := febytes_any hf w
theorem fpowM {f : Nat → Nat} {x : F} (N T : Nat) (hT1 : T ≤ 256) (hT2 : 256 ≤ T) (hN : N < 2 ^ T) (hf : FF f x) (w : World) :
    Calls Try.prog 85 #[.agg #[.int .u64 (f 0 : Nat), .int .u64 (f 1 : Nat), .int .u64 (f 2 : Nat), .int .u64 (f 3 : Nat), .int .u64 (f 4 : Nat)], .agg #[.int .u64 (lw N 0 : Nat), .int .u64 (lw N 1 : Nat), .int .u64 (lw N 2 : Nat), .int .u64 (lw N 3 : Nat)]] w fun e w' => ∃ h, e = .returned (.agg #[.int .u64 (h 0 : Nat), .int .u64 (h 1 : Nat), .int .u64 (h 2 : Nat), .int .u64 (h 3 : Nat), .int .u64 (h 4 : Nat)]) ∧ FF h (fpow x N) ∧ Below w.heap.size w w' := power_any N T hT1 hT2 hN hf w
/-- 32 bytes, below p. -/
def feOk (l : List UInt8) : Bool := decide (l.length = 32) && decide (leN l < Pq)
theorem feF_ok {l : List UInt8} (h : feOk l = true) : (feF l).val = leN l := by
  simp only [feOk, Bool.and_eq_true, decide_eq_true_eq] at h
  have h2 := h.2
  unfold feF
  rw [fn_val, leN_first, List.take_of_length_le (by omega)]
  unfold Pq at *
  omega
theorem feOk_back (l : List UInt8) : decide (leB 32 (feF l).val = l) = feOk l := by
  by_cases h : feOk l = true
  · rw [h, feF_ok h]
    simp only [feOk, Bool.and_eq_true, decide_eq_true_eq] at h
    rw [← h.1, leB_leN]; simp
  · rw [Bool.not_eq_true] at h
    rw [h, decide_eq_false]
    intro e
    have h1 : l.length = 32 := by rw [← e, leB_len]
    have h2 : leN l < Pq := by
      rw [← e, leN_leB]
      exact Nat.lt_of_le_of_lt (Nat.mod_le _ _) (feF l).isLt
    simp [feOk, h1, h2] at h
set_option maxRecDepth 100000 in
set_option maxHeartbeats 1000000 in
theorem fstrict_yes {a : Option Addr} {n cap : Nat} {l : List UInt8} (w : World) (h : RdB w a n cap l) (hok : feOk l = true) :
    Calls Try.prog 36 #[.slice a n cap] w fun e w' => ∃ h, e = .returned (.tuple #[.agg #[.int .u64 (h 0 : Nat), .int .u64 (h 1 : Nat), .int .u64 (h 2 : Nat), .int .u64 (h 3 : Nat), .int .u64 (h 4 : Nat)], .int .i64 0]) ∧ FF h (feF l) ∧ Below w.heap.size w w' := by
  have HQ : Hid (decide (leB 32 (feF l).val = l) = true) := Lib.hid (by rw [feOk_back, hok])
  clear hok
  go_enter Try.func36, Try.ntmps36
  go_wp2_with (first | (go_at_call 81; go_must (refine (fofM _ (h.below (by repeat (first | (with_reducible refine Below.alloc' ?_ _) | (with_reducible refine Below.drew ?_) | (with_reducible refine below_drewN ?_ _) | ((with_reducible refine Below.setCell ?_ ?_ _); rotate_left; (focus (first | exact Nat.le_refl _ | (simp; done) | (simp; omega)))) | (with_reducible assumption) | (with_reducible exact Below.refl _ _))))).mono ?_; rintro e w1 ⟨f, rfl, hf, hb1⟩; have hO1 := (Blk.new w _ _).below' hb1; have oc := hO1.cell; have of := hO1.frozen; have hbel1 : Below w.heap.size w w1 := Below.call (by repeat (first | (with_reducible refine Below.alloc' ?_ _) | (with_reducible refine Below.drew ?_) | (with_reducible refine below_drewN ?_ _) | ((with_reducible refine Below.setCell ?_ ?_ _); rotate_left; (focus (first | exact Nat.le_refl _ | (simp; done) | (simp; omega)))) | (with_reducible assumption) | (with_reducible exact Below.refl _ _))) hb1; clear hb1))     | (go_at_call 60; go_must (refine (fbytesM hf _).mono ?_; rintro e w2 ⟨g, gc, r, rfl, hg, hB, hc1, hc2, hb2⟩; have hR := RdB.blk r hB (leB_len _ _) hc1 hc2; have hS2 := (Blk.new w1 _ _).below' hb2; have hO2 := (hO1.alloc _).below' hb2; have hbel2 := Below.call (show Below w.heap.size w _ from (by repeat (first | (with_reducible refine Below.alloc' ?_ _) | (with_reducible refine Below.drew ?_) | (with_reducible refine below_drewN ?_ _) | ((with_reducible refine Below.setCell ?_ ?_ _); rotate_left; (focus (first | exact Nat.le_refl _ | (simp; done) | (simp; omega)))) | (with_reducible assumption) | (with_reducible exact Below.refl _ _)))) hb2; clear hb2 hO1 hbel1 hB))     | (go_at_call 82; go_must (refine (equal_any _ hR (h.below hbel2)).mono ?_; rintro e w3 ⟨rfl, hb3⟩; rw [HQ.out]; have hO3 := hO2.below' hb3; have hS3 := hS2.below' hb3; have hbel3 := Below.call hbel2 hb3; clear oc of hO2 hS2 hbel2 hb3 hR; have oc := hO3.cell; have of := hO3.frozen; have sc := hS3.cell)))
  exact bodyPost_ret (v := .tuple #[.agg #[.int .u64 (f 0 : Nat), .int .u64 (f 1 : Nat), .int .u64 (f 2 : Nat), .int .u64 (f 3 : Nat), .int .u64 (f 4 : Nat)], .int .i64 0]) (by simp [results, Try.results36, go_sem, oc]) rfl ⟨f, rfl, hf, (by repeat (first | (with_reducible refine Below.alloc' ?_ _) | (with_reducible refine Below.drew ?_) | (with_reducible refine below_drewN ?_ _) | ((with_reducible refine Below.setCell ?_ ?_ _); rotate_left; (focus (first | exact Nat.le_refl _ | (simp; done) | (simp; omega)))) | (with_reducible assumption) | (with_reducible exact Below.refl _ _)))⟩
theorem FF.zero : FF (fun _ => 0) 0 := FE.zero
set_option maxRecDepth 100000 in
set_option maxHeartbeats 1000000 in
theorem fstrict_no {a : Option Addr} {n cap : Nat} {l : List UInt8} (w : World) (h : RdB w a n cap l) (hok : feOk l = false) :
    Calls Try.prog 36 #[.slice a n cap] w fun e w' => ∃ h, e = .returned (.tuple #[.agg #[.int .u64 (h 0 : Nat), .int .u64 (h 1 : Nat), .int .u64 (h 2 : Nat), .int .u64 (h 3 : Nat), .int .u64 (h 4 : Nat)], .int .i64 2]) ∧ FF h 0 ∧ Below w.heap.size w w' := by
  have HQ : Hid (decide (leB 32 (feF l).val = l) = false) := Lib.hid (by rw [feOk_back, hok])
  have hbE := buildE
  clear hok
  go_enter Try.func36, Try.ntmps36
  go_wp2_with (first | (go_at_call 81; go_must (refine (fofM _ (h.below (by repeat (first | (with_reducible refine Below.alloc' ?_ _) | (with_reducible refine Below.drew ?_) | (with_reducible refine below_drewN ?_ _) | ((with_reducible refine Below.setCell ?_ ?_ _); rotate_left; (focus (first | exact Nat.le_refl _ | (simp; done) | (simp; omega)))) | (with_reducible assumption) | (with_reducible exact Below.refl _ _))))).mono ?_; rintro e w1 ⟨f, rfl, hf, hb1⟩; have hO1 := (Blk.new w _ _).below' hb1; have oc := hO1.cell; have of := hO1.frozen; have hbel1 : Below w.heap.size w w1 := Below.call (by repeat (first | (with_reducible refine Below.alloc' ?_ _) | (with_reducible refine Below.drew ?_) | (with_reducible refine below_drewN ?_ _) | ((with_reducible refine Below.setCell ?_ ?_ _); rotate_left; (focus (first | exact Nat.le_refl _ | (simp; done) | (simp; omega)))) | (with_reducible assumption) | (with_reducible exact Below.refl _ _))) hb1; clear hb1))     | (go_at_call 60; go_must (refine (fbytesM hf _).mono ?_; rintro e w2 ⟨g, gc, r, rfl, hg, hB, hc1, hc2, hb2⟩; have hR := RdB.blk r hB (leB_len _ _) hc1 hc2; have hS2 := (Blk.new w1 _ _).below' hb2; have hO2 := (hO1.alloc _).below' hb2; have hbel2 := Below.call (show Below w.heap.size w _ from (by repeat (first | (with_reducible refine Below.alloc' ?_ _) | (with_reducible refine Below.drew ?_) | (with_reducible refine below_drewN ?_ _) | ((with_reducible refine Below.setCell ?_ ?_ _); rotate_left; (focus (first | exact Nat.le_refl _ | (simp; done) | (simp; omega)))) | (with_reducible assumption) | (with_reducible exact Below.refl _ _)))) hb2; clear hb2 hO1 hbel1 hB))     | (go_at_call 82; go_must (refine (equal_any _ hR (h.below hbel2)).mono ?_; rintro e w3 ⟨rfl, hb3⟩; rw [HQ.out]; have hO3 := hO2.below' hb3; have hS3 := hS2.below' hb3; have hbel3 := Below.call hbel2 hb3; clear oc of hO2 hS2 hbel2 hb3 hR; have oc := hO3.cell; have of := hO3.frozen; have sc := hS3.cell)))
  exact bodyPost_ret (v := .tuple #[.agg #[.int .u64 0, .int .u64 0, .int .u64 0, .int .u64 0, .int .u64 0], .int .i64 2]) (by simp [results, Try.results36, go_sem, oc]) rfl ⟨fun _ => 0, rfl, FF.zero, (by repeat (first | (with_reducible refine Below.alloc' ?_ _) | (with_reducible refine Below.drew ?_) | (with_reducible refine below_drewN ?_ _) | ((with_reducible refine Below.setCell ?_ ?_ _); rotate_left; (focus (first | exact Nat.le_refl _ | (simp; done) | (simp; omega)))) | (with_reducible assumption) | (with_reducible exact Below.refl _ _)))⟩
end Go.Proofs.Ytjchdhpijopikaa
namespace Go.Proofs.Ytjchdhpijopikaa
open Go Go.RowKit
def repE (x : F) (cs : List Value) : Prop := ∃ h, FF h x ∧ cs = [.int .u64 (h 0 : Nat), .int .u64 (h 1 : Nat), .int .u64 (h 2 : Nat), .int .u64 (h 3 : Nat), .int .u64 (h 4 : Nat)]
def rE : Rp F where
  n := 5
  rep := repE
  pos := by omega
  len := fun _ _ h => by obtain ⟨h, _, rfl⟩ := h; rfl
  one := fun _ _ h v hv => by
    obtain ⟨h, _, rfl⟩ := h
    simp at hv
    rcases hv with rfl | rfl | rfl | rfl | rfl <;> rfl
theorem isE {f : Nat → Nat} {x : F} (h : FF f x) : IsFs rE (.agg #[.int .u64 (f 0 : Nat), .int .u64 (f 1 : Nat), .int .u64 (f 2 : Nat), .int .u64 (f 3 : Nat), .int .u64 (f 4 : Nat)]) [x] := ⟨_, rfl, Lims.single (R := rE) ⟨f, h, rfl⟩⟩
theorem of_isE {v : Value} {x : F} (h : IsFs rE v [x]) : ∃ f, v = .agg #[.int .u64 (f 0 : Nat), .int .u64 (f 1 : Nat), .int .u64 (f 2 : Nat), .int .u64 (f 3 : Nat), .int .u64 (f 4 : Nat)] ∧ FF f x := by
  obtain ⟨cs, rfl, hc⟩ := h
  obtain ⟨f, hf, rfl⟩ := Lims.of_single hc
  exact ⟨f, rfl, hf⟩
theorem cAdd {v v' : Value} {x y : F} (h : IsFs rE v [x]) (h' : IsFs rE v' [y]) (w : World) :
    Calls Try.prog 41 #[v, v'] w fun e w' => ∃ r, e = .returned r ∧ IsFs rE r [x + y] ∧ Below w.heap.size w w' := by
  obtain ⟨f, rfl, hf⟩ := of_isE h; obtain ⟨g, rfl, hg⟩ := of_isE h'
  exact (faddM hf hg w).mono fun e w' ⟨k, he, hk, hb⟩ => ⟨_, he, isE hk, hb⟩
theorem cSub {v v' : Value} {x y : F} (h : IsFs rE v [x]) (h' : IsFs rE v' [y]) (w : World) :
    Calls Try.prog 39 #[v, v'] w fun e w' => ∃ r, e = .returned r ∧ IsFs rE r [x - y] ∧ Below w.heap.size w w' := by
  obtain ⟨f, rfl, hf⟩ := of_isE h; obtain ⟨g, rfl, hg⟩ := of_isE h'
  exact (fsubM hf hg w).mono fun e w' ⟨k, he, hk, hb⟩ => ⟨_, he, isE hk, hb⟩
theorem cMul {v v' : Value} {x y : F} (h : IsFs rE v [x]) (h' : IsFs rE v' [y]) (w : World) :
    Calls Try.prog 38 #[v, v'] w fun e w' => ∃ r, e = .returned r ∧ IsFs rE r [x * y] ∧ Below w.heap.size w w' := by
  obtain ⟨f, rfl, hf⟩ := of_isE h; obtain ⟨g, rfl, hg⟩ := of_isE h'
  exact (fmulM hf hg w).mono fun e w' ⟨k, he, hk, hb⟩ => ⟨_, he, isE hk, hb⟩
theorem cNeg {v : Value} {x : F} (h : IsFs rE v [x]) (w : World) :
    Calls Try.prog 47 #[v] w fun e w' => ∃ r, e = .returned r ∧ IsFs rE r [-x] ∧ Below w.heap.size w w' := by
  obtain ⟨f, rfl, hf⟩ := of_isE h
  exact (fnegM hf w).mono fun e w' ⟨k, he, hk, hb⟩ => ⟨_, he, isE hk, hb⟩
theorem cInv {v : Value} {x : F} (h : IsFs rE v [x]) (w : World) :
    Calls Try.prog 42 #[v] w fun e w' => ∃ r, e = .returned r ∧ IsFs rE r [finv x] ∧ Below w.heap.size w w' := by
  obtain ⟨f, rfl, hf⟩ := of_isE h
  exact (finvM hf w).mono fun e w' ⟨k, he, hk, hb⟩ => ⟨_, he, isE hk, hb⟩
theorem cSmall {n : Nat} (hn : n < 18446744073709551616) (w : World) :
    Calls Try.prog 37 #[.int .u64 n] w fun e w' => ∃ r, e = .returned r ∧ IsFs rE r [fn n] ∧ Below w.heap.size w w' :=
  (fsmallM hn w).mono fun _ _ ⟨_, he, hk, hb⟩ => ⟨_, he, isE hk, hb⟩
theorem cSmallI {n : Nat} {z : Int} (hz : z = (n : Nat)) (hn : n < 18446744073709551616) (w : World) :
    Calls Try.prog 37 #[.int .u64 z] w fun e w' => ∃ r, e = .returned r ∧ IsFs rE r [fn n] ∧ Below w.heap.size w w' := by subst hz; exact cSmall hn w
theorem buildE0 (w : World) : ∃ r, (Instr.build 27 #[]).run Try.prog w = .ok r w ∧ IsFs rE r [0] :=
  ⟨_, by kernel_rfl, isE (f := fun _ => 0) FF.zero⟩
theorem cOf {a : Option Addr} {n cap : Nat} {l : List UInt8} {w : World} (h : RdB w a n cap l) :
    Calls Try.prog 81 #[.slice a n cap] w fun e w' => ∃ r, e = .returned r ∧ IsFs rE r [feF l] ∧ Below w.heap.size w w' :=
  (fofM w h).mono fun _ _ ⟨_, he, hk, hb⟩ => ⟨_, he, isE hk, hb⟩
theorem cBytes {v : Value} {x : F} (h : IsFs rE v [x]) (w : World) :
    Calls Try.prog 60 #[v] w fun e w' => ∃ g n cap r, e = .returned (.slice (some ⟨g, 0, none⟩) n cap) ∧ w.heap.size ≤ g ∧ Blk w' g ((leB 32 x.val).map bV ++ r) 5 ∧ (leB 32 x.val).length = n ∧ n ≤ cap ∧ cap ≤ maxLen ∧ Below w.heap.size w w' := by
  obtain ⟨f, rfl, hf⟩ := of_isE h
  exact (fbytesM hf w).mono fun _ _ ⟨g, cap, r, he, hg, hB, h1, h2, hb⟩ => ⟨g, 32, cap, r, he, hg, hB, leB_len _ _, h1, h2, hb⟩
theorem tyE : TyOk rE 27 1 := ⟨⟨_, Try.underlying27, rfl⟩, by kernel_rfl⟩
theorem allocE (w : World) : (Instr.alloc 27 true (.tuple #[])).run Try.prog w = .ok (.pointer (some ⟨w.heap.size, 0, none⟩)) (w.alloc (.cells #[.int .u64 0, .int .u64 0, .int .u64 0, .int .u64 0, .int .u64 0] 27)) := by kernel_rfl
end Go.Proofs.Ytjchdhpijopikaa
namespace Go.Proofs.Ytjchdhpijopikaa
open Go.RowKit
def turnF (i : Nat) : Nat := if i = 0 then 1718705420411056 else if i = 1 then 234908883556509 else if i = 2 then 2233514472574048 else if i = 3 then 2117202627021982 else 765476049583133
theorem FF.turn : FF turnF sqm1 := ⟨⟨by decide, by decide, by decide, by decide, by decide⟩, by decide +kernel⟩
set_option maxRecDepth 100000 in
theorem fturnM (w : World) : Calls Try.prog 86 #[] w fun e w' => ∃ h, e = .returned (.agg #[.int .u64 (h 0 : Nat), .int .u64 (h 1 : Nat), .int .u64 (h 2 : Nat), .int .u64 (h 3 : Nat), .int .u64 (h 4 : Nat)]) ∧ FF h sqm1 ∧ Below w.heap.size w w' := by
  go_enter Try.func86, Try.ntmps86
  go_wp2
  exact bodyPost_ret (v := .agg #[.int .u64 1718705420411056, .int .u64 234908883556509, .int .u64 2233514472574048, .int .u64 2117202627021982, .int .u64 765476049583133]) (by simp [results, Try.results86, go_sem]) rfl ⟨turnF, rfl, FF.turn, (by repeat (first | (with_reducible refine Below.alloc' ?_ _) | (with_reducible refine Below.drew ?_) | (with_reducible refine below_drewN ?_ _) | ((with_reducible refine Below.setCell ?_ ?_ _); rotate_left; (focus (first | exact Nat.le_refl _ | (simp; done) | (simp; omega)))) | (with_reducible assumption) | (with_reducible exact Below.refl _ _)))⟩
theorem fpow8 {f : Nat → Nat} {x : F} (hf : FF f x) (w : World) :
    Calls Try.prog 85 #[.agg #[.int .u64 (f 0 : Nat), .int .u64 (f 1 : Nat), .int .u64 (f 2 : Nat), .int .u64 (f 3 : Nat), .int .u64 (f 4 : Nat)], .agg #[.int .u64 18446744073709551614, .int .u64 18446744073709551615, .int .u64 18446744073709551615, .int .u64 1152921504606846975]] w fun e w' => ∃ h, e = .returned (.agg #[.int .u64 (h 0 : Nat), .int .u64 (h 1 : Nat), .int .u64 (h 2 : Nat), .int .u64 (h 3 : Nat), .int .u64 (h 4 : Nat)]) ∧ FF h (fpow x exp8) ∧ Below w.heap.size w w' := by
  have hP := fpowM exp8 (8 * 32) (by omega) (by omega) (by decide +kernel) hf w
  rw [show lw exp8 0 = 18446744073709551614 from by decide +kernel, show lw exp8 1 = 18446744073709551615 from by decide +kernel, show lw exp8 2 = 18446744073709551615 from by decide +kernel, show lw exp8 3 = 1152921504606846975 from by decide +kernel] at hP
  exact hP
/-- What the walk of Root keeps: the number, the candidate, the answer's place. -/
theorem root_keep {f r : Nat → Nat} {A g o : Nat} {w : World} : ∀ W W' : World, ((W.cell? ⟨A, 0, none⟩ = some (.int .u64 (f 0 : Nat)) ∧ W.cell? ⟨A, 1, none⟩ = some (.int .u64 (f 1 : Nat)) ∧ W.cell? ⟨A, 2, none⟩ = some (.int .u64 (f 2 : Nat)) ∧ W.cell? ⟨A, 3, none⟩ = some (.int .u64 (f 3 : Nat)) ∧ W.cell? ⟨A, 4, none⟩ = some (.int .u64 (f 4 : Nat))) ∧ (W.cell? ⟨g, 0, none⟩ = some (.int .u64 (r 0 : Nat)) ∧ W.cell? ⟨g, 1, none⟩ = some (.int .u64 (r 1 : Nat)) ∧ W.cell? ⟨g, 2, none⟩ = some (.int .u64 (r 2 : Nat)) ∧ W.cell? ⟨g, 3, none⟩ = some (.int .u64 (r 3 : Nat)) ∧ W.cell? ⟨g, 4, none⟩ = some (.int .u64 (r 4 : Nat))) ∧ Blk W A [.int .u64 (f 0 : Nat), .int .u64 (f 1 : Nat), .int .u64 (f 2 : Nat), .int .u64 (f 3 : Nat), .int .u64 (f 4 : Nat)] 27 ∧ Blk W g [.int .u64 (r 0 : Nat), .int .u64 (r 1 : Nat), .int .u64 (r 2 : Nat), .int .u64 (r 3 : Nat), .int .u64 (r 4 : Nat)] 27 ∧ Blk W (o) [.int .u64 0, .int .u64 0, .int .u64 0, .int .u64 0, .int .u64 0] 27 ∧ Below w.heap.size w W) → Below W.heap.size W W' → ((W'.cell? ⟨A, 0, none⟩ = some (.int .u64 (f 0 : Nat)) ∧ W'.cell? ⟨A, 1, none⟩ = some (.int .u64 (f 1 : Nat)) ∧ W'.cell? ⟨A, 2, none⟩ = some (.int .u64 (f 2 : Nat)) ∧ W'.cell? ⟨A, 3, none⟩ = some (.int .u64 (f 3 : Nat)) ∧ W'.cell? ⟨A, 4, none⟩ = some (.int .u64 (f 4 : Nat))) ∧ (W'.cell? ⟨g, 0, none⟩ = some (.int .u64 (r 0 : Nat)) ∧ W'.cell? ⟨g, 1, none⟩ = some (.int .u64 (r 1 : Nat)) ∧ W'.cell? ⟨g, 2, none⟩ = some (.int .u64 (r 2 : Nat)) ∧ W'.cell? ⟨g, 3, none⟩ = some (.int .u64 (r 3 : Nat)) ∧ W'.cell? ⟨g, 4, none⟩ = some (.int .u64 (r 4 : Nat))) ∧ Blk W' A [.int .u64 (f 0 : Nat), .int .u64 (f 1 : Nat), .int .u64 (f 2 : Nat), .int .u64 (f 3 : Nat), .int .u64 (f 4 : Nat)] 27 ∧ Blk W' g [.int .u64 (r 0 : Nat), .int .u64 (r 1 : Nat), .int .u64 (r 2 : Nat), .int .u64 (r 3 : Nat), .int .u64 (r 4 : Nat)] 27 ∧ Blk W' (o) [.int .u64 0, .int .u64 0, .int .u64 0, .int .u64 0, .int .u64 0] 27 ∧ Below w.heap.size w W') := by
  rintro W W' ⟨h1, h2, h3, h4, h5, h6⟩ hb
  exact ⟨keep5 _ _ h1 hb, keep5 _ _ h2 hb, h3.below' hb, h4.below' hb, h5.below' hb, Below.call h6 hb⟩
theorem root_drew {f r : Nat → Nat} {A g o : Nat} {w W : World} (h : ((W.cell? ⟨A, 0, none⟩ = some (.int .u64 (f 0 : Nat)) ∧ W.cell? ⟨A, 1, none⟩ = some (.int .u64 (f 1 : Nat)) ∧ W.cell? ⟨A, 2, none⟩ = some (.int .u64 (f 2 : Nat)) ∧ W.cell? ⟨A, 3, none⟩ = some (.int .u64 (f 3 : Nat)) ∧ W.cell? ⟨A, 4, none⟩ = some (.int .u64 (f 4 : Nat))) ∧ (W.cell? ⟨g, 0, none⟩ = some (.int .u64 (r 0 : Nat)) ∧ W.cell? ⟨g, 1, none⟩ = some (.int .u64 (r 1 : Nat)) ∧ W.cell? ⟨g, 2, none⟩ = some (.int .u64 (r 2 : Nat)) ∧ W.cell? ⟨g, 3, none⟩ = some (.int .u64 (r 3 : Nat)) ∧ W.cell? ⟨g, 4, none⟩ = some (.int .u64 (r 4 : Nat))) ∧ Blk W A [.int .u64 (f 0 : Nat), .int .u64 (f 1 : Nat), .int .u64 (f 2 : Nat), .int .u64 (f 3 : Nat), .int .u64 (f 4 : Nat)] 27 ∧ Blk W g [.int .u64 (r 0 : Nat), .int .u64 (r 1 : Nat), .int .u64 (r 2 : Nat), .int .u64 (r 3 : Nat), .int .u64 (r 4 : Nat)] 27 ∧ Blk W (o) [.int .u64 0, .int .u64 0, .int .u64 0, .int .u64 0, .int .u64 0] 27 ∧ Below w.heap.size w W)) : ((W.drew.cell? ⟨A, 0, none⟩ = some (.int .u64 (f 0 : Nat)) ∧ W.drew.cell? ⟨A, 1, none⟩ = some (.int .u64 (f 1 : Nat)) ∧ W.drew.cell? ⟨A, 2, none⟩ = some (.int .u64 (f 2 : Nat)) ∧ W.drew.cell? ⟨A, 3, none⟩ = some (.int .u64 (f 3 : Nat)) ∧ W.drew.cell? ⟨A, 4, none⟩ = some (.int .u64 (f 4 : Nat))) ∧ (W.drew.cell? ⟨g, 0, none⟩ = some (.int .u64 (r 0 : Nat)) ∧ W.drew.cell? ⟨g, 1, none⟩ = some (.int .u64 (r 1 : Nat)) ∧ W.drew.cell? ⟨g, 2, none⟩ = some (.int .u64 (r 2 : Nat)) ∧ W.drew.cell? ⟨g, 3, none⟩ = some (.int .u64 (r 3 : Nat)) ∧ W.drew.cell? ⟨g, 4, none⟩ = some (.int .u64 (r 4 : Nat))) ∧ Blk W.drew A [.int .u64 (f 0 : Nat), .int .u64 (f 1 : Nat), .int .u64 (f 2 : Nat), .int .u64 (f 3 : Nat), .int .u64 (f 4 : Nat)] 27 ∧ Blk W.drew g [.int .u64 (r 0 : Nat), .int .u64 (r 1 : Nat), .int .u64 (r 2 : Nat), .int .u64 (r 3 : Nat), .int .u64 (r 4 : Nat)] 27 ∧ Blk W.drew (o) [.int .u64 0, .int .u64 0, .int .u64 0, .int .u64 0, .int .u64 0] 27 ∧ Below w.heap.size w W.drew) := root_keep _ _ h (Below.drew (Below.refl _ _))
theorem root_mk {f r : Nat → Nat} {A g o : Nat} {w W : World} (h3 : Blk W A [.int .u64 (f 0 : Nat), .int .u64 (f 1 : Nat), .int .u64 (f 2 : Nat), .int .u64 (f 3 : Nat), .int .u64 (f 4 : Nat)] 27) (h4 : Blk W g [.int .u64 (r 0 : Nat), .int .u64 (r 1 : Nat), .int .u64 (r 2 : Nat), .int .u64 (r 3 : Nat), .int .u64 (r 4 : Nat)] 27) (h5 : Blk W o [.int .u64 0, .int .u64 0, .int .u64 0, .int .u64 0, .int .u64 0] 27) (h6 : Below w.heap.size w W) : ((W.cell? ⟨A, 0, none⟩ = some (.int .u64 (f 0 : Nat)) ∧ W.cell? ⟨A, 1, none⟩ = some (.int .u64 (f 1 : Nat)) ∧ W.cell? ⟨A, 2, none⟩ = some (.int .u64 (f 2 : Nat)) ∧ W.cell? ⟨A, 3, none⟩ = some (.int .u64 (f 3 : Nat)) ∧ W.cell? ⟨A, 4, none⟩ = some (.int .u64 (f 4 : Nat))) ∧ (W.cell? ⟨g, 0, none⟩ = some (.int .u64 (r 0 : Nat)) ∧ W.cell? ⟨g, 1, none⟩ = some (.int .u64 (r 1 : Nat)) ∧ W.cell? ⟨g, 2, none⟩ = some (.int .u64 (r 2 : Nat)) ∧ W.cell? ⟨g, 3, none⟩ = some (.int .u64 (r 3 : Nat)) ∧ W.cell? ⟨g, 4, none⟩ = some (.int .u64 (r 4 : Nat))) ∧ Blk W A [.int .u64 (f 0 : Nat), .int .u64 (f 1 : Nat), .int .u64 (f 2 : Nat), .int .u64 (f 3 : Nat), .int .u64 (f 4 : Nat)] 27 ∧ Blk W g [.int .u64 (r 0 : Nat), .int .u64 (r 1 : Nat), .int .u64 (r 2 : Nat), .int .u64 (r 3 : Nat), .int .u64 (r 4 : Nat)] 27 ∧ Blk W (o) [.int .u64 0, .int .u64 0, .int .u64 0, .int .u64 0, .int .u64 0] 27 ∧ Below w.heap.size w W) :=
  ⟨⟨h3.cell 0, h3.cell 1, h3.cell 2, h3.cell 3, h3.cell 4⟩, ⟨h4.cell 0, h4.cell 1, h4.cell 2, h4.cell 3, h4.cell 4⟩, h3, h4, h5, h6⟩
set_option maxRecDepth 100000 in
set_option maxHeartbeats 1000000 in
theorem rootM {f : Nat → Nat} {x : F} (hf : FF f x) (w : World) :
    Calls Try.prog 43 #[.agg #[.int .u64 (f 0 : Nat), .int .u64 (f 1 : Nat), .int .u64 (f 2 : Nat), .int .u64 (f 3 : Nat), .int .u64 (f 4 : Nat)]] w fun e w' => ∃ h, e = .returned (.tuple #[.agg #[.int .u64 (h 0 : Nat), .int .u64 (h 1 : Nat), .int .u64 (h 2 : Nat), .int .u64 (h 3 : Nat), .int .u64 (h 4 : Nat)], .int .i64 (rootC x)]) ∧ FF h (rootV x) ∧ Below w.heap.size w w' := by
  have hbE := buildE
  go_enter Try.func43, Try.ntmps43
  go_upto_region 2 with (go_at_call 85; go_must (refine (fpow8 hf _).mono ?_; rintro e w1 ⟨r, rfl, hr, hb⟩; have hA := ((Blk.new w #[.int .u64 (f 0 : Nat),.int .u64 (f 1 : Nat),.int .u64 (f 2 : Nat),.int .u64 (f 3 : Nat),.int .u64 (f 4 : Nat)] 27).alloc _).below' hb; have hO := (show Blk _ (w.heap.size + 1) [.int .u64 0, .int .u64 0, .int .u64 0, .int .u64 0, .int .u64 0] 27 from (by repeat (first | (with_reducible refine Blk.drew ?_) | exact Blk.new' (by simp) | (with_reducible refine Blk.alloc ?_ _)))).below' hb; have hbel : Below w.heap.size w w1 := Below.call (by repeat (first | (with_reducible refine Below.alloc' ?_ _) | (with_reducible refine Below.drew ?_) | (with_reducible refine below_drewN ?_ _) | ((with_reducible refine Below.setCell ?_ ?_ _); rotate_left; (focus (first | exact Nat.le_refl _ | (simp; done) | (simp; omega)))) | (with_reducible assumption) | (with_reducible exact Below.refl _ _))) hb; clear hb))
  refine wp_gen (fun W => ((W.cell? ⟨w.heap.size, 0, none⟩ = some (.int .u64 (f 0 : Nat)) ∧ W.cell? ⟨w.heap.size, 1, none⟩ = some (.int .u64 (f 1 : Nat)) ∧ W.cell? ⟨w.heap.size, 2, none⟩ = some (.int .u64 (f 2 : Nat)) ∧ W.cell? ⟨w.heap.size, 3, none⟩ = some (.int .u64 (f 3 : Nat)) ∧ W.cell? ⟨w.heap.size, 4, none⟩ = some (.int .u64 (f 4 : Nat))) ∧ (W.cell? ⟨w1.heap.size, 0, none⟩ = some (.int .u64 (r 0 : Nat)) ∧ W.cell? ⟨w1.heap.size, 1, none⟩ = some (.int .u64 (r 1 : Nat)) ∧ W.cell? ⟨w1.heap.size, 2, none⟩ = some (.int .u64 (r 2 : Nat)) ∧ W.cell? ⟨w1.heap.size, 3, none⟩ = some (.int .u64 (r 3 : Nat)) ∧ W.cell? ⟨w1.heap.size, 4, none⟩ = some (.int .u64 (r 4 : Nat))) ∧ Blk W w.heap.size [.int .u64 (f 0 : Nat), .int .u64 (f 1 : Nat), .int .u64 (f 2 : Nat), .int .u64 (f 3 : Nat), .int .u64 (f 4 : Nat)] 27 ∧ Blk W w1.heap.size [.int .u64 (r 0 : Nat), .int .u64 (r 1 : Nat), .int .u64 (r 2 : Nat), .int .u64 (r 3 : Nat), .int .u64 (r 4 : Nat)] 27 ∧ Blk W (w.heap.size + 1) [.int .u64 0, .int .u64 0, .int .u64 0, .int .u64 0, .int .u64 0] 27 ∧ Below w.heap.size w W)) ?_ (fun W0 hW => ?_)
  · exact root_mk (hA.alloc _) (Blk.new w1 _ _) (hO.alloc _) (Below.alloc' hbel _)
  have hg1 : w.heap.size + 1 < w1.heap.size := hO.lt
  clear hA hO hbel
  generalize w1.heap.size = g at *
  clear w1
  have hst1 := Lib.hid (root_keep (f := f) (r := r) (A := w.heap.size) (g := g) (o := w.heap.size + 1) (w := w))
  have HS1 := Lib.hid (root_drew hW)
  clear hW
  have hst := hst1
  by_cases e1 : fpow x exp8 * fpow x exp8 = x
  · have E1 := Lib.hid e1
    have HC : Hid (cand x = fpow x exp8) := Lib.hid (by unfold cand; rw [if_pos e1])
    have HR : Hid (rootC x = 0) := Lib.hid (by unfold rootC; rw [HC.out, if_pos e1])
    have E2 := E1
    clear e1
    generalize fpow x exp8 = y at *
    go_region_held3 (fun W => ((W.cell? ⟨w.heap.size, 0, none⟩ = some (.int .u64 (f 0 : Nat)) ∧ W.cell? ⟨w.heap.size, 1, none⟩ = some (.int .u64 (f 1 : Nat)) ∧ W.cell? ⟨w.heap.size, 2, none⟩ = some (.int .u64 (f 2 : Nat)) ∧ W.cell? ⟨w.heap.size, 3, none⟩ = some (.int .u64 (f 3 : Nat)) ∧ W.cell? ⟨w.heap.size, 4, none⟩ = some (.int .u64 (f 4 : Nat))) ∧ (W.cell? ⟨g, 0, none⟩ = some (.int .u64 (r 0 : Nat)) ∧ W.cell? ⟨g, 1, none⟩ = some (.int .u64 (r 1 : Nat)) ∧ W.cell? ⟨g, 2, none⟩ = some (.int .u64 (r 2 : Nat)) ∧ W.cell? ⟨g, 3, none⟩ = some (.int .u64 (r 3 : Nat)) ∧ W.cell? ⟨g, 4, none⟩ = some (.int .u64 (r 4 : Nat))) ∧ Blk W w.heap.size [.int .u64 (f 0 : Nat), .int .u64 (f 1 : Nat), .int .u64 (f 2 : Nat), .int .u64 (f 3 : Nat), .int .u64 (f 4 : Nat)] 27 ∧ Blk W g [.int .u64 (r 0 : Nat), .int .u64 (r 1 : Nat), .int .u64 (r 2 : Nat), .int .u64 (r 3 : Nat), .int .u64 (r 4 : Nat)] 27 ∧ Blk W (w.heap.size + 1) [.int .u64 0, .int .u64 0, .int .u64 0, .int .u64 0, .int .u64 0] 27 ∧ Below w.heap.size w W)) (first | (exact HS1.out) | (first | assumption | (refine hst.out _ _ ?_ hb; assumption) | (refine hst.out _ _ ?_ (Below.alloc' (Below.refl _ _) _); assumption) | (refine hst.out _ _ ?_ (Below.drew (Below.refl _ _)); assumption))) ((first | (go_at_call 38; (with_reducible refine (fmulM hr hr _).mono ?_); rintro e wm ⟨m1, rfl, hm1, hb⟩) | (go_at_call 44; (with_reducible refine (fsameT hm1 hf E1.out _).mono ?_); rintro e ws ⟨rfl, hb⟩)))
    rename_i hh
    have HS2 := Lib.hid (root_drew hh)
    clear hh HS1 hst1
    go_wp2
    go_region_held3 (fun W => ((W.cell? ⟨w.heap.size, 0, none⟩ = some (.int .u64 (f 0 : Nat)) ∧ W.cell? ⟨w.heap.size, 1, none⟩ = some (.int .u64 (f 1 : Nat)) ∧ W.cell? ⟨w.heap.size, 2, none⟩ = some (.int .u64 (f 2 : Nat)) ∧ W.cell? ⟨w.heap.size, 3, none⟩ = some (.int .u64 (f 3 : Nat)) ∧ W.cell? ⟨w.heap.size, 4, none⟩ = some (.int .u64 (f 4 : Nat))) ∧ (W.cell? ⟨g, 0, none⟩ = some (.int .u64 (r 0 : Nat)) ∧ W.cell? ⟨g, 1, none⟩ = some (.int .u64 (r 1 : Nat)) ∧ W.cell? ⟨g, 2, none⟩ = some (.int .u64 (r 2 : Nat)) ∧ W.cell? ⟨g, 3, none⟩ = some (.int .u64 (r 3 : Nat)) ∧ W.cell? ⟨g, 4, none⟩ = some (.int .u64 (r 4 : Nat))) ∧ Blk W w.heap.size [.int .u64 (f 0 : Nat), .int .u64 (f 1 : Nat), .int .u64 (f 2 : Nat), .int .u64 (f 3 : Nat), .int .u64 (f 4 : Nat)] 27 ∧ Blk W g [.int .u64 (r 0 : Nat), .int .u64 (r 1 : Nat), .int .u64 (r 2 : Nat), .int .u64 (r 3 : Nat), .int .u64 (r 4 : Nat)] 27 ∧ Blk W (w.heap.size + 1) [.int .u64 0, .int .u64 0, .int .u64 0, .int .u64 0, .int .u64 0] 27 ∧ Below w.heap.size w W)) (first | (exact HS2.out) | (first | assumption | (refine hst.out _ _ ?_ hb; assumption) | (refine hst.out _ _ ?_ (Below.alloc' (Below.refl _ _) _); assumption) | (refine hst.out _ _ ?_ (Below.drew (Below.refl _ _)); assumption))) ((first | (go_at_call 38; (with_reducible refine (fmulM hr hr _).mono ?_); rintro e wm ⟨m2, rfl, hm2, hb⟩) | (go_at_call 44; (with_reducible refine (fsameT hm2 hf E2.out _).mono ?_); rintro e ws ⟨rfl, hb⟩)))
    rename_i hh
    have hhH := Lib.hid hh
    clear hh hst HS2
    by_cases hp : y.val % 2 = 1
    · have HV : Hid (rootV x = -y) := Lib.hid (by unfold rootV; rw [HC.out, if_pos E2.out, if_pos hp])
      have HP : Hid (decide (y.val % 2 = 1) = true) := Lib.hid (decide_eq_true hp)
      clear hp
      have c0 := hhH.out.2.1.1; have c1 := hhH.out.2.1.2.1; have c2 := hhH.out.2.1.2.2.1; have c3 := hhH.out.2.1.2.2.2.1; have c4 := hhH.out.2.1.2.2.2.2
      have hne : ¬ g = w.heap.size + 1 := by omega
      have hne2 : ¬ w.heap.size + 1 = g := by omega
      go_wp2_with (first | (go_at_call 61; go_must (refine (foddM hr _).mono ?_; rintro e w2 ⟨rfl, hb⟩; rw [HP.out]; have h2 := Lib.hid (root_keep _ _ hhH.out hb); clear c0 c1 c2 c3 c4 hb; have c0 := h2.out.2.1.1; have c1 := h2.out.2.1.2.1; have c2 := h2.out.2.1.2.2.1; have c3 := h2.out.2.1.2.2.2.1; have c4 := h2.out.2.1.2.2.2.2; have rf := h2.out.2.2.2.1.frozen))         | (go_at_call 47; go_must (refine (fnegM hr _).mono ?_; rintro e w3 ⟨q, rfl, hq, hb⟩; have h3 := root_keep _ _ h2.out hb; have hG := h3.2.2.2.1.frozen; have gc := h3.2.2.2.1.cell; have oc := h3.2.2.2.2.1.cell; have of := h3.2.2.2.2.1.frozen; have hbel := h3.2.2.2.2.2; clear c0 c1 c2 c3 c4 rf hb h2 h3)))
      exact bodyPost_ret (v := .tuple #[.agg #[.int .u64 (q 0 : Nat), .int .u64 (q 1 : Nat), .int .u64 (q 2 : Nat), .int .u64 (q 3 : Nat), .int .u64 (q 4 : Nat)], .int .i64 0]) (by simp [results, Try.results43, go_sem, oc]) rfl ⟨q, by rw [HR.out], by rw [HV.out]; exact hq, (by repeat (first | (with_reducible refine Below.alloc' ?_ _) | (with_reducible refine Below.drew ?_) | (with_reducible refine below_drewN ?_ _) | ((with_reducible refine Below.setCell ?_ ?_ _); rotate_left; (focus (first | exact Nat.le_refl _ | (simp; done) | (simp; omega)))) | (with_reducible assumption) | (with_reducible exact Below.refl _ _)))⟩
    · have HV : Hid (rootV x = y) := Lib.hid (by unfold rootV; rw [HC.out, if_pos E2.out, if_neg hp])
      have HP : Hid (decide (y.val % 2 = 1) = false) := Lib.hid (decide_eq_false hp)
      clear hp
      have c0 := hhH.out.2.1.1; have c1 := hhH.out.2.1.2.1; have c2 := hhH.out.2.1.2.2.1; have c3 := hhH.out.2.1.2.2.2.1; have c4 := hhH.out.2.1.2.2.2.2
      have hne : ¬ g = w.heap.size + 1 := by omega
      have hne2 : ¬ w.heap.size + 1 = g := by omega
      go_wp2_with (first | (go_at_call 61; go_must (refine (foddM hr _).mono ?_; rintro e w2 ⟨rfl, hb⟩; rw [HP.out]; have h2 := root_keep _ _ hhH.out hb; clear c0 c1 c2 c3 c4 hb; have gc := h2.2.2.2.1.cell; have oc := h2.2.2.2.2.1.cell; have of := h2.2.2.2.2.1.frozen; have hbel := h2.2.2.2.2.2; clear h2)))
      exact bodyPost_ret (v := .tuple #[.agg #[.int .u64 (r 0 : Nat), .int .u64 (r 1 : Nat), .int .u64 (r 2 : Nat), .int .u64 (r 3 : Nat), .int .u64 (r 4 : Nat)], .int .i64 0]) (by simp [results, Try.results43, go_sem, oc]) rfl ⟨r, by rw [HR.out], by rw [HV.out]; exact hr, (by repeat (first | (with_reducible refine Below.alloc' ?_ _) | (with_reducible refine Below.drew ?_) | (with_reducible refine below_drewN ?_ _) | ((with_reducible refine Below.setCell ?_ ?_ _); rotate_left; (focus (first | exact Nat.le_refl _ | (simp; done) | (simp; omega)))) | (with_reducible assumption) | (with_reducible exact Below.refl _ _)))⟩
  · have E1 := Lib.hid e1
    have HC : Hid (cand x = fpow x exp8 * sqm1) := Lib.hid (by unfold cand; rw [if_neg e1])
    clear e1
    go_region_held3 (fun W => ((W.cell? ⟨w.heap.size, 0, none⟩ = some (.int .u64 (f 0 : Nat)) ∧ W.cell? ⟨w.heap.size, 1, none⟩ = some (.int .u64 (f 1 : Nat)) ∧ W.cell? ⟨w.heap.size, 2, none⟩ = some (.int .u64 (f 2 : Nat)) ∧ W.cell? ⟨w.heap.size, 3, none⟩ = some (.int .u64 (f 3 : Nat)) ∧ W.cell? ⟨w.heap.size, 4, none⟩ = some (.int .u64 (f 4 : Nat))) ∧ (W.cell? ⟨g, 0, none⟩ = some (.int .u64 (r 0 : Nat)) ∧ W.cell? ⟨g, 1, none⟩ = some (.int .u64 (r 1 : Nat)) ∧ W.cell? ⟨g, 2, none⟩ = some (.int .u64 (r 2 : Nat)) ∧ W.cell? ⟨g, 3, none⟩ = some (.int .u64 (r 3 : Nat)) ∧ W.cell? ⟨g, 4, none⟩ = some (.int .u64 (r 4 : Nat))) ∧ Blk W w.heap.size [.int .u64 (f 0 : Nat), .int .u64 (f 1 : Nat), .int .u64 (f 2 : Nat), .int .u64 (f 3 : Nat), .int .u64 (f 4 : Nat)] 27 ∧ Blk W g [.int .u64 (r 0 : Nat), .int .u64 (r 1 : Nat), .int .u64 (r 2 : Nat), .int .u64 (r 3 : Nat), .int .u64 (r 4 : Nat)] 27 ∧ Blk W (w.heap.size + 1) [.int .u64 0, .int .u64 0, .int .u64 0, .int .u64 0, .int .u64 0] 27 ∧ Below w.heap.size w W)) (first | (exact HS1.out) | (first | assumption | (refine hst.out _ _ ?_ hb; assumption) | (refine hst.out _ _ ?_ (Below.alloc' (Below.refl _ _) _); assumption) | (refine hst.out _ _ ?_ (Below.drew (Below.refl _ _)); assumption))) ((first | (go_at_call 38; (with_reducible refine (fmulM hr hr _).mono ?_); rintro e wm ⟨m1, rfl, hm1, hb⟩) | (go_at_call 44; (with_reducible refine (fsameF hm1 hf E1.out _).mono ?_); rintro e ws ⟨rfl, hb⟩)))
    rename_i hh
    have HS2 := Lib.hid (root_drew hh)
    have hh' := Lib.hid hh
    clear hh HS1 hst1 HS2
    have c0 := hh'.out.2.1.1; have c1 := hh'.out.2.1.2.1; have c2 := hh'.out.2.1.2.2.1; have c3 := hh'.out.2.1.2.2.2.1; have c4 := hh'.out.2.1.2.2.2.2
    go_wp2
    go_region_with ((first | (go_at_call 86; (with_reducible refine (fturnM _).mono ?_); rintro e wt ⟨t, rfl, ht, hb⟩; have h2 := Lib.hid (root_keep _ _ (root_drew hh'.out) hb); clear c0 c1 c2 c3 c4 hb; have c0 := h2.out.2.1.1; have c1 := h2.out.2.1.2.1; have c2 := h2.out.2.1.2.2.1; have c3 := h2.out.2.1.2.2.2.1; have c4 := h2.out.2.1.2.2.2.2) | (go_at_call 38; (with_reducible refine (fmulM hr ht _).mono ?_); rintro e wm ⟨q, rfl, hq, hb⟩; have h3 := Lib.hid (root_keep _ _ h2.out hb); clear c0 c1 c2 c3 c4 hb; have c0 := h3.out.2.1.1; have c1 := h3.out.2.1.2.1; have c2 := h3.out.2.1.2.2.1; have c3 := h3.out.2.1.2.2.2.1; have c4 := h3.out.2.1.2.2.2.2; have rf := h3.out.2.2.2.1.frozen)))
    all_goals
      go_wp2
      refine wp_gen (fun W => ((W.cell? ⟨w.heap.size, 0, none⟩ = some (.int .u64 (f 0 : Nat)) ∧ W.cell? ⟨w.heap.size, 1, none⟩ = some (.int .u64 (f 1 : Nat)) ∧ W.cell? ⟨w.heap.size, 2, none⟩ = some (.int .u64 (f 2 : Nat)) ∧ W.cell? ⟨w.heap.size, 3, none⟩ = some (.int .u64 (f 3 : Nat)) ∧ W.cell? ⟨w.heap.size, 4, none⟩ = some (.int .u64 (f 4 : Nat))) ∧ (W.cell? ⟨g, 0, none⟩ = some (.int .u64 (q 0 : Nat)) ∧ W.cell? ⟨g, 1, none⟩ = some (.int .u64 (q 1 : Nat)) ∧ W.cell? ⟨g, 2, none⟩ = some (.int .u64 (q 2 : Nat)) ∧ W.cell? ⟨g, 3, none⟩ = some (.int .u64 (q 3 : Nat)) ∧ W.cell? ⟨g, 4, none⟩ = some (.int .u64 (q 4 : Nat))) ∧ Blk W w.heap.size [.int .u64 (f 0 : Nat), .int .u64 (f 1 : Nat), .int .u64 (f 2 : Nat), .int .u64 (f 3 : Nat), .int .u64 (f 4 : Nat)] 27 ∧ Blk W g [.int .u64 (q 0 : Nat), .int .u64 (q 1 : Nat), .int .u64 (q 2 : Nat), .int .u64 (q 3 : Nat), .int .u64 (q 4 : Nat)] 27 ∧ Blk W (w.heap.size + 1) [.int .u64 0, .int .u64 0, .int .u64 0, .int .u64 0, .int .u64 0] 27 ∧ Below w.heap.size w W)) ?_ (fun W hW => ?_)
      · have hbel := h3.out.2.2.2.2.2
        exact root_mk (((((h3.out.2.2.1.other ⟨g, 0, none⟩ (by simp; omega) (.int .u64 (q 0 : Nat))).other ⟨g, 1, none⟩ (by simp; omega) (.int .u64 (q 1 : Nat))).other ⟨g, 2, none⟩ (by simp; omega) (.int .u64 (q 2 : Nat))).other ⟨g, 3, none⟩ (by simp; omega) (.int .u64 (q 3 : Nat))).other ⟨g, 4, none⟩ (by simp; omega) (.int .u64 (q 4 : Nat))) (((((h3.out.2.2.2.1.set 0 (.int .u64 (q 0 : Nat))).set 1 (.int .u64 (q 1 : Nat))).set 2 (.int .u64 (q 2 : Nat))).set 3 (.int .u64 (q 3 : Nat))).set 4 (.int .u64 (q 4 : Nat))) (((((h3.out.2.2.2.2.1.other ⟨g, 0, none⟩ (by simp; omega) (.int .u64 (q 0 : Nat))).other ⟨g, 1, none⟩ (by simp; omega) (.int .u64 (q 1 : Nat))).other ⟨g, 2, none⟩ (by simp; omega) (.int .u64 (q 2 : Nat))).other ⟨g, 3, none⟩ (by simp; omega) (.int .u64 (q 3 : Nat))).other ⟨g, 4, none⟩ (by simp; omega) (.int .u64 (q 4 : Nat))) (by exact (by repeat (first | (with_reducible refine Below.alloc' ?_ _) | (with_reducible refine Below.drew ?_) | (with_reducible refine below_drewN ?_ _) | ((with_reducible refine Below.setCell ?_ ?_ _); rotate_left; (focus (first | exact Nat.le_refl _ | (simp; done) | (simp; omega)))) | (with_reducible assumption) | (with_reducible exact Below.refl _ _))))
      clear h2 h3 hh' c0 c1 c2 c3 c4 rf hst
      have HS2 := Lib.hid (root_drew hW)
      clear hW
      have hst1 := Lib.hid (root_keep (f := f) (r := q) (A := w.heap.size) (g := g) (o := w.heap.size + 1) (w := w))
      have hst := hst1
      by_cases e2 : (fpow x exp8 * sqm1) * (fpow x exp8 * sqm1) = x
      · have E2 := Lib.hid e2
        have HR : Hid (rootC x = 0) := Lib.hid (by unfold rootC; rw [HC.out, if_pos e2])
        clear e2
        generalize fpow x exp8 * sqm1 = y at *
        clear hst1
        go_region_held3 (fun W => ((W.cell? ⟨w.heap.size, 0, none⟩ = some (.int .u64 (f 0 : Nat)) ∧ W.cell? ⟨w.heap.size, 1, none⟩ = some (.int .u64 (f 1 : Nat)) ∧ W.cell? ⟨w.heap.size, 2, none⟩ = some (.int .u64 (f 2 : Nat)) ∧ W.cell? ⟨w.heap.size, 3, none⟩ = some (.int .u64 (f 3 : Nat)) ∧ W.cell? ⟨w.heap.size, 4, none⟩ = some (.int .u64 (f 4 : Nat))) ∧ (W.cell? ⟨g, 0, none⟩ = some (.int .u64 (q 0 : Nat)) ∧ W.cell? ⟨g, 1, none⟩ = some (.int .u64 (q 1 : Nat)) ∧ W.cell? ⟨g, 2, none⟩ = some (.int .u64 (q 2 : Nat)) ∧ W.cell? ⟨g, 3, none⟩ = some (.int .u64 (q 3 : Nat)) ∧ W.cell? ⟨g, 4, none⟩ = some (.int .u64 (q 4 : Nat))) ∧ Blk W w.heap.size [.int .u64 (f 0 : Nat), .int .u64 (f 1 : Nat), .int .u64 (f 2 : Nat), .int .u64 (f 3 : Nat), .int .u64 (f 4 : Nat)] 27 ∧ Blk W g [.int .u64 (q 0 : Nat), .int .u64 (q 1 : Nat), .int .u64 (q 2 : Nat), .int .u64 (q 3 : Nat), .int .u64 (q 4 : Nat)] 27 ∧ Blk W (w.heap.size + 1) [.int .u64 0, .int .u64 0, .int .u64 0, .int .u64 0, .int .u64 0] 27 ∧ Below w.heap.size w W)) (first | (exact HS2.out) | (first | assumption | (refine hst.out _ _ ?_ hb; assumption) | (refine hst.out _ _ ?_ (Below.alloc' (Below.refl _ _) _); assumption) | (refine hst.out _ _ ?_ (Below.drew (Below.refl _ _)); assumption))) ((first | (go_at_call 38; (with_reducible refine (fmulM hq hq _).mono ?_); rintro e wm ⟨m2, rfl, hm2, hb⟩) | (go_at_call 44; (with_reducible refine (fsameT hm2 hf E2.out _).mono ?_); rintro e ws ⟨rfl, hb⟩)))
        rename_i hh
        have hhH := Lib.hid hh
        clear hh hst HS2
        by_cases hp : y.val % 2 = 1
        · have HV : Hid (rootV x = -y) := Lib.hid (by unfold rootV; rw [HC.out, if_pos E2.out, if_pos hp])
          have HP : Hid (decide (y.val % 2 = 1) = true) := Lib.hid (decide_eq_true hp)
          clear hp
          have c0 := hhH.out.2.1.1; have c1 := hhH.out.2.1.2.1; have c2 := hhH.out.2.1.2.2.1; have c3 := hhH.out.2.1.2.2.2.1; have c4 := hhH.out.2.1.2.2.2.2
          have hne : ¬ g = w.heap.size + 1 := by omega
          have hne2 : ¬ w.heap.size + 1 = g := by omega
          go_wp2_with (first | (go_at_call 61; go_must (refine (foddM hq _).mono ?_; rintro e w2 ⟨rfl, hb⟩; rw [HP.out]; have h2 := Lib.hid (root_keep _ _ hhH.out hb); clear c0 c1 c2 c3 c4 hb; have c0 := h2.out.2.1.1; have c1 := h2.out.2.1.2.1; have c2 := h2.out.2.1.2.2.1; have c3 := h2.out.2.1.2.2.2.1; have c4 := h2.out.2.1.2.2.2.2; have rf := h2.out.2.2.2.1.frozen))             | (go_at_call 47; go_must (refine (fnegM hq _).mono ?_; rintro e w3 ⟨z, rfl, hz, hb⟩; have h3 := root_keep _ _ h2.out hb; have hG := h3.2.2.2.1.frozen; have gc := h3.2.2.2.1.cell; have oc := h3.2.2.2.2.1.cell; have of := h3.2.2.2.2.1.frozen; have hbel := h3.2.2.2.2.2; clear c0 c1 c2 c3 c4 rf hb h2 h3)))
          exact bodyPost_ret (v := .tuple #[.agg #[.int .u64 (z 0 : Nat), .int .u64 (z 1 : Nat), .int .u64 (z 2 : Nat), .int .u64 (z 3 : Nat), .int .u64 (z 4 : Nat)], .int .i64 0]) (by simp [results, Try.results43, go_sem, oc]) rfl ⟨z, by rw [HR.out], by rw [HV.out]; exact hz, (by repeat (first | (with_reducible refine Below.alloc' ?_ _) | (with_reducible refine Below.drew ?_) | (with_reducible refine below_drewN ?_ _) | ((with_reducible refine Below.setCell ?_ ?_ _); rotate_left; (focus (first | exact Nat.le_refl _ | (simp; done) | (simp; omega)))) | (with_reducible assumption) | (with_reducible exact Below.refl _ _)))⟩
        · have HV : Hid (rootV x = y) := Lib.hid (by unfold rootV; rw [HC.out, if_pos E2.out, if_neg hp])
          have HP : Hid (decide (y.val % 2 = 1) = false) := Lib.hid (decide_eq_false hp)
          clear hp
          have c0 := hhH.out.2.1.1; have c1 := hhH.out.2.1.2.1; have c2 := hhH.out.2.1.2.2.1; have c3 := hhH.out.2.1.2.2.2.1; have c4 := hhH.out.2.1.2.2.2.2
          have hne : ¬ g = w.heap.size + 1 := by omega
          have hne2 : ¬ w.heap.size + 1 = g := by omega
          go_wp2_with (first | (go_at_call 61; go_must (refine (foddM hq _).mono ?_; rintro e w2 ⟨rfl, hb⟩; rw [HP.out]; have h2 := root_keep _ _ hhH.out hb; clear c0 c1 c2 c3 c4 hb; have gc := h2.2.2.2.1.cell; have oc := h2.2.2.2.2.1.cell; have of := h2.2.2.2.2.1.frozen; have hbel := h2.2.2.2.2.2; clear h2)))
          exact bodyPost_ret (v := .tuple #[.agg #[.int .u64 (q 0 : Nat), .int .u64 (q 1 : Nat), .int .u64 (q 2 : Nat), .int .u64 (q 3 : Nat), .int .u64 (q 4 : Nat)], .int .i64 0]) (by simp [results, Try.results43, go_sem, oc]) rfl ⟨q, by rw [HR.out], by rw [HV.out]; exact hq, (by repeat (first | (with_reducible refine Below.alloc' ?_ _) | (with_reducible refine Below.drew ?_) | (with_reducible refine below_drewN ?_ _) | ((with_reducible refine Below.setCell ?_ ?_ _); rotate_left; (focus (first | exact Nat.le_refl _ | (simp; done) | (simp; omega)))) | (with_reducible assumption) | (with_reducible exact Below.refl _ _)))⟩
      · have E2 := Lib.hid e2
        have HR : Hid (rootC x = 7) := Lib.hid (by unfold rootC; rw [HC.out, if_neg e2])
        have HV : Hid (rootV x = 0) := Lib.hid (by unfold rootV; rw [HC.out, if_neg e2])
        clear e2 hst1
        generalize fpow x exp8 * sqm1 = y at *
        go_region_held3 (fun W => ((W.cell? ⟨w.heap.size, 0, none⟩ = some (.int .u64 (f 0 : Nat)) ∧ W.cell? ⟨w.heap.size, 1, none⟩ = some (.int .u64 (f 1 : Nat)) ∧ W.cell? ⟨w.heap.size, 2, none⟩ = some (.int .u64 (f 2 : Nat)) ∧ W.cell? ⟨w.heap.size, 3, none⟩ = some (.int .u64 (f 3 : Nat)) ∧ W.cell? ⟨w.heap.size, 4, none⟩ = some (.int .u64 (f 4 : Nat))) ∧ (W.cell? ⟨g, 0, none⟩ = some (.int .u64 (q 0 : Nat)) ∧ W.cell? ⟨g, 1, none⟩ = some (.int .u64 (q 1 : Nat)) ∧ W.cell? ⟨g, 2, none⟩ = some (.int .u64 (q 2 : Nat)) ∧ W.cell? ⟨g, 3, none⟩ = some (.int .u64 (q 3 : Nat)) ∧ W.cell? ⟨g, 4, none⟩ = some (.int .u64 (q 4 : Nat))) ∧ Blk W w.heap.size [.int .u64 (f 0 : Nat), .int .u64 (f 1 : Nat), .int .u64 (f 2 : Nat), .int .u64 (f 3 : Nat), .int .u64 (f 4 : Nat)] 27 ∧ Blk W g [.int .u64 (q 0 : Nat), .int .u64 (q 1 : Nat), .int .u64 (q 2 : Nat), .int .u64 (q 3 : Nat), .int .u64 (q 4 : Nat)] 27 ∧ Blk W (w.heap.size + 1) [.int .u64 0, .int .u64 0, .int .u64 0, .int .u64 0, .int .u64 0] 27 ∧ Below w.heap.size w W)) (first | (exact HS2.out) | (first | assumption | (refine hst.out _ _ ?_ hb; assumption) | (refine hst.out _ _ ?_ (Below.alloc' (Below.refl _ _) _); assumption) | (refine hst.out _ _ ?_ (Below.drew (Below.refl _ _)); assumption))) ((first | (go_at_call 38; (with_reducible refine (fmulM hq hq _).mono ?_); rintro e wm ⟨m2, rfl, hm2, hb⟩) | (go_at_call 44; (with_reducible refine (fsameF hm2 hf E2.out _).mono ?_); rintro e ws ⟨rfl, hb⟩)))
        rename_i hh
        have oc := hh.2.2.2.2.1.cell; have of := hh.2.2.2.2.1.frozen; have hbel := hh.2.2.2.2.2
        clear hh HS2 hst
        go_wp2
        exact bodyPost_ret (v := .tuple #[.agg #[.int .u64 0, .int .u64 0, .int .u64 0, .int .u64 0, .int .u64 0], .int .i64 7]) (by simp [results, Try.results43, go_sem, oc]) rfl ⟨fun _ => 0, by rw [HR.out]; rfl, by rw [HV.out]; exact FF.zero, (by repeat (first | (with_reducible refine Below.alloc' ?_ _) | (with_reducible refine Below.drew ?_) | (with_reducible refine below_drewN ?_ _) | ((with_reducible refine Below.setCell ?_ ?_ _); rotate_left; (focus (first | exact Nat.le_refl _ | (simp; done) | (simp; omega)))) | (with_reducible assumption) | (with_reducible exact Below.refl _ _)))⟩
end Go.Proofs.Ytjchdhpijopikaa
namespace Go.Proofs.Ytjchdhpijopikaa
open Go Go.RowKit
theorem cSame {v v' : Value} {x y : F} {b : Bool} (hq : decide (x = y) = b) (h : IsFs rE v [x]) (h' : IsFs rE v' [y]) (w : World) :
    Calls Try.prog 44 #[v, v'] w fun e w' => e = .returned (.bool b) ∧ Below w.heap.size w w' := by
  obtain ⟨f, rfl, hf⟩ := of_isE h; obtain ⟨g, rfl, hg⟩ := of_isE h'
  subst hq
  exact fsameM hf hg w
theorem cOdd {v : Value} {x : F} {b : Bool} (hq : decide (x.val % 2 = 1) = b) (h : IsFs rE v [x]) (w : World) :
    Calls Try.prog 61 #[v] w fun e w' => e = .returned (.bool b) ∧ Below w.heap.size w w' := by
  obtain ⟨f, rfl, hf⟩ := of_isE h
  subst hq
  exact foddM hf w
theorem cPick {v v' : Value} {x y z : F} {b : Bool} (hz : (if b then x else y) = z) (h : IsFs rE v [x]) (h' : IsFs rE v' [y]) (w : World) :
    Calls Try.prog 46 #[.bool b, v, v'] w fun e w' => ∃ r, e = .returned r ∧ IsFs rE r [z] ∧ Below w.heap.size w w' := by
  subst hz
  obtain ⟨f, rfl, hf⟩ := of_isE h; obtain ⟨g, rfl, hg⟩ := of_isE h'
  refine (fepick_any b f g w).mono ?_
  rintro e w' ⟨rfl, hb⟩
  cases b
  · exact ⟨_, rfl, isE hg, hb⟩
  · exact ⟨_, rfl, isE hf, hb⟩
/-- What reading strictly makes of bytes, and what it tells. -/
def stV (l : List UInt8) : F := if feOk l then feF l else 0
def stC (l : List UInt8) : Int := if feOk l then 0 else 2
theorem cStrict {a : Option Addr} {n cap : Nat} {l : List UInt8} {w : World} (h : RdB w a n cap l) :
    Calls Try.prog 36 #[.slice a n cap] w fun e w' => ∃ r, e = .returned (.tuple #[r, .int .i64 (stC l)]) ∧ IsFs rE r [stV l] ∧ Below w.heap.size w w' := by
  by_cases hok : feOk l = true
  · refine (fstrict_yes w h hok).mono ?_
    rintro e w' ⟨f, rfl, hf, hb⟩
    rw [stC, stV, if_pos hok, if_pos hok]
    exact ⟨_, rfl, isE hf, hb⟩
  · refine (fstrict_no w h (by simpa using hok)).mono ?_
    rintro e w' ⟨f, rfl, hf, hb⟩
    rw [stC, stV, if_neg hok, if_neg hok]
    exact ⟨_, rfl, isE hf, hb⟩
theorem cRoot {v : Value} {x : F} (h : IsFs rE v [x]) (w : World) :
    Calls Try.prog 43 #[v] w fun e w' => ∃ r, e = .returned (.tuple #[r, .int .i64 (rootC x)]) ∧ IsFs rE r [rootV x] ∧ Below w.heap.size w w' := by
  obtain ⟨f, rfl, hf⟩ := of_isE h
  refine (rootM hf w).mono ?_
  rintro e w' ⟨g, rfl, hg, hb⟩
  exact ⟨_, rfl, isE hg, hb⟩
theorem cOf' {a : Option Addr} {n cap : Nat} {l : List UInt8} {x : F} {w : World} (hx : feF l = x) (h : RdB w a n cap l) :
    Calls Try.prog 81 #[.slice a n cap] w fun e w' => ∃ r, e = .returned r ∧ IsFs rE r [x] ∧ Below w.heap.size w w' := by subst hx; exact cOf h
theorem cStrict' {a : Option Addr} {n cap : Nat} {l : List UInt8} {x : F} {c : Int} {w : World} (hx : stV l = x) (hc : stC l = c) (h : RdB w a n cap l) :
    Calls Try.prog 36 #[.slice a n cap] w fun e w' => ∃ r, e = .returned (.tuple #[r, .int .i64 c]) ∧ IsFs rE r [x] ∧ Below w.heap.size w w' := by subst hx hc; exact cStrict h
end Go.Proofs.Ytjchdhpijopikaa
namespace Go.Proofs.Ytjchdhpijopikaa
/-- The number that n limbs mean. -/
def v16 (f : Nat → Nat) : Nat → Nat
  | 0 => 0
  | n + 1 => v16 f n + f n * 65536 ^ n
/-- The carries of a row, none coming in; the limbs then. -/
def cr16 (f : Nat → Nat) : Nat → Nat
  | 0 => 0
  | i + 1 => (f i + cr16 f i) / 65536
def pas16 (f : Nat → Nat) (i : Nat) : Nat := (f i + cr16 f i) % 65536
theorem pas16_v (f : Nat → Nat) : ∀ n, v16 (pas16 f) n + cr16 f n * 65536 ^ n = v16 f n
  | 0 => by simp [v16, cr16]
  | n + 1 => by
    have ih := pas16_v f n
    have e : pas16 f n + 65536 * cr16 f (n + 1) = f n + cr16 f n := by unfold pas16; simp only [cr16]; omega
    have e2 : cr16 f (n + 1) * 65536 ^ (n + 1) = 65536 * cr16 f (n + 1) * 65536 ^ n := by rw [Nat.pow_succ]; grind
    simp only [v16]
    rw [e2]
    have e3 : pas16 f n * 65536 ^ n + 65536 * cr16 f (n + 1) * 65536 ^ n = f n * 65536 ^ n + cr16 f n * 65536 ^ n := by rw [← Nat.add_mul, e, Nat.add_mul]
    omega
theorem pas16_lt (f : Nat → Nat) (i : Nat) : pas16 f i < 65536 := Nat.mod_lt _ (by omega)
theorem v16_lt (f : Nat → Nat) (h : ∀ i, f i < 65536) : ∀ n, v16 f n < 65536 ^ n
  | 0 => by simp [v16]
  | n + 1 => by
    have ih := v16_lt f h n
    have h1 := h n
    have h2 : f n * 65536 ^ n ≤ 65535 * 65536 ^ n := Nat.mul_le_mul_right _ (by omega)
    simp only [v16, Nat.pow_succ]
    omega
theorem v16_congr {f g : Nat → Nat} : ∀ n, (∀ i, i < n → f i = g i) → v16 f n = v16 g n
  | 0, _ => rfl
  | n + 1, h => by simp only [v16]; rw [v16_congr n (fun i hi => h i (by omega)), h n (by omega)]
/-- One round of the document's carrying. -/
def rnd16 (f : Nat → Nat) (i : Nat) : Nat :=
  if i = 0 then pas16 f 0 + 38 * cr16 f 16 + 19 * (pas16 f 15 / 32768) else if i = 15 then pas16 f 15 % 32768 else pas16 f i
/-- The first and the last limb stand out. -/
theorem v16_ends (f : Nat → Nat) : ∀ n, v16 f (n + 2) = f 0 + v16 (fun i => if i = 0 then 0 else f i) (n + 1) + f (n + 1) * 65536 ^ (n + 1)
  | 0 => by simp [v16]
  | n + 1 => by
    rw [v16, v16_ends f n]
    conv => rhs; rw [v16]
    simp only [if_neg (show ¬ n + 1 = 0 by omega)]
    have e : f (n + 2) * 65536 ^ (n + 2) = f (n + 1 + 1) * 65536 ^ (n + 1 + 1) := rfl
    rw [e]
    omega
theorem rnd16_mod (f : Nat → Nat) : v16 (rnd16 f) 16 % Pq = v16 f 16 % Pq := by
  have h1 := pas16_v f 16
  have a := v16_ends (rnd16 f) 14
  have b := v16_ends (pas16 f) 14
  have c : v16 (fun i => if i = 0 then 0 else rnd16 f i) (14 + 1) = v16 (fun i => if i = 0 then 0 else pas16 f i) (14 + 1) := by
    apply v16_congr
    intro i hi
    by_cases h0 : i = 0
    · simp [h0]
    · simp only [if_neg h0, rnd16, if_neg (show ¬ i = 15 by omega)]
  rw [c] at a
  have e0 : rnd16 f 0 = pas16 f 0 + 38 * cr16 f 16 + 19 * (pas16 f 15 / 32768) := by simp [rnd16]
  have e15 : rnd16 f (14 + 1) = pas16 f 15 % 32768 := by simp [rnd16]
  rw [e0, e15] at a
  generalize v16 (fun i => if i = 0 then 0 else pas16 f i) (14 + 1) = M at *
  generalize cr16 f 16 = C at *
  have hl := pas16_lt f 15
  simp only [show 14 + 2 = 16 from rfl, show 14 + 1 = 15 from rfl] at *
  generalize pas16 f 15 = L at *
  generalize pas16 f 0 = Z at *
  generalize v16 (rnd16 f) 16 = A at *
  generalize v16 (pas16 f) 16 = Bv at *
  generalize v16 f 16 = V at *
  have hL : L = 32768 * (L / 32768) + L % 32768 := by omega
  generalize L / 32768 = q at *
  generalize L % 32768 = r at *
  simp only [Nat.reducePow] at *
  have key : V + (38 * C + 19 * q) = A + (115792089237316195423570985008687907853269984665640564039457584007913129639936 * C + 57896044618658097711785492504343953926634992332820282019728792003956564819968 * q) := by omega
  have k1 : (38 * C + 19 * q) % Pq = (115792089237316195423570985008687907853269984665640564039457584007913129639936 * C + 57896044618658097711785492504343953926634992332820282019728792003956564819968 * q) % Pq := by
    unfold Pq; omega
  have k2 : (V + (38 * C + 19 * q)) % Pq = (A + (38 * C + 19 * q)) % Pq := by
    rw [key, Nat.add_mod A, ← k1, ← Nat.add_mod]
  have hP := Pq_pos
  unfold Pq at *
  omega
theorem cr16_lt (f : Nat → Nat) (B : Nat) (h : ∀ i, f i ≤ B) : ∀ i, cr16 f i ≤ B / 32768
  | 0 => by simp [cr16]
  | i + 1 => by
    have := cr16_lt f B h i
    have := h i
    simp only [cr16]
    omega
/-- Limbs below 2^16, but for the first; the last below 2^15. -/
structure Nr (f : Nat → Nat) (B : Nat) : Prop where
  z : f 0 ≤ B
  r : ∀ i, 0 < i → f i < 65536
  t : f 15 < 32768
theorem rnd16_nr (f : Nat → Nat) (C : Nat) (h : cr16 f 16 ≤ C) : Nr (rnd16 f) (65535 + 38 * C + 19) := by
  have h0 := pas16_lt f 0
  have h15 := pas16_lt f 15
  refine ⟨?_, fun i hi => ?_, ?_⟩
  · simp only [rnd16, if_true]; omega
  · have hl := pas16_lt f i
    simp only [rnd16, if_neg (show ¬ i = 0 by omega)]
    by_cases e : i = 15
    · rw [if_pos e]; omega
    · rw [if_neg e]; exact hl
  · simp [rnd16]; omega
theorem Nr.cr {f : Nat → Nat} {B : Nat} (h : Nr f B) (hB : B < 4294967296 * 32768) : cr16 f 16 ≤ 1 := by
  have h1 : cr16 f 1 ≤ 2147483648 := by have := h.z; simp only [cr16]; omega
  have h2 : cr16 f 2 ≤ 32768 := by have := h.r 1 (by omega); rw [cr16]; omega
  have h3 : cr16 f 3 ≤ 1 := by have := h.r 2 (by omega); rw [cr16]; omega
  have key : ∀ i, cr16 f (i + 3) ≤ 1 := by
    intro i
    induction i with
    | zero => exact h3
    | succ i ih => have := h.r (i + 3) (by omega); rw [cr16]; omega
  exact key 13
theorem v16_split (f : Nat → Nat) (n : Nat) : v16 f (n + 1) = f 0 + v16 (fun i => if i = 0 then 0 else f i) (n + 1) := by
  cases n with
  | zero => simp [v16]
  | succ n => have := v16_ends f n; rw [this]; conv => rhs; rw [v16]
              simp only [if_neg (show ¬ n + 1 = 0 by omega)]; omega
/-- Limbs in their one form, of a number below 2^255. -/
structure Cn (f : Nat → Nat) : Prop where
  r : ∀ i, f i < 65536
  t : f 15 < 32768
theorem Cn.lt {f : Nat → Nat} (h : Cn f) : v16 f 16 < 57896044618658097711785492504343953926634992332820282019728792003956564819968 := by
  have h1 := v16_lt f h.r 15
  have h2 := h.t
  have h3 : f 15 * 65536 ^ 15 ≤ 32767 * 65536 ^ 15 := Nat.mul_le_mul_right _ (by omega)
  have e : v16 f 16 = v16 f 15 + f 15 * 65536 ^ 15 := rfl
  rw [e, show (57896044618658097711785492504343953926634992332820282019728792003956564819968 : Nat) = 32768 * 65536 ^ 15 from by decide +kernel]
  generalize 65536 ^ 15 = X at *
  omega
/-- Carried thrice, the limbs stand in their one form. -/
theorem rnd_third {f : Nat → Nat} (h : Nr f 65592) : Cn (rnd16 f) := by
  have hc : cr16 f 16 ≤ 1 := h.cr (by omega)
  have hv : v16 f 16 < 57896044618658097711785492504343953926634992332820282019728792003956564819968 + 57 := by
    by_cases hz : f 0 < 65536
    · have hcn : Cn f := ⟨fun i => by by_cases h0 : i = 0
                                      · subst h0; exact hz
                                      · exact h.r i (by omega), h.t⟩
      have := hcn.lt
      omega
    · have e := v16_split f 15
      have hcn : Cn (fun i => if i = 0 then 65535 else f i) := ⟨fun i => by by_cases h0 : i = 0
                                                                            · simp [h0]
                                                                            · simp only [if_neg h0]; exact h.r i (by omega), by simp; exact h.t⟩
      have h1 := hcn.lt
      have e1 := v16_split (fun i => if i = 0 then 65535 else f i) 15
      have e2 : v16 (fun i => if i = 0 then 0 else (fun i => if i = 0 then 65535 else f i) i) (15 + 1) = v16 (fun i => if i = 0 then 0 else f i) (15 + 1) := by
        apply v16_congr; intro i _; by_cases h0 : i = 0 <;> simp [h0]
      rw [e2] at e1
      simp only [if_true] at e1
      have hz2 := h.z
      simp only [show 15 + 1 = 16 from rfl] at *
      omega
  have hp := pas16_v f 16
  have hpl := v16_lt (pas16 f) (pas16_lt f) 15
  have e15 : v16 (pas16 f) 16 = v16 (pas16 f) 15 + pas16 f 15 * 65536 ^ 15 := rfl
  have h15 := pas16_lt f 15
  have hsp := v16_ends (pas16 f) 14
  have h0 := pas16_lt f 0
  simp only [show 14 + 1 = 15 from rfl, show 14 + 2 = 16 from rfl] at hsp
  have hc0 : cr16 f 16 = 0 := by
    simp only [Nat.reducePow] at *
    omega
  have key : pas16 f 0 + 38 * cr16 f 16 + 19 * (pas16 f 15 / 32768) < 65536 := by
    rw [hc0]
    by_cases hq : pas16 f 15 < 32768
    · omega
    · have hz : pas16 f 0 < 57 := by
        simp only [Nat.reducePow] at *
        omega
      omega
  refine ⟨fun i => ?_, ?_⟩
  · by_cases e0 : i = 0
    · subst e0; simp only [rnd16, if_true]; exact key
    · simp only [rnd16, if_neg e0]
      by_cases e : i = 15
      · rw [if_pos e]; omega
      · rw [if_neg e]; exact pas16_lt f i
  · simp [rnd16]; omega
/-- What carrying thrice makes. -/
def fin16 (f : Nat → Nat) : Nat → Nat := rnd16 (rnd16 (rnd16 f))
theorem fin16_ok (f : Nat → Nat) (h : ∀ i, f i ≤ 17592186044416) : Cn (fin16 f) ∧ v16 (fin16 f) 16 % Pq = v16 f 16 % Pq := by
  have h1 := rnd16_nr f _ (cr16_lt f _ h 16)
  have h2 := rnd16_nr (rnd16 f) 1 (h1.cr (by omega))
  exact ⟨rnd_third h2, by unfold fin16; rw [rnd16_mod, rnd16_mod, rnd16_mod]⟩
/-- Digit i of 16 binary digits. -/
def d16 (n i : Nat) : Nat := n / 65536 ^ i % 65536
theorem d16_lt (n i : Nat) : d16 n i < 65536 := Nat.mod_lt _ (by omega)
theorem d16_of (f : Nat → Nat) (h : ∀ i, f i < 65536) : ∀ n i, i < n → d16 (v16 f n) i = f i
  | 0, i, hi => by omega
  | n + 1, i, hi => by
    have hl := v16_lt f h n
    have hp : 0 < 65536 ^ i := Nat.pow_pos (by omega)
    by_cases e : i = n
    · subst e
      unfold d16
      rw [v16, Nat.add_mul_div_right _ _ hp, Nat.div_eq_of_lt hl, Nat.zero_add, Nat.mod_eq_of_lt (h i)]
    · have ih := d16_of f h n i (by omega)
      rw [← ih]
      unfold d16
      rw [v16]
      obtain ⟨j, hj⟩ : ∃ j, n = i + 1 + j := ⟨n - (i + 1), by omega⟩
      have e2 : f n * 65536 ^ n = (f n * 65536 ^ j * 65536) * 65536 ^ i := by
        rw [hj, Nat.pow_add, Nat.pow_add, Nat.pow_one]; grind
      rw [e2, Nat.add_mul_div_right _ _ hp, Nat.add_mul_mod_self_right]
theorem d16_val (x : Nat) : ∀ n, v16 (d16 x) n = x % 65536 ^ n
  | 0 => by simp [v16, Nat.mod_one]
  | n + 1 => by
    rw [v16, d16_val x n, Nat.pow_succ, Nat.mod_mul]
    unfold d16
    rw [Nat.mul_comm (65536 ^ n)]
/-- Which of two is less is told by the first digit, from the top, that differs. -/
theorem less16 (x y i : Nat) (h : x / 65536 ^ (i + 1) = y / 65536 ^ (i + 1)) (hne : d16 x i ≠ d16 y i) : decide (x < y) = decide (d16 x i < d16 y i) := by
  have hp : 0 < 65536 ^ i := Nat.pow_pos (by omega)
  unfold d16 at *
  rw [Nat.pow_succ, ← Nat.div_div_eq_div_mul, ← Nat.div_div_eq_div_mul] at h
  have ex := Nat.div_add_mod x (65536 ^ i)
  have ey := Nat.div_add_mod y (65536 ^ i)
  have hx := Nat.mod_lt x hp
  have hy := Nat.mod_lt y hp
  generalize x / 65536 ^ i = a at *
  generalize y / 65536 ^ i = b at *
  generalize x % 65536 ^ i = r at *
  generalize y % 65536 ^ i = s at *
  generalize 65536 ^ i = X at *
  have key : x < y ↔ a < b := by
    constructor
    · intro hlt
      by_cases hab : a < b
      · exact hab
      · exfalso
        have : b + 1 ≤ a ∨ a = b := by omega
        rcases this with h1 | h1
        · have := Nat.mul_le_mul_left X h1
          rw [Nat.mul_add, Nat.mul_one] at this
          omega
        · subst h1; exact hne rfl
    · intro hab
      have := Nat.mul_le_mul_left X (show a + 1 ≤ b from hab)
      rw [Nat.mul_add, Nat.mul_one] at this
      omega
  by_cases hab : a < b
  · rw [decide_eq_true (key.2 hab), decide_eq_true]; omega
  · rw [decide_eq_false (fun hh => hab (key.1 hh)), decide_eq_false]; omega
theorem same16 (x y i : Nat) (h : x / 65536 ^ (i + 1) = y / 65536 ^ (i + 1)) (he : d16 x i = d16 y i) : x / 65536 ^ i = y / 65536 ^ i := by
  unfold d16 at he
  rw [Nat.pow_succ, ← Nat.div_div_eq_div_mul, ← Nat.div_div_eq_div_mul] at h
  omega
end Go.Proofs.Ytjchdhpijopikaa
namespace Go.Proofs.Ytjchdhpijopikaa
open Go.RowKit
def primeF (i : Nat) : Nat := if i = 0 then 65517 else if i = 15 then 32767 else 65535
theorem primeF_d16 : ∀ i : Fin 16, primeF i.val = d16 Pq i.val := by decide +kernel
theorem row16 (f : Nat → Value) : row 16 f = [f 0, f 1, f 2, f 3, f 4, f 5, f 6, f 7, f 8, f 9, f 10, f 11, f 12, f 13, f 14, f 15] := rfl
set_option maxRecDepth 100000 in
set_option maxHeartbeats 1000000 in
theorem rprime_any (w : World) : Calls Try.prog 90 #[] w fun e w' => e = .returned (.agg #[.int .u64 (primeF 0 : Nat), .int .u64 (primeF 1 : Nat), .int .u64 (primeF 2 : Nat), .int .u64 (primeF 3 : Nat), .int .u64 (primeF 4 : Nat), .int .u64 (primeF 5 : Nat), .int .u64 (primeF 6 : Nat), .int .u64 (primeF 7 : Nat), .int .u64 (primeF 8 : Nat), .int .u64 (primeF 9 : Nat), .int .u64 (primeF 10 : Nat), .int .u64 (primeF 11 : Nat), .int .u64 (primeF 12 : Nat), .int .u64 (primeF 13 : Nat), .int .u64 (primeF 14 : Nat), .int .u64 (primeF 15 : Nat)]) ∧ Below w.heap.size w w' := by
  go_enter Try.func90, Try.ntmps90
  go_wp2
  refine wp_loop_rounds 17 ?_
  iterate 16 (rw [rounds_succ]; go_wp2; (try go_region); go_wp2)
  rw [rounds_succ]
  go_wp2
  exact bodyPost_ret (v := .agg #[.int .u64 65517, .int .u64 65535, .int .u64 65535, .int .u64 65535, .int .u64 65535, .int .u64 65535, .int .u64 65535, .int .u64 65535, .int .u64 65535, .int .u64 65535, .int .u64 65535, .int .u64 65535, .int .u64 65535, .int .u64 65535, .int .u64 65535, .int .u64 32767]) (by simp [results, Try.results90, go_sem]) rfl ⟨rfl, (by repeat (first | (with_reducible refine Below.alloc' ?_ _) | (with_reducible refine Below.drew ?_) | (with_reducible refine below_drewN ?_ _) | ((with_reducible refine Below.setCell ?_ ?_ _); rotate_left; (focus (first | exact Nat.le_refl _ | (simp; done) | (simp; omega)))) | (with_reducible assumption) | (with_reducible exact Below.refl _ _)))⟩
end Go.Proofs.Ytjchdhpijopikaa
namespace Go.Proofs.Ytjchdhpijopikaa
open Go.RowKit
theorem top16 (x : Nat) (h : x < 65536 ^ 16) : x / 65536 ^ 16 = Pq / 65536 ^ 16 := by
  rw [Nat.div_eq_of_lt h, Nat.div_eq_of_lt (by decide +kernel)]
set_option maxRecDepth 100000 in
set_option maxHeartbeats 1000000 in
theorem rleast_any (x : Nat) (hx : x < 65536 ^ 16) (w : World) : Calls Try.prog 99 #[.agg #[.int .u64 (d16 x 0 : Nat), .int .u64 (d16 x 1 : Nat), .int .u64 (d16 x 2 : Nat), .int .u64 (d16 x 3 : Nat), .int .u64 (d16 x 4 : Nat), .int .u64 (d16 x 5 : Nat), .int .u64 (d16 x 6 : Nat), .int .u64 (d16 x 7 : Nat), .int .u64 (d16 x 8 : Nat), .int .u64 (d16 x 9 : Nat), .int .u64 (d16 x 10 : Nat), .int .u64 (d16 x 11 : Nat), .int .u64 (d16 x 12 : Nat), .int .u64 (d16 x 13 : Nat), .int .u64 (d16 x 14 : Nat), .int .u64 (d16 x 15 : Nat)]] w fun e w' => e = .returned (.bool (decide (x < Pq))) ∧ Below w.heap.size w w' := by
  have HT := Lib.hid (top16 x hx)
  clear hx
  go_enter Try.func99, Try.ntmps99
  go_upto_region 2 with (go_at_call 90; go_must (refine (rprime_any _).mono ?_; rintro e w1 ⟨rfl, hb⟩; have hA := (Blk.new w #[.int .u64 (d16 x 0 : Nat),.int .u64 (d16 x 1 : Nat),.int .u64 (d16 x 2 : Nat),.int .u64 (d16 x 3 : Nat),.int .u64 (d16 x 4 : Nat),.int .u64 (d16 x 5 : Nat),.int .u64 (d16 x 6 : Nat),.int .u64 (d16 x 7 : Nat),.int .u64 (d16 x 8 : Nat),.int .u64 (d16 x 9 : Nat),.int .u64 (d16 x 10 : Nat),.int .u64 (d16 x 11 : Nat),.int .u64 (d16 x 12 : Nat),.int .u64 (d16 x 13 : Nat),.int .u64 (d16 x 14 : Nat),.int .u64 (d16 x 15 : Nat)] 34).below' hb; have hbel : Below w.heap.size w w1 := Below.call (by repeat (first | (with_reducible refine Below.alloc' ?_ _) | (with_reducible refine Below.drew ?_) | (with_reducible refine below_drewN ?_ _) | ((with_reducible refine Below.setCell ?_ ?_ _); rotate_left; (focus (first | exact Nat.le_refl _ | (simp; done) | (simp; omega)))) | (with_reducible assumption) | (with_reducible exact Below.refl _ _))) hb; clear hb))
  refine wp_gen (fun W => Blk W w.heap.size (row 16 (fV (d16 x))) 34 ∧ Blk W w1.heap.size (row 16 (fV primeF)) 34 ∧ Below w.heap.size w W) ?_ (fun W0 hW => ?_)
  · rw [row16, row16]
    exact ⟨hA.alloc _, Blk.new w1 _ _, (by repeat (first | (with_reducible refine Below.alloc' ?_ _) | (with_reducible refine Below.drew ?_) | (with_reducible refine below_drewN ?_ _) | ((with_reducible refine Below.setCell ?_ ?_ _); rotate_left; (focus (first | exact Nat.le_refl _ | (simp; done) | (simp; omega)))) | (with_reducible assumption) | (with_reducible exact Below.refl _ _)))⟩
  clear hA hbel
  generalize w1.heap.size = g at *
  obtain ⟨hA, hP, hbel⟩ := hW
  clear w1
  go_wp2
  go_loopw [4] (fun i wr => ∃ k : Nat, k ≤ 16 ∧ i = .int .i64 ((k : Int) - 1) ∧ x / 65536 ^ k = Pq / 65536 ^ k ∧ Blk wr w.heap.size (row 16 (fV (d16 x))) 34 ∧ Blk wr g (row 16 (fV primeF)) 34 ∧ Below w.heap.size w wr) (fun i _ => (intOf i + 1).toNat)
  case atStart => exact ⟨16, by omega, rfl, HT.out, hA, hP, hbel⟩
  case round =>
    clear hA hP hbel W0
    obtain ⟨k, hk, rfl, hq, hA, hP, hbel⟩ := hrel
    by_cases hk0 : k = 0
    · subst hk0
      rw [Nat.pow_zero, Nat.div_one, Nat.div_one] at hq
      have HD : Hid (decide (x < Pq) = false) := Lib.hid (by rw [hq]; simp)
      clear hq hA hP
      rw [show (((0 : Nat) : Int) - 1) = -1 from rfl]
      go_wp2
      go_ret
      exact ⟨ret_bool HD.out.symm, hbel⟩
    · obtain ⟨j, rfl⟩ : ∃ j, k = j + 1 := ⟨k - 1, by omega⟩
      rw [show (((j + 1 : Nat) : Int) - 1) = (j : Int) from by omega]
      have hj : j < 16 := by omega
      have ca : wr.cell? ⟨w.heap.size, j, none⟩ = some (.int .u64 (d16 x j : Nat)) := hA.at hj
      have cp : wr.cell? ⟨g, j, none⟩ = some (.int .u64 (d16 Pq j : Nat)) := by have := hP.at hj; rw [this]; unfold fV; rw [primeF_d16 ⟨j, hj⟩]
      have HA := Lib.hid hA; have HP := Lib.hid hP; have HQ := Lib.hid hq
      clear hA hP hq
      by_cases he : d16 x j = d16 Pq j
      · have HE := Lib.hid (same16 x Pq j HQ.out he)
        have hne : ((d16 x j : Nat) != (d16 Pq j : Nat)) = false := by simp [he]
        have hneI : (((d16 x j : Nat) : Int) != ((d16 Pq j : Nat) : Int)) = false := by simp [he]
        generalize ((d16 x j : Nat) : Int) = A at *
        generalize ((d16 Pq j : Nat) : Int) = B at *
        clear he hne
        go_wp2
        go_region
        go_wp2
        go_roundw
        case rel => exact ⟨j, by omega, rfl, HE.out, HA.out, HP.out, (by repeat (first | (with_reducible refine Below.alloc' ?_ _) | (with_reducible refine Below.drew ?_) | (with_reducible refine below_drewN ?_ _) | ((with_reducible refine Below.setCell ?_ ?_ _); rotate_left; (focus (first | exact Nat.le_refl _ | (simp; done) | (simp; omega)))) | (with_reducible assumption) | (with_reducible exact Below.refl _ _)))⟩
        case measure => simp [intOf] <;> omega
      · have HE := Lib.hid (less16 x Pq j HQ.out he)
        have hneI : (((d16 x j : Nat) : Int) != ((d16 Pq j : Nat) : Int)) = true := by simp; omega
        have hlt : decide (((d16 x j : Nat) : Int) < ((d16 Pq j : Nat) : Int)) = decide (d16 x j < d16 Pq j) := by simp
        obtain ⟨q, hq⟩ : ∃ q, decide (x < Pq) = q := ⟨_, rfl⟩
        rw [hq] at HE
        rw [← HE.out] at hlt
        have HF := Lib.hid hq
        generalize ((d16 x j : Nat) : Int) = A at *
        generalize ((d16 Pq j : Nat) : Int) = B at *
        clear he hq HE
        go_wp2
        go_region
        go_wp2
        go_region
        go_wp2
        go_ret
        exact ⟨ret_bool HF.out.symm, (by repeat (first | (with_reducible refine Below.alloc' ?_ _) | (with_reducible refine Below.drew ?_) | (with_reducible refine below_drewN ?_ _) | ((with_reducible refine Below.setCell ?_ ?_ _); rotate_left; (focus (first | exact Nat.le_refl _ | (simp; done) | (simp; omega)))) | (with_reducible assumption) | (with_reducible exact Below.refl _ _)))⟩
end Go.Proofs.Ytjchdhpijopikaa
namespace Go.Proofs.Ytjchdhpijopikaa
open Go.RowKit
theorem one_row (n : Nat) (f : Nat → Nat) : ∀ v ∈ row n (fV f), v.oneCell' = true := fun v hv => by
  simp [row] at hv
  obtain ⟨i, _, rfl⟩ := hv
  rfl
/-- The same, the world behind it named. -/
theorem st_row {B n : Nat} {w0 w : World} {g E : Nat} {old : List Value} (h : Blk w g old E) (hl : old.length = n) (hb : Below B w0 w) (hg : B ≤ g) (f : Nat → Nat) :
    ∃ W, (storeCells ⟨g, 0, none⟩ (row n (fV f))).run Try.prog w = .ok () W ∧ Blk W g (row n (fV f)) E ∧ Below B w0 W ∧ W.heap.size = w.heap.size ∧ ∀ k E' cs, k ≠ g → Blk w k cs E' → Blk W k cs E' :=
  ⟨_, st_blk h (by rw [row_len, hl]) (one_row n f), h.row _, below_setRow hb hg _, size_setRow _ _ _, fun _ _ _ hk hB => hB.rowOther _ hk _⟩
theorem infoFe (f : Nat → Nat) : (Try.prog.info? 34).map (·.size) = some (row 16 (fV f)).length := by rw [row_len]; kernel_rfl
theorem infoFeA (f : Nat → Nat) : (Try.prog.info? 34).map (·.size) = some (row 16 (fV f)).toArray.size := by rw [List.size_toArray]; exact infoFe f
/-- Storing a row of 16 into a new variable. -/
theorem st_new (w : World) (f : Nat → Nat) : (storeCells ⟨w.heap.size, 0, none⟩ (row 16 (fV f))).run Try.prog (w.alloc (.cells #[.int .u64 0, .int .u64 0, .int .u64 0, .int .u64 0, .int .u64 0, .int .u64 0, .int .u64 0, .int .u64 0, .int .u64 0, .int .u64 0, .int .u64 0, .int .u64 0, .int .u64 0, .int .u64 0, .int .u64 0, .int .u64 0] 34)) = .ok () (w.alloc (.cells (row 16 (fV f)).toArray 34)) := by
  have h := st_blk (Blk.new w #[.int .u64 0, .int .u64 0, .int .u64 0, .int .u64 0, .int .u64 0, .int .u64 0, .int .u64 0, .int .u64 0, .int .u64 0, .int .u64 0, .int .u64 0, .int .u64 0, .int .u64 0, .int .u64 0, .int .u64 0, .int .u64 0] 34) (cs := row 16 (fV f)) rfl (one_row 16 f)
  rw [World.setRow_alloc_new] at h
  exact h
end Go.Proofs.Ytjchdhpijopikaa
namespace Go.Proofs.Ytjchdhpijopikaa
open Go.RowKit
theorem rleastB (x : Nat) (hx : x < 65536 ^ 16) (b : Bool) (hp : decide (x < Pq) = b) (w : World) : Calls Try.prog 99 #[.agg (row 16 (fV (d16 x))).toArray] w fun e w' => e = .returned (.bool b) ∧ Below w.heap.size w w' := by
  refine (rleast_any x hx w).mono ?_
  rintro e w' ⟨rfl, hb⟩
  exact ⟨ret_bool hp, hb⟩
theorem rprimeA (w : World) : Calls Try.prog 90 #[] w fun e w' => e = .returned (.agg (row 16 (fV primeF)).toArray) ∧ Below w.heap.size w w' := rprime_any w
def it3 (f : Nat → Nat) : Nat → Nat → Nat
  | 0 => f
  | k + 1 => rnd16 (it3 f k)
theorem it3_three (f : Nat → Nat) : it3 f 3 = fin16 f := rfl
theorem it3_le (f : Nat → Nat) (h : ∀ i, f i ≤ 17592186044416) : ∀ k i, it3 f k i ≤ 17592186044416
  | 0, i => h i
  | k + 1, i => by
    have hn := rnd16_nr (it3 f k) _ (cr16_lt (it3 f k) _ (it3_le f h k) 16)
    show rnd16 (it3 f k) i ≤ _
    by_cases e : i = 0
    · subst e; have := hn.z; omega
    · have := hn.r i (by omega); omega
/-- The row, the first j limbs carried. -/
def pV (g : Nat → Nat) (j i : Nat) : Nat := if i < j then pas16 g i else g i
theorem pV_zero (g : Nat → Nat) : row 16 (fV (pV g 0)) = row 16 (fV g) := row_ext fun i _ => by simp [fV, pV]
theorem pV_full (g : Nat → Nat) : row 16 (fV (pV g 16)) = row 16 (fV (pas16 g)) := row_ext fun i hi => by simp [fV, pV, hi]
theorem pV_step (g : Nat → Nat) (j : Nat) : (row 16 (fV (pV g j))).set j (.int .u64 (pas16 g j : Nat)) = row 16 (fV (pV g (j + 1))) := by
  refine row_set j _ (by simp [fV, pV]) (fun i _ hi => ?_)
  unfold fV pV
  by_cases h : i < j
  · rw [if_pos h, if_pos (by omega)]
  · rw [if_neg h, if_neg (by omega)]
theorem and16 (x : Nat) (h : x < 18446744073709551616) : bits BinOp.and IntKind.u64 (x : Int) 65535 = ((x % 65536 : Nat) : Int) := by
  rw [show (65535 : Int) = ((65535 : Nat) : Int) from rfl, u64_and_nat x 65535 h (by omega), show x &&& 65535 = x % 65536 from Nat.and_two_pow_sub_one_eq_mod x 16]
theorem and15 (x : Nat) (h : x < 18446744073709551616) : bits BinOp.and IntKind.u64 (x : Int) 32767 = ((x % 32768 : Nat) : Int) := by
  rw [show (32767 : Int) = ((32767 : Nat) : Int) from rfl, u64_and_nat x 32767 h (by omega), show x &&& 32767 = x % 32768 from Nat.and_two_pow_sub_one_eq_mod x 15]
theorem step16 (g : Nat → Nat) (j : Nat) (h : g j + cr16 g j < 18446744073709551616) :
    ∃ s : Nat, IntKind.u64.wrap ((g j : Nat) + (cr16 g j : Nat) : Int) = (s : Int) ∧ bits BinOp.and IntKind.u64 (s : Int) 65535 = (pas16 g j : Nat) ∧ (s : Int) / 65536 = (cr16 g (j + 1) : Nat) := by
  refine ⟨g j + cr16 g j, by rw [wrapU]; omega, ?_, ?_⟩
  · rw [and16 _ h]; rfl
  · rw [cr16]; omega
theorem rnd_row (g : Nat → Nat) : ((row 16 (fV (pas16 g))).set 0 (.int .u64 (rnd16 g 0 : Nat))).set 15 (.int .u64 (rnd16 g 15 : Nat)) = row 16 (fV (rnd16 g)) := by
  apply List.ext_getElem
  · simp [row]
  · intro i h1 h2
    have hi : i < 16 := by simpa [row] using h2
    rw [List.getElem_set, List.getElem_set]
    by_cases e : 15 = i
    · subst e; rw [if_pos rfl]; simp [row, fV]
    · rw [if_neg e]
      by_cases e0 : 0 = i
      · subst e0; rw [if_pos rfl]; simp [row, fV]
      · rw [if_neg e0]
        simp only [row, List.getElem_map, List.getElem_range, fV]
        congr 2
        simp only [rnd16, if_neg (show ¬ i = 0 by omega), if_neg (show ¬ i = 15 by omega)]
theorem rnd_facts (g : Nat → Nat) (h : ∀ i, g i ≤ 17592186044416) : ∃ m1 m2 q m3 : Nat,
    IntKind.u64.wrap (38 * ((cr16 g 16 : Nat) : Int)) = (m1 : Int) ∧ IntKind.u64.wrap (((pas16 g 0 : Nat) : Int) + (m1 : Int)) = (m2 : Int) ∧ ((pas16 g 15 : Nat) : Int) / 32768 = (q : Int) ∧
    IntKind.u64.wrap (19 * (q : Int)) = (m3 : Int) ∧ IntKind.u64.wrap ((m2 : Int) + (m3 : Int)) = (rnd16 g 0 : Nat) ∧ bits BinOp.and IntKind.u64 ((pas16 g 15 : Nat) : Int) 32767 = (rnd16 g 15 : Nat) := by
  have h1 := cr16_lt g _ h 16
  have h2 := pas16_lt g 0
  have h3 := pas16_lt g 15
  refine ⟨38 * cr16 g 16, pas16 g 0 + 38 * cr16 g 16, pas16 g 15 / 32768, 19 * (pas16 g 15 / 32768), ?_, ?_, ?_, ?_, ?_, ?_⟩
  · rw [wrapU]; omega
  · rw [wrapU]; omega
  · omega
  · rw [wrapU]; omega
  · rw [wrapU]; simp only [rnd16, if_true]; omega
  · rw [and15 _ (by omega)]; simp [rnd16]
/-- p and a little more: its limbs. -/
theorem over16 : ∀ d : Fin 19, ∀ i : Fin 16, d16 (Pq + d.val) i.val = primeF i.val + d16 d.val i.val := by decide +kernel
/-- The row, p taken off the first j limbs. -/
def qV (y d j i : Nat) : Nat := if i < j then d16 d i else d16 y i
theorem qV_zero (y d : Nat) : row 16 (fV (qV y d 0)) = row 16 (fV (d16 y)) := row_ext fun i _ => by simp [fV, qV]
theorem qV_full (y d : Nat) : row 16 (fV (qV y d 16)) = row 16 (fV (d16 d)) := row_ext fun i hi => by simp [fV, qV, hi]
theorem qV_step (y d j : Nat) : (row 16 (fV (qV y d j))).set j (.int .u64 (d16 d j : Nat)) = row 16 (fV (qV y d (j + 1))) := by
  refine row_set j _ (by simp [fV, qV]) (fun i _ hi => ?_)
  unfold fV qV
  by_cases h : i < j
  · rw [if_pos h, if_pos (by omega)]
  · rw [if_neg h, if_neg (by omega)]
theorem off16 {y d : Nat} (hd : d < 19) (hy : y = Pq + d) (j : Nat) (hj : j < 16) : ∃ s : Nat,
    IntKind.u64.wrap ((d16 y j : Nat) + 65536 : Int) = ((primeF j + s : Nat) : Int) ∧ IntKind.u64.wrap (((primeF j + s : Nat) : Int) - (primeF j : Nat)) = (s : Int) ∧ IntKind.u64.wrap (s : Int) = (s : Int) ∧ bits BinOp.and IntKind.u64 (s : Int) 65535 = (d16 d j : Nat) ∧ IntKind.u64.wrap (1 - (s : Int) / 65536) = 0 := by
  have h1 := over16 ⟨d, hd⟩ ⟨j, hj⟩
  have h2 := d16_lt d j
  have h3 := d16_lt y j
  rw [← hy] at h1
  simp only at h1
  refine ⟨65536 + d16 d j, ?_, ?_, ?_, ?_, ?_⟩
  · rw [wrapU]; omega
  · rw [wrapU]; omega
  · rw [wrapU]; omega
  · rw [and16 _ (by omega)]; omega
  · rw [wrapU]; omega
set_option maxRecDepth 100000 in
set_option maxHeartbeats 2000000 in
theorem rcarried_any (f : Nat → Nat) (h : ∀ i, f i ≤ 17592186044416) (w : World) :
    Calls Try.prog 89 #[.agg (row 16 (fV f)).toArray] w fun e w' => e = .returned (.agg (row 16 (fV (d16 (v16 f 16 % Pq)))).toArray) ∧ Below w.heap.size w w' := by
  have HLE := Lib.hid (it3_le f h)
  have hok := fin16_ok f h
  generalize v16 f 16 % Pq = R at *
  have HOK := Lib.hid hok
  clear h hok
  go_enter Try.func89, Try.ntmps89
  go_upto_region 1 with fail
  refine wp_gen (fun W => Blk W w.heap.size (row 16 (fV (it3 f 0))) 34 ∧ Blk W (w.heap.size + 1) [.int .u64 0, .int .u64 0, .int .u64 0, .int .u64 0, .int .u64 0, .int .u64 0, .int .u64 0, .int .u64 0, .int .u64 0, .int .u64 0, .int .u64 0, .int .u64 0, .int .u64 0, .int .u64 0, .int .u64 0, .int .u64 0] 34 ∧ Below w.heap.size w W) ?_ (fun W0 hW => ?_)
  · rw [row16]
    exact ⟨(Blk.new w _ _).alloc _, Blk.new' (by simp), (by repeat (first | (with_reducible refine Below.alloc' ?_ _) | (with_reducible refine Below.drew ?_) | (with_reducible refine below_drewN ?_ _) | ((with_reducible refine Below.setCell ?_ ?_ _); rotate_left; (focus (first | exact Nat.le_refl _ | (simp; done) | (simp; omega)))) | (with_reducible assumption) | (with_reducible exact Below.refl _ _)))⟩
  obtain ⟨hA, hO, hbel⟩ := hW
  go_wp2
  go_loopw [3] (fun i wr => ∃ k : Nat, k ≤ 3 ∧ i = .int .i64 k ∧ Blk wr w.heap.size (row 16 (fV (it3 f k))) 34 ∧ Blk wr (w.heap.size + 1) [.int .u64 0, .int .u64 0, .int .u64 0, .int .u64 0, .int .u64 0, .int .u64 0, .int .u64 0, .int .u64 0, .int .u64 0, .int .u64 0, .int .u64 0, .int .u64 0, .int .u64 0, .int .u64 0, .int .u64 0, .int .u64 0] 34 ∧ Below w.heap.size w wr) (fun i _ => 3 - (intOf i).toNat)
  case atStart => exact ⟨0, by omega, rfl, hA, hO, hbel⟩
  case round =>
    clear hA hO hbel W0
    obtain ⟨k, hk, rfl, hA, hO, hbel⟩ := hrel
    by_cases hlt : k < 3
    · have hd : decide ((k : Int) < 3) = true := by simp; omega
      have hle : ∀ i, it3 f k i ≤ 17592186044416 := HLE.out k
      have hcr := cr16_lt (it3 f k) _ hle
      obtain ⟨g, hg⟩ : ∃ g, g = it3 f k := ⟨_, rfl⟩
      rw [← hg] at hle hcr hA
      have HG : Hid (it3 f (k + 1) = rnd16 g) := Lib.hid (by rw [hg]; rfl)
      have HS := Lib.hid (fun j => step16 g j (by have := hle j; have := hcr j; omega))
      have HF := Lib.hid (rnd_facts g hle)
      clear hg hle hcr
      obtain ⟨wo, rfl⟩ : ∃ wo : World, wo = wr := ⟨_, rfl⟩
      go_wp2
      go_loopw [4, 5] (fun c i wr => ∃ j : Nat, j ≤ 16 ∧ i = .int .i64 j ∧ c = .int .u64 (cr16 g j : Nat) ∧ Blk wr w.heap.size (row 16 (fV (pV g j))) 34 ∧ Blk wr (w.heap.size + 1) [.int .u64 0, .int .u64 0, .int .u64 0, .int .u64 0, .int .u64 0, .int .u64 0, .int .u64 0, .int .u64 0, .int .u64 0, .int .u64 0, .int .u64 0, .int .u64 0, .int .u64 0, .int .u64 0, .int .u64 0, .int .u64 0] 34 ∧ Below w.heap.size w wr) (fun _ i _ => 16 - (intOf i).toNat)
      case atStart => exact ⟨0, by omega, rfl, rfl, by rw [pV_zero]; exact hA, hO, hbel⟩
      case round =>
        clear hA hO hbel
        obtain ⟨j, hj, rfl, rfl, hA, hO, hbel⟩ := hrel
        by_cases hlj : j < 16
        · obtain ⟨s, hs, ha, hd2⟩ := HS.out j
          have hcell : wr.cell? ⟨w.heap.size, j, none⟩ = some (.int .u64 (g j : Nat)) := by have := hA.at hlj; rw [this]; simp [fV, pV]
          have hfr := hA.frozen j
          have hA2 := hA.set j (.int .u64 (pas16 g j : Nat))
          rw [pV_step] at hA2
          have HA := Lib.hid hA2
          have HO := Lib.hid (hO.other ⟨w.heap.size, j, none⟩ (by simp) (.int .u64 (pas16 g j : Nat)))
          have HD := Lib.hid hd2
          clear hA hA2 hO hd2
          go_wp2
          go_roundw
          case rel => exact ⟨j + 1, by omega, by go_num, by rw [HD.out], HA.out, HO.out, (by repeat (first | (with_reducible refine Below.alloc' ?_ _) | (with_reducible refine Below.drew ?_) | (with_reducible refine below_drewN ?_ _) | ((with_reducible refine Below.setCell ?_ ?_ _); rotate_left; (focus (first | exact Nat.le_refl _ | (simp; done) | (simp; omega)))) | (with_reducible assumption) | (with_reducible exact Below.refl _ _)))⟩
          case measure => simp [intOf]; omega
        · obtain rfl : j = 16 := by omega
          rw [pV_full] at hA
          obtain ⟨m1, m2, q, m3, f1, f2, f3, f4, f5, f6⟩ := HF.out
          have c0 : wr.cell? ⟨w.heap.size, 0, none⟩ = some (.int .u64 (pas16 g 0 : Nat)) := hA.at (by omega)
          have c15 : wr.cell? ⟨w.heap.size, 15, none⟩ = some (.int .u64 (pas16 g 15 : Nat)) := hA.at (by omega)
          have hfr := hA.frozen
          have hA2 := (hA.set 0 (.int .u64 (rnd16 g 0 : Nat))).set 15 (.int .u64 (rnd16 g 15 : Nat))
          rw [rnd_row] at hA2
          have HA := Lib.hid hA2
          have HO := Lib.hid ((hO.other ⟨w.heap.size, 0, none⟩ (by simp) (.int .u64 (rnd16 g 0 : Nat))).other ⟨w.heap.size, 15, none⟩ (by simp) (.int .u64 (rnd16 g 15 : Nat)))
          clear hA hA2 hO hlj hj
          go_wp2
          go_roundw
          case rel => exact ⟨k + 1, by omega, by go_num, by rw [HG.out]; exact HA.out, HO.out, (by repeat (first | (with_reducible refine Below.alloc' ?_ _) | (with_reducible refine Below.drew ?_) | (with_reducible refine below_drewN ?_ _) | ((with_reducible refine Below.setCell ?_ ?_ _); rotate_left; (focus (first | exact Nat.le_refl _ | (simp; done) | (simp; omega)))) | (with_reducible assumption) | (with_reducible exact Below.refl _ _)))⟩
          case measure => simp [intOf]; omega
    · obtain rfl : k = 3 := by omega
      obtain ⟨hcn, hmod⟩ := HOK.out
      rw [it3_three] at hA
      have hlt2 := hcn.lt
      have hrow : row 16 (fV (fin16 f)) = row 16 (fV (d16 (v16 (fin16 f) 16))) := row_ext fun i hi => by
        unfold fV; rw [d16_of (fin16 f) hcn.r 16 i hi]
      rw [hrow] at hA
      have HR := Lib.hid hmod
      clear hmod
      have HOK2 := HOK
      clear HOK HOK2
      generalize v16 (fin16 f) 16 = y at *
      clear hrow hcn hlt hk HLE
      have HL2 := Lib.hid hlt2
      have HY : Hid (y < 65536 ^ 16) := Lib.hid (Nat.lt_trans hlt2 (by decide +kernel))
      go_wp2
      go_loopg [9] 1 (fun n u wr => ∃ z : Nat, z < 65536 ^ 16 ∧ z % Pq = R ∧ ((n = 1 ∧ ∃ d, d < 19 ∧ z = Pq + d) ∨ z < Pq) ∧ Blk wr w.heap.size (row 16 (fV (d16 z))) 34 ∧ Blk wr (w.heap.size + 1) [.int .u64 0, .int .u64 0, .int .u64 0, .int .u64 0, .int .u64 0, .int .u64 0, .int .u64 0, .int .u64 0, .int .u64 0, .int .u64 0, .int .u64 0, .int .u64 0, .int .u64 0, .int .u64 0, .int .u64 0, .int .u64 0] 34 ∧ Below w.heap.size w wr)
      case atStart =>
        by_cases hp : y < Pq
        · exact ⟨y, HY.out, HR.out, .inr hp, hA, hO, hbel⟩
        · refine ⟨y, HY.out, HR.out, .inl ⟨rfl, y - Pq, ?_, ?_⟩, hA, hO, hbel⟩
          · have := HL2.out; unfold Pq at *; omega
          · omega
      case round =>
        clear hA hO hbel
        obtain ⟨z, hz, hzR, hcase, hA, hO, hbel⟩ := hrel
        have hAr := hA.range
        have HA := Lib.hid hA; have HO := Lib.hid hO
        have HZ := Lib.hid hz; have HZR := Lib.hid hzR
        clear hA hO hz hzR HL2 HR HY
        by_cases hp : z < Pq
        · have HD : Hid (decide (z < Pq) = true) := Lib.hid (decide_eq_true hp)
          have HM : Hid (R = z) := Lib.hid (by rw [← HZR.out, Nat.mod_eq_of_lt hp])
          clear hp hcase
          go_wp2_with (first | (refine wpList_load_mid rfl 34 (.tmp 1) rfl w.heap.size 0 rfl (row 16 (fV (d16 z))) _ hAr Try.underlying34 rfl (infoFe _) ?_) | (go_at_call 99; (with_reducible refine (rleastB z HZ.out _ HD.out _).mono ?_; rintro e w2 ⟨rfl, hb⟩; obtain ⟨W3, hst3, hB3, hbel3, _, _⟩ := st_row (n := 16) (HO.out.below' hb) rfl (Below.call hbel hb) (Nat.le_succ _) (d16 z); have hA2 := HA.out.below' hb; clear hAr hb; have hAr := hA2.range; have HB3 := Lib.hid hB3; clear hA2 hB3)))
          refine bodyPost_ret (v := .agg (row 16 (fV (d16 z))).toArray) (results_cell_row Try.results89 _ _ (w.heap.size + 1) _ _ _ _ ?_ HB3.out Try.underlying34 ?_ (infoFeA _)) ?_ ?_
          · rfl
          · rfl
          · rfl
          · exact ⟨by rw [HM.out], hbel3⟩
        · obtain ⟨hgk, d, hd19, hy2⟩ : gk = 1 ∧ ∃ d, d < 19 ∧ z = Pq + d := by
            rcases hcase with ⟨h1, h2⟩ | h2
            · exact ⟨h1, h2⟩
            · exact absurd h2 hp
          have HGK := Lib.hid hgk
          have HD : Hid (decide (z < Pq) = false) := Lib.hid (decide_eq_false hp)
          have HD2 : Hid (d < Pq) := Lib.hid (by unfold Pq; omega)
          have HM : Hid (d % Pq = R) := Lib.hid (by rw [← HZR.out, hy2, Nat.add_mod_left])
          have HDL : Hid (d < 65536 ^ 16) := Lib.hid (Nat.lt_trans hd19 (by decide +kernel))
          have HOF := Lib.hid (fun j hj => off16 hd19 hy2 j hj)
          clear hp hd19 hy2 hcase HZR hgk
          have hSN := fun W => st_new W primeF
          go_upto_region 15 with (first | (refine wpList_load_mid rfl 34 (.tmp 1) rfl w.heap.size 0 rfl (row 16 (fV (d16 z))) _ hAr Try.underlying34 rfl (infoFe _) ?_) | (go_at_call 99; (with_reducible refine (rleastB z HZ.out _ HD.out _).mono ?_; rintro e w2 ⟨rfl, hb⟩; have HO2 := Lib.hid (HO.out.below' hb); have HA2 := Lib.hid (HA.out.below' hb); have hbel2 := Below.call hbel hb; clear hAr hb)) | (go_at_call 90; (with_reducible refine (rprimeA _).mono ?_; rintro e w3 ⟨rfl, hb⟩; have HO3 := Lib.hid (HO2.out.below' hb); have HA3 := Lib.hid (HA2.out.below' hb); have hbel3 := Below.call hbel2 hb; clear hb)))
          refine wp_gen (fun W => Blk W w.heap.size (row 16 (fV (d16 z))) 34 ∧ Blk W (w.heap.size + 1) [.int .u64 0, .int .u64 0, .int .u64 0, .int .u64 0, .int .u64 0, .int .u64 0, .int .u64 0, .int .u64 0, .int .u64 0, .int .u64 0, .int .u64 0, .int .u64 0, .int .u64 0, .int .u64 0, .int .u64 0, .int .u64 0] 34 ∧ Blk W w3.heap.size (row 16 (fV primeF)) 34 ∧ Below w.heap.size w W) ?_ (fun W0 hW => ?_)
          · exact ⟨HA3.out.alloc _, HO3.out.alloc _, Blk.new w3 _ _, (by repeat (first | (with_reducible refine Below.alloc' ?_ _) | (with_reducible refine Below.drew ?_) | (with_reducible refine below_drewN ?_ _) | ((with_reducible refine Below.setCell ?_ ?_ _); rotate_left; (focus (first | exact Nat.le_refl _ | (simp; done) | (simp; omega)))) | (with_reducible assumption) | (with_reducible exact Below.refl _ _)))⟩
          have hg0 : w.heap.size < w3.heap.size := HA3.out.lt
          clear HA3 HO3 hbel3 HO2 HA2 hbel2 HA HO hbel hSN
          obtain ⟨hA, hO, hP, hbel⟩ := hW
          generalize w3.heap.size = g at *
          clear w3 w2 wr
          go_wp2
          go_loopw [8, 9] (fun c i wr => ∃ j : Nat, j ≤ 16 ∧ i = .int .i64 j ∧ c = .int .u64 0 ∧ Blk wr w.heap.size (row 16 (fV (qV z d j))) 34 ∧ Blk wr (w.heap.size + 1) [.int .u64 0, .int .u64 0, .int .u64 0, .int .u64 0, .int .u64 0, .int .u64 0, .int .u64 0, .int .u64 0, .int .u64 0, .int .u64 0, .int .u64 0, .int .u64 0, .int .u64 0, .int .u64 0, .int .u64 0, .int .u64 0] 34 ∧ Blk wr g (row 16 (fV primeF)) 34 ∧ g ≠ w.heap.size ∧ Below w.heap.size w wr) (fun _ i _ => 16 - (intOf i).toNat)
          case atStart => exact ⟨0, by omega, rfl, rfl, by rw [qV_zero]; exact hA, hO, hP, Nat.ne_of_gt hg0, hbel⟩
          case round =>
            clear hA hO hbel hP hg0
            obtain ⟨j, hj, rfl, rfl, hA, hO, hP, hne, hbel⟩ := hrel
            by_cases hlj : j < 16
            · obtain ⟨s, s1, s2, s3, s4, s5⟩ := HOF.out j hlj
              have ca : wr.cell? ⟨w.heap.size, j, none⟩ = some (.int .u64 (d16 z j : Nat)) := by have := hA.at hlj; rw [this]; simp [fV, qV]
              have cp : wr.cell? ⟨g, j, none⟩ = some (.int .u64 (primeF j : Nat)) := hP.at hlj
              obtain ⟨t, ht⟩ : ∃ t, t = primeF j + s := ⟨_, rfl⟩
              rw [← ht] at s1 s2
              have hfr := hA.frozen j
              have hA2 := hA.set j (.int .u64 (d16 d j : Nat))
              rw [qV_step] at hA2
              have HA := Lib.hid hA2
              have HO := Lib.hid (hO.other ⟨w.heap.size, j, none⟩ (by simp) (.int .u64 (d16 d j : Nat)))
              have HP := Lib.hid (hP.other ⟨w.heap.size, j, none⟩ (by simpa using Ne.symm hne) (.int .u64 (d16 d j : Nat)))
              have HN := Lib.hid hne
              clear hA hA2 hO hP ht hne
              go_wp2
              go_region
              go_wp2
              go_roundw
              case rel => exact ⟨j + 1, by omega, by go_num, rfl, HA.out.drew, HO.out.drew, HP.out.drew, HN.out, (by repeat (first | (with_reducible refine Below.alloc' ?_ _) | (with_reducible refine Below.drew ?_) | (with_reducible refine below_drewN ?_ _) | ((with_reducible refine Below.setCell ?_ ?_ _); rotate_left; (focus (first | exact Nat.le_refl _ | (simp; done) | (simp; omega)))) | (with_reducible assumption) | (with_reducible exact Below.refl _ _)))⟩
              case measure => simp [intOf]; omega
            · obtain rfl : j = 16 := by omega
              rw [qV_full] at hA
              have HA := Lib.hid hA; have HO := Lib.hid hO
              clear hA hO hP hlj hj
              go_wp2
              go_roundg 0
              case rel => exact ⟨d, HDL.out, HM.out, .inr HD2.out, HA.out, HO.out, hbel⟩
              case measure => have := HGK.out; omega
end Go.Proofs.Ytjchdhpijopikaa
namespace Go.Proofs.Ytjchdhpijopikaa
open Go.RowKit
/-- The number of a row of bytes. -/
def v8 (f : Nat → Nat) : Nat → Nat
  | 0 => 0
  | n + 1 => v8 f n + f n * 256 ^ n
theorem v8_leN (l : List UInt8) : ∀ n, n ≤ l.length → v8 (byF l) n = leN (l.take n)
  | 0, _ => by simp [v8, leN]
  | n + 1, h => by
    rw [leN_take l n (by omega), v8, v8_leN l n (by omega)]
    simp [byF, show n < l.length from by omega]
theorem v8_congr {f g : Nat → Nat} : ∀ n, (∀ i, i < n → f i = g i) → v8 f n = v8 g n
  | 0, _ => rfl
  | n + 1, h => by simp only [v8]; rw [v8_congr n (fun i hi => h i (by omega)), h n (by omega)]
theorem v8_lt (f : Nat → Nat) (h : ∀ i, f i < 256) : ∀ n, v8 f n < 256 ^ n
  | 0 => by simp [v8]
  | n + 1 => by
    have ih := v8_lt f h n
    have h1 := h n
    have h2 : f n * 256 ^ n ≤ 255 * 256 ^ n := Nat.mul_le_mul_right _ (by omega)
    simp only [v8, Nat.pow_succ]
    omega
def two (f : Nat → Nat) (i : Nat) : Nat := f (2 * i) + 256 * f (2 * i + 1)
theorem v16_two (f : Nat → Nat) : ∀ n, v16 (two f) n = v8 f (2 * n)
  | 0 => rfl
  | n + 1 => by
    show v16 (two f) n + two f n * 65536 ^ n = v8 f (2 * n) + f (2 * n) * 256 ^ (2 * n) + f (2 * n + 1) * 256 ^ (2 * n + 1)
    rw [v16_two f n, Nat.pow_succ, Nat.pow_mul, show 256 ^ 2 = 65536 from rfl, two]
    grind
/-- The highest bit of 32 bytes put out. -/
def msk (f : Nat → Nat) (i : Nat) : Nat := if i = 31 then f 31 % 128 else f i
theorem msk_lt {f : Nat → Nat} (h : ∀ i, f i < 256) (i : Nat) : msk f i < 256 := by
  unfold msk; have := h i; have := h 31; split <;> omega
theorem v8_msk (f : Nat → Nat) (h : ∀ i, f i < 256) : v8 (msk f) 32 = v8 f 32 % 57896044618658097711785492504343953926634992332820282019728792003956564819968 := by
  have e : v8 (msk f) 31 = v8 f 31 := v8_congr 31 fun i hi => by unfold msk; rw [if_neg (by omega)]
  have h1 : v8 f 31 < 452312848583266388373324160190187140051835877600158453279131187530910662656 := v8_lt f h 31
  show v8 (msk f) 31 + msk f 31 * 256 ^ 31 = (v8 f 31 + f 31 * 256 ^ 31) % _
  rw [e]
  simp only [msk, if_true]
  have h2 := h 31
  generalize v8 f 31 = A at *
  generalize f 31 = b at *
  simp only [show (256 : Nat) ^ 31 = 452312848583266388373324160190187140051835877600158453279131187530910662656 from by decide +kernel]
  omega
theorem feF_two (l : List UInt8) : v16 (two (msk (byF (first l 32)))) 16 % Pq = (feF l).val := by
  rw [v16_two, v8_msk _ (byF_lt _), v8_leN _ _ (by rw [first_len]; omega), List.take_of_length_le (by rw [first_len]; omega)]
  rfl
theorem msk_row (f : Nat → Nat) : (row 32 (uV f)).set 31 (.int .u8 (msk f 31 : Nat)) = row 32 (uV (msk f)) :=
  row_set 31 _ rfl (fun i _ hi => by simp only [uV, msk, if_neg hi])
theorem and7 (x : Nat) (h : x < 256) : bits BinOp.and IntKind.u8 (x : Int) 127 = ((x % 128 : Nat) : Int) := by
  revert h; revert x; decide +kernel
theorem lim_or (x y : Nat) (hx : x < 256) (hy : y < 256) : bits BinOp.or IntKind.u64 (x : Int) ((y : Int) * 256) = ((x + 256 * y : Nat) : Int) := by
  rw [show ((y : Int) * 256) = ((y * 256 : Nat) : Int) from by simp, u64_or_nat _ _ (by omega) (by omega)]
  have h4 := Nat.shiftLeft_add_eq_or_of_lt (show x < 2 ^ 8 from hx) y
  rw [Nat.shiftLeft_eq] at h4
  rw [Nat.or_comm, ← h4, Nat.add_comm, Nat.mul_comm]
/-- The first j limbs done, the others nought. -/
def upV (f : Nat → Nat) (j i : Nat) : Nat := if i < j then f i else 0
theorem upV_full (n : Nat) (f : Nat → Nat) : row n (fV (upV f n)) = row n (fV f) := row_ext fun i hi => by simp [fV, upV, hi]
theorem upV_step (n : Nat) (f : Nat → Nat) (j : Nat) : (row n (fV (upV f j))).set j (.int .u64 (f j : Nat)) = row n (fV (upV f (j + 1))) := by
  refine row_set j _ (by simp [fV, upV]) (fun i _ hi => ?_)
  unfold fV upV
  by_cases h : i < j
  · rw [if_pos h, if_pos (by omega)]
  · rw [if_neg h, if_neg (by omega)]
theorem two_le {f : Nat → Nat} (h : ∀ i, f i < 256) (i : Nat) : two f i ≤ 17592186044416 := by
  unfold two; have := h (2 * i); have := h (2 * i + 1); omega
set_option maxRecDepth 100000 in
set_option maxHeartbeats 1000000 in
theorem rofM {a : Option Addr} {n cap : Nat} {l : List UInt8} (w : World) (h : RdB w a n cap l) :
    Calls Try.prog 88 #[.slice a n cap] w fun e w' => e = .returned (.agg (row 16 (fV (d16 (feF l).val))).toArray) ∧ Below w.heap.size w w' := by
  have HV := Lib.hid (feF_two l)
  have hfl := bytes_row (first l 32) 32 (first_len _ _)
  have hlt := byF_lt (first l 32)
  have HR := Lib.hid hfl
  clear hfl
  generalize byF (first l 32) = f at *
  have HF := Lib.hid (msk_lt hlt)
  have h31 : (0 : Int) ≤ (f 31 : Nat) := by omega
  have h31' : ((f 31 : Nat) : Int) < 256 := by have := hlt 31; omega
  have ha := and7 (f 31) (hlt 31)
  have ha2 : bits BinOp.and IntKind.u8 ((f 31 : Nat) : Int) 127 = (msk f 31 : Nat) := ha
  clear ha hlt
  have hmr := msk_row f
  generalize msk f = m at *
  have HM := Lib.hid hmr
  clear hmr
  have HT := Lib.hid (two_le HF.out)
  have HD := Lib.hid (show ∀ i, ∃ x y : Int, 0 ≤ x ∧ x < 256 ∧ 0 ≤ y ∧ y < 256 ∧ x = (m (2 * i) : Nat) ∧ y = (m (2 * i + 1) : Nat) ∧ bits BinOp.or IntKind.u64 x (y * 256) = (two m i : Nat) from fun i => by
    have h1 := HF.out (2 * i); have h2 := HF.out (2 * i + 1)
    exact ⟨_, _, by omega, by omega, by omega, by omega, rfl, rfl, lim_or _ _ h1 h2⟩)
  go_enter Try.func88, Try.ntmps88
  go_upto_region 2 with (go_at_call 73; go_must (refine (fill_any 32 (by omega) _ (h.below (by repeat (first | (with_reducible refine Below.alloc' ?_ _) | (with_reducible refine Below.drew ?_) | (with_reducible refine below_drewN ?_ _) | ((with_reducible refine Below.setCell ?_ ?_ _); rotate_left; (focus (first | exact Nat.le_refl _ | (simp; done) | (simp; omega)))) | (with_reducible assumption) | (with_reducible exact Below.refl _ _))))).mono ?_; rintro e w1 ⟨rfl, hC, hb⟩; have hO := (Blk.new w #[.int .u64 0, .int .u64 0, .int .u64 0, .int .u64 0, .int .u64 0, .int .u64 0, .int .u64 0, .int .u64 0, .int .u64 0, .int .u64 0, .int .u64 0, .int .u64 0, .int .u64 0, .int .u64 0, .int .u64 0, .int .u64 0] 34).below' hb; have hbel := Below.call (show Below w.heap.size w _ from (by repeat (first | (with_reducible refine Below.alloc' ?_ _) | (with_reducible refine Below.drew ?_) | (with_reducible refine below_drewN ?_ _) | ((with_reducible refine Below.setCell ?_ ?_ _); rotate_left; (focus (first | exact Nat.le_refl _ | (simp; done) | (simp; omega)))) | (with_reducible assumption) | (with_reducible exact Below.refl _ _)))) hb; clear hb h))
  rw [HR.out] at hC
  refine wp_gen (fun W => Blk W (w.heap.size + 1) (row 32 (uV f)) 5 ∧ Blk W w.heap.size [.int .u64 0, .int .u64 0, .int .u64 0, .int .u64 0, .int .u64 0, .int .u64 0, .int .u64 0, .int .u64 0, .int .u64 0, .int .u64 0, .int .u64 0, .int .u64 0, .int .u64 0, .int .u64 0, .int .u64 0, .int .u64 0] 34 ∧ Below w.heap.size w W) ?_ (fun W0 hW => ?_)
  · exact ⟨by simpa using hC, hO, hbel⟩
  clear hC hO hbel w1
  obtain ⟨hC, hO, hbel⟩ := hW
  have c31 : W0.cell? ⟨w.heap.size + 1, 31, none⟩ = some (.int .u8 (f 31 : Nat)) := hC.at (by omega)
  have f31 := hC.frozen 31
  have hC2 := hC.set 31 (.int .u8 (m 31 : Nat))
  rw [HM.out] at hC2
  have HC := Lib.hid hC2
  have HO := Lib.hid (hO.other ⟨w.heap.size + 1, 31, none⟩ (by simp) (.int .u8 (m 31 : Nat)))
  clear hC hO hC2
  go_upto_region 4 with fail
  have hq : w.heap.size + 1 < W0.heap.size := by have := HC.out.lt; simpa using this
  refine wp_gen (fun W => Blk W (w.heap.size + 1) (row 32 (uV m)) 5 ∧ Blk W w.heap.size [.int .u64 0, .int .u64 0, .int .u64 0, .int .u64 0, .int .u64 0, .int .u64 0, .int .u64 0, .int .u64 0, .int .u64 0, .int .u64 0, .int .u64 0, .int .u64 0, .int .u64 0, .int .u64 0, .int .u64 0, .int .u64 0] 34 ∧ Blk W W0.heap.size (row 16 (fV (upV (two m) 0))) 34 ∧ Below w.heap.size w W) ?_ (fun W1 hW => ?_)
  · exact ⟨HC.out.alloc _, HO.out.alloc _, Blk.new' (by simp), (by repeat (first | (with_reducible refine Below.alloc' ?_ _) | (with_reducible refine Below.drew ?_) | (with_reducible refine below_drewN ?_ _) | ((with_reducible refine Below.setCell ?_ ?_ _); rotate_left; (focus (first | exact Nat.le_refl _ | (simp; done) | (simp; omega)))) | (with_reducible assumption) | (with_reducible exact Below.refl _ _)))⟩
  clear HC HO hbel c31 f31 h31 h31' ha2
  generalize W0.heap.size = q at *
  obtain ⟨hC, hO, hA, hbel⟩ := hW
  clear W0
  have HQ := Lib.hid hq
  clear hq
  go_wp2
  go_loopw [5] (fun i wr => ∃ j : Nat, j ≤ 16 ∧ i = .int .i64 j ∧ Blk wr (w.heap.size + 1) (row 32 (uV m)) 5 ∧ Blk wr w.heap.size [.int .u64 0, .int .u64 0, .int .u64 0, .int .u64 0, .int .u64 0, .int .u64 0, .int .u64 0, .int .u64 0, .int .u64 0, .int .u64 0, .int .u64 0, .int .u64 0, .int .u64 0, .int .u64 0, .int .u64 0, .int .u64 0] 34 ∧ Blk wr q (row 16 (fV (upV (two m) j))) 34 ∧ Below w.heap.size w wr) (fun i _ => 16 - (intOf i).toNat)
  case atStart => exact ⟨0, by omega, rfl, hC, hO, hA, hbel⟩
  case round =>
    clear hC hO hA hbel
    obtain ⟨j, hj, rfl, hC, hO, hA, hbel⟩ := hrel
    by_cases hlj : j < 16
    · obtain ⟨x, y, hx0, hx1, hy0, hy1, hx, hy, hor⟩ := HD.out j
      obtain ⟨p, hp⟩ : ∃ p, p = 2 * j := ⟨_, rfl⟩
      have c0 : wr.cell? ⟨w.heap.size + 1, p, none⟩ = some (.int .u8 x) := by rw [hC.at (by omega), hx, hp]; rfl
      have c1 : wr.cell? ⟨w.heap.size + 1, p + 1, none⟩ = some (.int .u8 y) := by rw [hC.at (by omega), hy, hp]; rfl
      have hw1 : IntKind.i64.wrap (2 * (j : Int)) = (p : Int) := by rw [hp]; exact IntWalk.i64_in _ (by omega)
      have hw1' : 2 * (j : Int) = (p : Int) := by omega
      have hw2 : IntKind.i64.wrap ((p : Int) + 1) = ((p + 1 : Nat) : Int) := by exact IntWalk.i64_in _ (by omega)
      have hp31 : p + 1 < 32 := by omega
      have hfr := hA.frozen j
      have hA2 := hA.set j (.int .u64 (two m j : Nat))
      rw [upV_step] at hA2
      have HQ2 := HQ.out
      have HA := Lib.hid hA2
      have HC := Lib.hid (hC.other ⟨q, j, none⟩ (by simp; omega) (.int .u64 (two m j : Nat)))
      have HO := Lib.hid (hO.other ⟨q, j, none⟩ (by simp; omega) (.int .u64 (two m j : Nat)))
      have hqj : wr.cell? ⟨q, j, none⟩ = some (.int .u64 (upV (two m) j j : Nat)) := hA.at hlj
      clear hA hA2 hC hO hx hy hp
      have HB : Hid (Below w.heap.size w (wr.setCell ⟨q, j, none⟩ (.int .u64 (two m j : Nat)))) := Lib.hid (hbel.setCell (by simp; omega) _)
      clear HQ2
      go_wp2
      go_region
      go_wp2
      go_roundw
      case rel => exact ⟨j + 1, by omega, by go_num, HC.out.drew, HO.out.drew, HA.out.drew, HB.out.drew⟩
      case measure => simp [intOf]; omega
    · obtain rfl : j = 16 := by omega
      rw [upV_full] at hA
      have hAr := hA.range
      have HO := Lib.hid hO; have HA := Lib.hid hA
      clear hA hO hC hlj hj
      go_wp2_with (first | (refine wpList_load_mid rfl 34 (.tmp 4) rfl q 0 rfl (row 16 (fV (two m))) _ hAr Try.underlying34 rfl (infoFe _) ?_) | (go_at_call 89; (with_reducible refine (rcarried_any (two m) HT.out _).mono ?_; rintro e w2 ⟨rfl, hb⟩; rw [HV.out]; obtain ⟨W3, hst3, hB3, hbel3, _, _⟩ := st_row (n := 16) (HO.out.below' hb) rfl (Below.call hbel hb) (Nat.le_refl _) (d16 (feF l).val); clear hAr hb; have HB3 := Lib.hid hB3; clear hB3)))
      refine bodyPost_ret (v := .agg (row 16 (fV (d16 (feF l).val))).toArray) (results_cell_row Try.results88 _ _ w.heap.size _ _ _ _ ?_ HB3.out Try.underlying34 ?_ (infoFeA _)) ?_ ?_
      · rfl
      · rfl
      · rfl
      · exact ⟨rfl, hbel3⟩
end Go.Proofs.Ytjchdhpijopikaa
namespace Go.Proofs.Ytjchdhpijopikaa
open Go.RowKit
theorem v16_add (f g : Nat → Nat) : ∀ n, v16 (fun i => f i + g i) n = v16 f n + v16 g n
  | 0 => rfl
  | n + 1 => by simp only [v16]; rw [v16_add f g n, Nat.add_mul]; omega
theorem v16_mul (c : Nat) (f : Nat → Nat) : ∀ n, v16 (fun i => c * f i) n = c * v16 f n
  | 0 => rfl
  | n + 1 => by simp only [v16]; rw [v16_mul c f n, Nat.mul_add, Nat.mul_assoc]
theorem Pq16 {x : Nat} (h : x < Pq) : x < 65536 ^ 16 := Nat.lt_trans h (by decide +kernel)
theorem d16_v {x : Nat} (h : x < Pq) : v16 (d16 x) 16 = x := by rw [d16_val, Nat.mod_eq_of_lt (Pq16 h)]
theorem primeF_v : v16 primeF 16 = Pq := by decide +kernel
/-- The first j limbs new, the others old. -/
def mxV (f g : Nat → Nat) (j i : Nat) : Nat := if i < j then g i else f i
theorem mxV_zero (f g : Nat → Nat) (n : Nat) : row n (fV (mxV f g 0)) = row n (fV f) := row_ext fun i _ => by simp [fV, mxV]
theorem mxV_full (f g : Nat → Nat) (n : Nat) : row n (fV (mxV f g n)) = row n (fV g) := row_ext fun i hi => by simp [fV, mxV, hi]
theorem mxV_step (n : Nat) (f g : Nat → Nat) (j : Nat) : (row n (fV (mxV f g j))).set j (.int .u64 (g j : Nat)) = row n (fV (mxV f g (j + 1))) := by
  refine row_set j _ (by simp [fV, mxV]) (fun i _ hi => ?_)
  unfold fV mxV
  by_cases h : i < j
  · rw [if_pos h, if_pos (by omega)]
  · rw [if_neg h, if_neg (by omega)]
theorem mxV_at (f g : Nat → Nat) (j : Nat) : fV (mxV f g j) j = .int .u64 (f j : Nat) := by simp [fV, mxV]
def sumF (x y i : Nat) : Nat := d16 x i + d16 y i
theorem sumF_le (x y i : Nat) : sumF x y i ≤ 17592186044416 := by have := d16_lt x i; have := d16_lt y i; unfold sumF; omega
theorem sumF_v (x y : F) : v16 (sumF x.val y.val) 16 % Pq = (x + y).val := by
  rw [show sumF x.val y.val = fun i => d16 x.val i + d16 y.val i from rfl, v16_add, d16_v x.isLt, d16_v y.isLt]; rfl
set_option maxRecDepth 100000 in
set_option maxHeartbeats 1000000 in
theorem raddM (x y : F) (w : World) :
    Calls Try.prog 54 #[.agg (row 16 (fV (d16 x.val))).toArray, .agg (row 16 (fV (d16 y.val))).toArray] w fun e w' => e = .returned (.agg (row 16 (fV (d16 (x + y).val))).toArray) ∧ Below w.heap.size w w' := by
  have HV := Lib.hid (sumF_v x y)
  have HT := Lib.hid (sumF_le x.val y.val)
  generalize (x + y).val = R at *
  have HS := Lib.hid (show ∀ i, IntKind.u64.wrap ((d16 x.val i : Nat) + (d16 y.val i : Nat) : Int) = (sumF x.val y.val i : Nat) from fun i => by
    have := d16_lt x.val i; have := d16_lt y.val i; rw [wrapU]; unfold sumF; omega)
  generalize sumF x.val y.val = s at *
  generalize d16 x.val = f at *
  generalize d16 y.val = g at *
  go_enter Try.func54, Try.ntmps54
  go_upto_region 1 with fail
  refine wp_gen (fun W => Blk W w.heap.size (row 16 (fV (mxV f s 0))) 34 ∧ Blk W (w.heap.size + 1) (row 16 (fV g)) 34 ∧ Blk W (w.heap.size + 1 + 1) [.int .u64 0, .int .u64 0, .int .u64 0, .int .u64 0, .int .u64 0, .int .u64 0, .int .u64 0, .int .u64 0, .int .u64 0, .int .u64 0, .int .u64 0, .int .u64 0, .int .u64 0, .int .u64 0, .int .u64 0, .int .u64 0] 34 ∧ Below w.heap.size w W) ?_ (fun W0 hW => ?_)
  · rw [mxV_zero]
    exact ⟨((Blk.new w _ _).alloc _).alloc _, (Blk.new' (by simp)).alloc _, Blk.new' (by simp), (by repeat (first | (with_reducible refine Below.alloc' ?_ _) | (with_reducible refine Below.drew ?_) | (with_reducible refine below_drewN ?_ _) | ((with_reducible refine Below.setCell ?_ ?_ _); rotate_left; (focus (first | exact Nat.le_refl _ | (simp; done) | (simp; omega)))) | (with_reducible assumption) | (with_reducible exact Below.refl _ _)))⟩
  obtain ⟨hA, hB, hO, hbel⟩ := hW
  go_wp2
  go_loopw [5] (fun i wr => ∃ j : Nat, j ≤ 16 ∧ i = .int .i64 j ∧ Blk wr w.heap.size (row 16 (fV (mxV f s j))) 34 ∧ Blk wr (w.heap.size + 1) (row 16 (fV g)) 34 ∧ Blk wr (w.heap.size + 1 + 1) [.int .u64 0, .int .u64 0, .int .u64 0, .int .u64 0, .int .u64 0, .int .u64 0, .int .u64 0, .int .u64 0, .int .u64 0, .int .u64 0, .int .u64 0, .int .u64 0, .int .u64 0, .int .u64 0, .int .u64 0, .int .u64 0] 34 ∧ Below w.heap.size w wr) (fun i _ => 16 - (intOf i).toNat)
  case atStart => exact ⟨0, by omega, rfl, hA, hB, hO, hbel⟩
  case round =>
    clear hA hB hO hbel W0
    obtain ⟨j, hj, rfl, hA, hB, hO, hbel⟩ := hrel
    by_cases hlj : j < 16
    · have ca : wr.cell? ⟨w.heap.size, j, none⟩ = some (.int .u64 (f j : Nat)) := by rw [hA.at hlj, mxV_at]
      have cb : wr.cell? ⟨w.heap.size + 1, j, none⟩ = some (.int .u64 (g j : Nat)) := hB.at hlj
      have hs := HS.out j
      have hfr := hA.frozen j
      have hA2 := hA.set j (.int .u64 (s j : Nat))
      rw [mxV_step] at hA2
      have HA := Lib.hid hA2
      have HB := Lib.hid (hB.other ⟨w.heap.size, j, none⟩ (by simp) (.int .u64 (s j : Nat)))
      have HO := Lib.hid (hO.other ⟨w.heap.size, j, none⟩ (by simp <;> omega) (.int .u64 (s j : Nat)))
      clear hA hA2 hO hB
      go_wp2
      go_region
      go_wp2
      go_roundw
      case rel => exact ⟨j + 1, by omega, by go_num, HA.out.drew, HB.out.drew, HO.out.drew, (by repeat (first | (with_reducible refine Below.alloc' ?_ _) | (with_reducible refine Below.drew ?_) | (with_reducible refine below_drewN ?_ _) | ((with_reducible refine Below.setCell ?_ ?_ _); rotate_left; (focus (first | exact Nat.le_refl _ | (simp; done) | (simp; omega)))) | (with_reducible assumption) | (with_reducible exact Below.refl _ _)))⟩
      case measure => simp [intOf]; omega
    · obtain rfl : j = 16 := by omega
      rw [mxV_full] at hA
      have hAr := hA.range
      have HO := Lib.hid hO
      clear hA hO hB hlj hj
      go_wp2_with (first | (refine wpList_load_mid rfl 34 (.tmp 2) rfl w.heap.size 0 rfl (row 16 (fV s)) _ hAr Try.underlying34 rfl (infoFe _) ?_) | (go_at_call 89; (with_reducible refine (rcarried_any s HT.out _).mono ?_; rintro e w2 ⟨rfl, hb⟩; rw [HV.out]; obtain ⟨W3, hst3, hB3, hbel3, _, _⟩ := st_row (n := 16) (HO.out.below' hb) rfl (Below.call hbel hb) (by omega) (d16 R); clear hAr hb; have HB3 := Lib.hid hB3; clear hB3)))
      refine bodyPost_ret (v := .agg (row 16 (fV (d16 R))).toArray) (results_cell_row Try.results54 _ _ (w.heap.size + 1 + 1) _ _ _ _ ?_ HB3.out Try.underlying34 ?_ (infoFeA _)) ?_ ?_
      · rfl
      · rfl
      · rfl
      · exact ⟨rfl, hbel3⟩
def difF (x y i : Nat) : Nat := d16 x i + 4 * primeF i - d16 y i
theorem primeF_ge (i : Nat) : 32767 ≤ primeF i ∧ primeF i ≤ 65535 := by unfold primeF; split <;> (try split) <;> omega
theorem difF_le (x y i : Nat) : difF x y i ≤ 17592186044416 := by have := d16_lt x i; have := primeF_ge i; unfold difF; omega
theorem difF_v (x y : F) : v16 (difF x.val y.val) 16 % Pq = (x - y).val := by
  have h1 : v16 (fun i => difF x.val y.val i + d16 y.val i) 16 = v16 (fun i => d16 x.val i + 4 * primeF i) 16 := v16_congr 16 fun i _ => by
    have := d16_lt y.val i; have := primeF_ge i; unfold difF; omega
  rw [v16_add, v16_add, v16_mul, d16_v x.isLt, d16_v y.isLt, primeF_v] at h1
  rw [Fin.sub_def]
  show _ = (Pq - y.val + x.val) % Pq
  have hy := y.isLt
  have e : v16 (difF x.val y.val) 16 = Pq - y.val + x.val + Pq * 3 := by omega
  rw [e, Nat.add_mul_mod_self_left]
theorem dif_step (x y i : Nat) : ∃ s1 s2 : Nat, IntKind.u64.wrap (4 * (primeF i : Nat) : Int) = (s1 : Int) ∧ IntKind.u64.wrap ((d16 x i : Nat) + (s1 : Nat) : Int) = (s2 : Int) ∧ IntKind.u64.wrap ((s2 : Nat) - (d16 y i : Nat) : Int) = (difF x y i : Nat) := by
  have h1 := d16_lt x i; have h2 := d16_lt y i; have h3 := primeF_ge i
  refine ⟨4 * primeF i, d16 x i + 4 * primeF i, ?_, ?_, ?_⟩
  · rw [wrapU]; omega
  · rw [wrapU]; omega
  · rw [wrapU]; unfold difF; omega
set_option maxRecDepth 100000 in
set_option maxHeartbeats 1000000 in
theorem rsubM (x y : F) (w : World) :
    Calls Try.prog 51 #[.agg (row 16 (fV (d16 x.val))).toArray, .agg (row 16 (fV (d16 y.val))).toArray] w fun e w' => e = .returned (.agg (row 16 (fV (d16 (x - y).val))).toArray) ∧ Below w.heap.size w w' := by
  have HV := Lib.hid (difF_v x y)
  have HT := Lib.hid (difF_le x.val y.val)
  generalize (x - y).val = R at *
  have HS := Lib.hid (dif_step x.val y.val)
  generalize difF x.val y.val = s at *
  generalize d16 x.val = f at *
  generalize d16 y.val = g at *
  have hSN := fun W => st_new W primeF
  go_enter Try.func51, Try.ntmps51
  go_upto_region 2 with (go_at_call 90; (with_reducible refine (rprimeA _).mono ?_; rintro e w1 ⟨rfl, hb⟩; have hA := (((Blk.new w (row 16 (fV f)).toArray 34).alloc (.cells (row 16 (fV g)).toArray 34)).alloc (.cells #[.int .u64 0, .int .u64 0, .int .u64 0, .int .u64 0, .int .u64 0, .int .u64 0, .int .u64 0, .int .u64 0, .int .u64 0, .int .u64 0, .int .u64 0, .int .u64 0, .int .u64 0, .int .u64 0, .int .u64 0, .int .u64 0] 34)).below' hb; have hB := ((Blk.new' (w := w.alloc (.cells (row 16 (fV f)).toArray 34)) (cs := (row 16 (fV g)).toArray) (E := 34) (g := w.heap.size + 1) (by simp)).alloc (.cells #[.int .u64 0, .int .u64 0, .int .u64 0, .int .u64 0, .int .u64 0, .int .u64 0, .int .u64 0, .int .u64 0, .int .u64 0, .int .u64 0, .int .u64 0, .int .u64 0, .int .u64 0, .int .u64 0, .int .u64 0, .int .u64 0] 34)).below' hb; have hO := (Blk.new' (w := (w.alloc (.cells (row 16 (fV f)).toArray 34)).alloc (.cells (row 16 (fV g)).toArray 34)) (cs := #[.int .u64 0, .int .u64 0, .int .u64 0, .int .u64 0, .int .u64 0, .int .u64 0, .int .u64 0, .int .u64 0, .int .u64 0, .int .u64 0, .int .u64 0, .int .u64 0, .int .u64 0, .int .u64 0, .int .u64 0, .int .u64 0]) (E := 34) (g := w.heap.size + 1 + 1) (by simp)).below' hb; have hbel := Below.call (show Below w.heap.size w _ from (by repeat (first | (with_reducible refine Below.alloc' ?_ _) | (with_reducible refine Below.drew ?_) | (with_reducible refine below_drewN ?_ _) | ((with_reducible refine Below.setCell ?_ ?_ _); rotate_left; (focus (first | exact Nat.le_refl _ | (simp; done) | (simp; omega)))) | (with_reducible assumption) | (with_reducible exact Below.refl _ _)))) hb; clear hb))
  have hq : w.heap.size + 1 + 1 < w1.heap.size := hO.lt
  refine wp_gen (fun W => Blk W w.heap.size (row 16 (fV (mxV f s 0))) 34 ∧ Blk W (w.heap.size + 1) (row 16 (fV g)) 34 ∧ Blk W (w.heap.size + 1 + 1) [.int .u64 0, .int .u64 0, .int .u64 0, .int .u64 0, .int .u64 0, .int .u64 0, .int .u64 0, .int .u64 0, .int .u64 0, .int .u64 0, .int .u64 0, .int .u64 0, .int .u64 0, .int .u64 0, .int .u64 0, .int .u64 0] 34 ∧ Blk W w1.heap.size (row 16 (fV primeF)) 34 ∧ Below w.heap.size w W) ?_ (fun W0 hW => ?_)
  · rw [mxV_zero]
    exact ⟨hA.alloc _, hB.alloc _, hO.alloc _, Blk.new' rfl, (by repeat (first | (with_reducible refine Below.alloc' ?_ _) | (with_reducible refine Below.drew ?_) | (with_reducible refine below_drewN ?_ _) | ((with_reducible refine Below.setCell ?_ ?_ _); rotate_left; (focus (first | exact Nat.le_refl _ | (simp; done) | (simp; omega)))) | (with_reducible assumption) | (with_reducible exact Below.refl _ _)))⟩
  clear hA hB hO hbel hSN
  generalize w1.heap.size = q at *
  have HQ := Lib.hid hq
  clear hq w1
  obtain ⟨hA, hB, hO, hP, hbel⟩ := hW
  go_wp2
  go_loopw [6] (fun i wr => ∃ j : Nat, j ≤ 16 ∧ i = .int .i64 j ∧ Blk wr w.heap.size (row 16 (fV (mxV f s j))) 34 ∧ Blk wr (w.heap.size + 1) (row 16 (fV g)) 34 ∧ Blk wr (w.heap.size + 1 + 1) [.int .u64 0, .int .u64 0, .int .u64 0, .int .u64 0, .int .u64 0, .int .u64 0, .int .u64 0, .int .u64 0, .int .u64 0, .int .u64 0, .int .u64 0, .int .u64 0, .int .u64 0, .int .u64 0, .int .u64 0, .int .u64 0] 34 ∧ Blk wr q (row 16 (fV primeF)) 34 ∧ Below w.heap.size w wr) (fun i _ => 16 - (intOf i).toNat)
  case atStart => exact ⟨0, by omega, rfl, hA, hB, hO, hP, hbel⟩
  case round =>
    clear hA hB hO hP hbel W0
    obtain ⟨j, hj, rfl, hA, hB, hO, hP, hbel⟩ := hrel
    by_cases hlj : j < 16
    · have ca : wr.cell? ⟨w.heap.size, j, none⟩ = some (.int .u64 (f j : Nat)) := by rw [hA.at hlj, mxV_at]
      have cb : wr.cell? ⟨w.heap.size + 1, j, none⟩ = some (.int .u64 (g j : Nat)) := hB.at hlj
      have cp : wr.cell? ⟨q, j, none⟩ = some (.int .u64 (primeF j : Nat)) := hP.at hlj
      obtain ⟨s1, s2, e1, e2, e3⟩ := HS.out j
      have hfr := hA.frozen j
      have hA2 := hA.set j (.int .u64 (s j : Nat))
      rw [mxV_step] at hA2
      have HA := Lib.hid hA2
      have HB := Lib.hid (hB.other ⟨w.heap.size, j, none⟩ (by simp) (.int .u64 (s j : Nat)))
      have HO := Lib.hid (hO.other ⟨w.heap.size, j, none⟩ (by simp <;> omega) (.int .u64 (s j : Nat)))
      have HP := Lib.hid (hP.other ⟨w.heap.size, j, none⟩ (by have := HQ.out; simp; omega) (.int .u64 (s j : Nat)))
      clear hA hA2 hO hB hP
      generalize primeF j = pj at *
      go_wp2
      go_region
      go_wp2
      go_roundw
      case rel => exact ⟨j + 1, by omega, by go_num, HA.out.drew, HB.out.drew, HO.out.drew, HP.out.drew, (by repeat (first | (with_reducible refine Below.alloc' ?_ _) | (with_reducible refine Below.drew ?_) | (with_reducible refine below_drewN ?_ _) | ((with_reducible refine Below.setCell ?_ ?_ _); rotate_left; (focus (first | exact Nat.le_refl _ | (simp; done) | (simp; omega)))) | (with_reducible assumption) | (with_reducible exact Below.refl _ _)))⟩
      case measure => simp [intOf]; omega
    · obtain rfl : j = 16 := by omega
      rw [mxV_full] at hA
      have hAr := hA.range
      have HO := Lib.hid hO
      clear hA hO hB hP hlj hj
      go_wp2_with (first | (refine wpList_load_mid rfl 34 (.tmp 2) rfl w.heap.size 0 rfl (row 16 (fV s)) _ hAr Try.underlying34 rfl (infoFe _) ?_) | (go_at_call 89; (with_reducible refine (rcarried_any s HT.out _).mono ?_; rintro e w2 ⟨rfl, hb⟩; rw [HV.out]; obtain ⟨W3, hst3, hB3, hbel3, _, _⟩ := st_row (n := 16) (HO.out.below' hb) rfl (Below.call hbel hb) (by omega) (d16 R); clear hAr hb; have HB3 := Lib.hid hB3; clear hB3)))
      refine bodyPost_ret (v := .agg (row 16 (fV (d16 R))).toArray) (results_cell_row Try.results51 _ _ (w.heap.size + 1 + 1) _ _ _ _ ?_ HB3.out Try.underlying34 ?_ (infoFeA _)) ?_ ?_
      · rfl
      · rfl
      · rfl
      · exact ⟨rfl, hbel3⟩
end Go.Proofs.Ytjchdhpijopikaa
namespace Go.Proofs.Ytjchdhpijopikaa
open Go.RowKit
def smlF (n j i : Nat) : Nat := if i < j then d16 n i else 0
theorem sml_row (n : Nat) : row 16 (fV (smlF n 4)) = [.int .u64 (d16 n 0 : Nat), .int .u64 (d16 n 1 : Nat), .int .u64 (d16 n 2 : Nat), .int .u64 (d16 n 3 : Nat), .int .u64 0, .int .u64 0, .int .u64 0, .int .u64 0, .int .u64 0, .int .u64 0, .int .u64 0, .int .u64 0, .int .u64 0, .int .u64 0, .int .u64 0, .int .u64 0] := rfl
theorem sml_d16 (n : Nat) (h : n < 18446744073709551616) : row 16 (fV (smlF n 4)) = row 16 (fV (d16 n)) := row_ext fun i hi => by
  unfold fV smlF
  by_cases h4 : i < 4
  · rw [if_pos h4]
  · rw [if_neg h4]
    have : n / 65536 ^ i = 0 := Nat.div_eq_of_lt (Nat.lt_of_lt_of_le h (show 65536 ^ 4 ≤ 65536 ^ i from Nat.pow_le_pow_right (by omega) (by omega)))
    simp [d16, this]
theorem sml_and (n k : Nat) (h : n < 18446744073709551616) : bits BinOp.and IntKind.u64 ((n / 65536 ^ k : Nat) : Int) 65535 = (d16 n k : Nat) :=
  and16 _ (Nat.lt_of_le_of_lt (Nat.div_le_self _ _) h)
set_option maxRecDepth 100000 in
set_option maxHeartbeats 1000000 in
theorem rsmall_any (n : Nat) (hn : n < 18446744073709551616) (w : World) :
    Calls Try.prog 52 #[.int .u64 n] w fun e w' => e = .returned (.agg (row 16 (fV (d16 n))).toArray) ∧ Below w.heap.size w w' := by
  have HR := Lib.hid (sml_d16 n hn)
  obtain ⟨ni, hni⟩ : ∃ ni : Int, ni = (n : Int) := ⟨_, rfl⟩
  have a0 : bits BinOp.and IntKind.u64 ni 65535 = (d16 n 0 : Nat) := by have := sml_and n 0 hn; rw [Nat.pow_zero, Nat.div_one] at this; rw [hni]; exact this
  have a1 : bits BinOp.and IntKind.u64 (ni / 65536) 65535 = (d16 n 1 : Nat) := by have := sml_and n 1 hn; rw [hni]; simpa using this
  have a2 : bits BinOp.and IntKind.u64 (ni / 4294967296) 65535 = (d16 n 2 : Nat) := by have := sml_and n 2 hn; rw [hni]; simpa using this
  have a3 : bits BinOp.and IntKind.u64 (ni / 281474976710656) 65535 = (d16 n 3 : Nat) := by have := sml_and n 3 hn; rw [hni]; simpa using this
  have h0 : 0 ≤ ni := by omega
  have h1 : ni < 18446744073709551616 := by omega
  rw [← hni]
  clear hni hn
  have HS := Lib.hid (sml_row n)
  generalize d16 n 0 = x0 at *
  generalize d16 n 1 = x1 at *
  generalize d16 n 2 = x2 at *
  generalize d16 n 3 = x3 at *
  go_enter Try.func52, Try.ntmps52
  go_wp2
  refine wp_loop_rounds 5 ?_
  iterate 4 (rw [rounds_succ]; go_wp2)
  rw [rounds_succ]
  go_wp2
  refine bodyPost_ret (v := .agg (row 16 (fV (smlF n 4))).toArray) ?_ rfl ⟨by rw [HR.out], (by repeat (first | (with_reducible refine Below.alloc' ?_ _) | (with_reducible refine Below.drew ?_) | (with_reducible refine below_drewN ?_ _) | ((with_reducible refine Below.setCell ?_ ?_ _); rotate_left; (focus (first | exact Nat.le_refl _ | (simp; done) | (simp; omega)))) | (with_reducible assumption) | (with_reducible exact Below.refl _ _)))⟩
  rw [HS.out]
  simp [results, Try.results52, go_sem]
theorem fn_small {n : Nat} (h : n < Pq) : (fn n).val = n := Nat.mod_eq_of_lt h
theorem rsmallM (n : Nat) (hn : n < 18446744073709551616) (w : World) :
    Calls Try.prog 52 #[.int .u64 n] w fun e w' => e = .returned (.agg (row 16 (fV (d16 (fn n).val))).toArray) ∧ Below w.heap.size w w' := by
  rw [fn_small (by unfold Pq; omega)]
  exact rsmall_any n hn w
theorem zero_row : row 16 (fV (d16 (0 : F).val)) = [.int .u64 0, .int .u64 0, .int .u64 0, .int .u64 0, .int .u64 0, .int .u64 0, .int .u64 0, .int .u64 0, .int .u64 0, .int .u64 0, .int .u64 0, .int .u64 0, .int .u64 0, .int .u64 0, .int .u64 0, .int .u64 0] := by
  rw [show (0 : F).val = 0 from rfl]; simp only [row16, fV, d16, Nat.zero_div, Nat.zero_mod]; rfl
theorem rsub0 (x : F) (w : World) :
    Calls Try.prog 51 #[.agg #[.int .u64 0, .int .u64 0, .int .u64 0, .int .u64 0, .int .u64 0, .int .u64 0, .int .u64 0, .int .u64 0, .int .u64 0, .int .u64 0, .int .u64 0, .int .u64 0, .int .u64 0, .int .u64 0, .int .u64 0, .int .u64 0], .agg (row 16 (fV (d16 x.val))).toArray] w fun e w' => e = .returned (.agg (row 16 (fV (d16 (-x).val))).toArray) ∧ Below w.heap.size w w' := by
  have h := rsubM 0 x w
  rw [zero_row, show (0 : F) - x = -x from by grind] at h
  exact h
set_option maxRecDepth 100000 in
set_option maxHeartbeats 1000000 in
theorem rnegM (x : F) (w : World) :
    Calls Try.prog 57 #[.agg (row 16 (fV (d16 x.val))).toArray] w fun e w' => e = .returned (.agg (row 16 (fV (d16 (-x).val))).toArray) ∧ Below w.heap.size w w' := by
  have HC := Lib.hid (fun w => rsub0 x w)
  generalize (-x).val = R at *
  generalize d16 x.val = f at *
  go_enter Try.func57, Try.ntmps57
  go_upto_region 1 with fail
  refine wp_gen (fun W => Blk W w.heap.size (row 16 (fV f)) 34 ∧ Blk W (w.heap.size + 1) [.int .u64 0, .int .u64 0, .int .u64 0, .int .u64 0, .int .u64 0, .int .u64 0, .int .u64 0, .int .u64 0, .int .u64 0, .int .u64 0, .int .u64 0, .int .u64 0, .int .u64 0, .int .u64 0, .int .u64 0, .int .u64 0] 34 ∧ Below w.heap.size w W) ?_ (fun W0 hW => ?_)
  · exact ⟨(Blk.new w _ _).alloc _, Blk.new' (by simp), (by repeat (first | (with_reducible refine Below.alloc' ?_ _) | (with_reducible refine Below.drew ?_) | (with_reducible refine below_drewN ?_ _) | ((with_reducible refine Below.setCell ?_ ?_ _); rotate_left; (focus (first | exact Nat.le_refl _ | (simp; done) | (simp; omega)))) | (with_reducible assumption) | (with_reducible exact Below.refl _ _)))⟩
  obtain ⟨hA, hO, hbel⟩ := hW
  have hAr := hA.range
  have HO := Lib.hid hO
  clear hA hO
  go_wp2_with (first | (refine wpList_load_mid rfl 34 (.tmp 1) rfl w.heap.size 0 rfl (row 16 (fV f)) _ hAr Try.underlying34 rfl (infoFe _) ?_) | (go_at_call 51; (with_reducible refine (HC.out _).mono ?_; rintro e w2 ⟨rfl, hb⟩; obtain ⟨W3, hst3, hB3, hbel3, _, _⟩ := st_row (n := 16) (HO.out.below' hb) rfl (Below.call hbel hb) (by omega) (d16 R); clear hAr hb; have HB3 := Lib.hid hB3; clear hB3)))
  refine bodyPost_ret (v := .agg (row 16 (fV (d16 R))).toArray) (results_cell_row Try.results57 _ _ (w.heap.size + 1) _ _ _ _ ?_ HB3.out Try.underlying34 ?_ (infoFeA _)) ?_ ?_
  · rfl
  · rfl
  · rfl
  · exact ⟨rfl, hbel3⟩
end Go.Proofs.Ytjchdhpijopikaa
namespace Go.Proofs.Ytjchdhpijopikaa
open Go.RowKit
/-- A row, one limb written. -/
def updF (c : Nat → Nat) (m v i : Nat) : Nat := if i = m then v else c i
theorem updF_row (n : Nat) (c : Nat → Nat) (m v : Nat) : (row n (fV c)).set m (.int .u64 (v : Nat)) = row n (fV (updF c m v)) :=
  row_set m _ (by simp [fV, updF]) (fun i _ hi => by simp [fV, updF, hi])
theorem v16_upd (c : Nat → Nat) (m a : Nat) : ∀ n, m < n → v16 (updF c m (c m + a)) n = v16 c n + a * 65536 ^ m
  | 0, h => by omega
  | n + 1, h => by
    by_cases e : m = n
    · subst e
      have h1 : v16 (updF c m (c m + a)) m = v16 c m := v16_congr m fun i hi => by unfold updF; rw [if_neg (by omega)]
      simp only [v16]
      rw [h1]
      simp only [updF, if_true]
      rw [Nat.add_mul]; omega
    · have ih := v16_upd c m a n (by omega)
      simp only [v16]
      rw [ih]
      simp only [updF, if_neg (fun x : n = m => e x.symm)]
      omega
theorem v16_succ (f : Nat → Nat) (n : Nat) : v16 f (n + 1) = v16 f n + f n * 65536 ^ n := rfl
def MM : Nat := 4294836225
theorem prod_le (x y i k : Nat) : d16 x i * d16 y k ≤ MM := by
  have h1 := d16_lt x i; have h2 := d16_lt y k
  exact Nat.le_trans (Nat.mul_le_mul (show d16 x i ≤ 65535 by omega) (show d16 y k ≤ 65535 by omega)) (by decide)
/-- What the inner loop keeps. -/
structure MulIn (f g c : Nat → Nat) (i k : Nat) : Prop where
  lo : ∀ j, c j ≤ (i + 1) * MM
  hi : ∀ j, i + k ≤ j → c j ≤ i * MM
  v : v16 c 32 = v16 f i * v16 g 16 + f i * 65536 ^ i * v16 g k
structure MulOut (f g c : Nat → Nat) (i : Nat) : Prop where
  lo : ∀ j, c j ≤ i * MM
  v : v16 c 32 = v16 f i * v16 g 16
theorem MulOut.start (f g : Nat → Nat) : MulOut f g (fun _ => 0) 0 := ⟨fun _ => by omega, by rw [show v16 f 0 = 0 from rfl, Nat.zero_mul]; rfl⟩
theorem MulOut.into {f g c : Nat → Nat} {i : Nat} (h : MulOut f g c i) : MulIn f g c i 0 :=
  ⟨fun j => Nat.le_trans (h.lo j) (Nat.mul_le_mul_right _ (by omega)), fun j _ => h.lo j, by rw [h.v, show v16 g 0 = 0 from rfl, Nat.mul_zero, Nat.add_zero]⟩
theorem MulIn.step {f g c : Nat → Nat} {i k : Nat} (h : MulIn f g c i k) (hk : k < 16) (hi : i < 16) (hp : f i * g k ≤ MM) : MulIn f g (updF c (i + k) (c (i + k) + f i * g k)) i (k + 1) := by
  have e : (i + 1) * MM = i * MM + MM := by rw [Nat.add_mul, Nat.one_mul]
  refine ⟨fun j => ?_, fun j hj => ?_, ?_⟩
  · unfold updF
    split
    · have := h.hi (i + k) (Nat.le_refl _); omega
    · exact h.lo j
  · unfold updF
    rw [if_neg (by omega)]
    exact h.hi j (by omega)
  · rw [v16_upd _ _ _ _ (by omega), h.v, v16_succ g k, Nat.pow_add]
    generalize v16 f i * v16 g 16 = A
    generalize v16 g k = B
    generalize 65536 ^ i = C
    generalize 65536 ^ k = D
    rw [Nat.mul_add, Nat.add_assoc]
    congr 2
    grind
theorem MulIn.out {f g c : Nat → Nat} {i : Nat} (h : MulIn f g c i 16) : MulOut f g c (i + 1) :=
  ⟨h.lo, by rw [h.v, v16_succ f i, Nat.add_mul]⟩
/-- The high half folded down. -/
def fldF (c : Nat → Nat) (i : Nat) : Nat := c i + 38 * c (i + 16)
theorem v16_append (c : Nat → Nat) (m : Nat) : ∀ n, v16 c (m + n) = v16 c m + 65536 ^ m * v16 (fun i => c (i + m)) n
  | 0 => by simp [v16]
  | n + 1 => by
    show v16 c (m + n) + c (m + n) * 65536 ^ (m + n) = _
    rw [v16_append c m n]
    simp only [v16]
    rw [Nat.pow_add, Nat.add_comm n m]
    grind
theorem fldF_v (c : Nat → Nat) : v16 (fldF c) 16 % Pq = v16 c 32 % Pq := by
  rw [show v16 c 32 = v16 c (16 + 16) from rfl, v16_append c 16 16]
  rw [show fldF c = fun i => c i + (fun i => 38 * (fun i => c (i + 16)) i) i from rfl, v16_add, v16_mul]
  generalize v16 (fun i => c (i + 16)) 16 = H
  generalize v16 c 16 = L
  rw [Nat.add_mod L (65536 ^ 16 * H), Nat.mul_mod, show (65536 ^ 16 : Nat) % Pq = 38 from by decide +kernel, Nat.add_mod L (38 * H), Nat.mul_mod 38 H, show 38 % Pq = 38 from by decide +kernel]
theorem MulOut.fin {x y : F} {c : Nat → Nat} (h : MulOut (d16 x.val) (d16 y.val) c 16) : v16 (fldF c) 16 % Pq = (x * y).val := by
  rw [fldF_v, h.v, d16_v x.isLt, d16_v y.isLt]; rfl
theorem fld_le {c : Nat → Nat} (h : ∀ j, c j ≤ 16 * MM) (i : Nat) : fldF c i ≤ 17592186044416 := by
  have h1 := h i; have h2 := h (i + 16); unfold fldF; unfold MM at *; omega
end Go.Proofs.Ytjchdhpijopikaa
namespace Go.Proofs.Ytjchdhpijopikaa
open Go.RowKit
theorem mul_step {f g c : Nat → Nat} {i k : Nat} (hi : i < 16) (hc : ∀ j, i + k ≤ j → c j ≤ i * MM) (hp : f i * g k ≤ MM) :
    ∃ p : Nat, IntKind.u64.wrap ((f i : Nat) * (g k : Nat) : Int) = (p : Int) ∧ IntKind.u64.wrap ((c (i + k) : Nat) + (p : Nat) : Int) = (updF c (i + k) (c (i + k) + f i * g k) (i + k) : Nat) := by
  have h1 := hc (i + k) (Nat.le_refl _)
  have h2 : i * MM ≤ 15 * MM := Nat.mul_le_mul_right _ (by omega)
  unfold MM at *
  refine ⟨f i * g k, ?_, ?_⟩
  · rw [show ((f i : Nat) : Int) * (g k : Nat) = ((f i * g k : Nat) : Int) from by simp, wrapU]; omega
  · rw [wrapU]; simp only [updF, if_true]; omega
theorem fold_step {c : Nat → Nat} (h : ∀ j, c j ≤ 16 * MM) (i : Nat) : ∃ p : Nat, IntKind.u64.wrap (38 * (c (i + 16) : Nat) : Int) = (p : Int) ∧ IntKind.u64.wrap ((c i : Nat) + (p : Nat) : Int) = (fldF c i : Nat) := by
  have h1 := h i; have h2 := h (i + 16)
  unfold MM at *
  refine ⟨38 * c (i + 16), ?_, ?_⟩
  · rw [wrapU]; omega
  · rw [wrapU]; unfold fldF; omega
set_option maxRecDepth 100000 in
set_option maxHeartbeats 2000000 in
theorem rmulM (x y : F) (w : World) :
    Calls Try.prog 50 #[.agg (row 16 (fV (d16 x.val))).toArray, .agg (row 16 (fV (d16 y.val))).toArray] w fun e w' => e = .returned (.agg (row 16 (fV (d16 (x * y).val))).toArray) ∧ Below w.heap.size w w' := by
  have HV := Lib.hid (fun c (h : MulOut (d16 x.val) (d16 y.val) c 16) => h.fin)
  generalize (x * y).val = R at *
  have HP := Lib.hid (fun i k => prod_le x.val y.val i k)
  generalize d16 x.val = f at *
  generalize d16 y.val = g at *
  go_enter Try.func50, Try.ntmps50
  go_upto_region 2 with fail
  refine wp_gen (fun W => Blk W w.heap.size (row 16 (fV f)) 34 ∧ Blk W (w.heap.size + 1) (row 16 (fV g)) 34 ∧ Blk W (w.heap.size + 1 + 1) [.int .u64 0, .int .u64 0, .int .u64 0, .int .u64 0, .int .u64 0, .int .u64 0, .int .u64 0, .int .u64 0, .int .u64 0, .int .u64 0, .int .u64 0, .int .u64 0, .int .u64 0, .int .u64 0, .int .u64 0, .int .u64 0] 34 ∧ Blk W (w.heap.size + 1 + 1 + 1) (row 32 (fV fun _ => 0)) 105 ∧ Below w.heap.size w W) ?_ (fun W0 hW => ?_)
  · exact ⟨(((Blk.new w _ _).alloc _).alloc _).alloc _, ((Blk.new' (by simp)).alloc _).alloc _, (Blk.new' (by simp)).alloc _, Blk.new' (by simp), (by repeat (first | (with_reducible refine Below.alloc' ?_ _) | (with_reducible refine Below.drew ?_) | (with_reducible refine below_drewN ?_ _) | ((with_reducible refine Below.setCell ?_ ?_ _); rotate_left; (focus (first | exact Nat.le_refl _ | (simp; done) | (simp; omega)))) | (with_reducible assumption) | (with_reducible exact Below.refl _ _)))⟩
  obtain ⟨hA, hB, hO, hC, hbel⟩ := hW
  go_wp2
  go_loopw [6] (fun i wr => ∃ (j : Nat) (c : Nat → Nat), j ≤ 16 ∧ i = .int .i64 j ∧ Blk wr w.heap.size (row 16 (fV f)) 34 ∧ Blk wr (w.heap.size + 1) (row 16 (fV g)) 34 ∧ Blk wr (w.heap.size + 1 + 1) [.int .u64 0, .int .u64 0, .int .u64 0, .int .u64 0, .int .u64 0, .int .u64 0, .int .u64 0, .int .u64 0, .int .u64 0, .int .u64 0, .int .u64 0, .int .u64 0, .int .u64 0, .int .u64 0, .int .u64 0, .int .u64 0] 34 ∧ Blk wr (w.heap.size + 1 + 1 + 1) (row 32 (fV c)) 105 ∧ MulOut f g c j ∧ Below w.heap.size w wr) (fun i _ => 16 - (intOf i).toNat)
  case atStart => exact ⟨0, fun _ => 0, by omega, rfl, hA, hB, hO, hC, MulOut.start f g, hbel⟩
  case round =>
    clear hA hB hO hC hbel W0
    obtain ⟨j, c, hj, rfl, hA, hB, hO, hC, hM, hbel⟩ := hrel
    by_cases hlj : j < 16
    · have HA := Lib.hid hA; have HB := Lib.hid hB; have HO := Lib.hid hO; have HC := Lib.hid hC; have HM := Lib.hid hM
      clear hA hB hO hC hM
      obtain ⟨wo, rfl⟩ : ∃ wo : World, wo = wr := ⟨_, rfl⟩
      have hd : decide ((j : Int) < 16) = true := by simp; omega
      go_wp2
      go_loopw [7] (fun kk wr => ∃ (k : Nat) (c : Nat → Nat), k ≤ 16 ∧ kk = .int .i64 k ∧ Blk wr w.heap.size (row 16 (fV f)) 34 ∧ Blk wr (w.heap.size + 1) (row 16 (fV g)) 34 ∧ Blk wr (w.heap.size + 1 + 1) [.int .u64 0, .int .u64 0, .int .u64 0, .int .u64 0, .int .u64 0, .int .u64 0, .int .u64 0, .int .u64 0, .int .u64 0, .int .u64 0, .int .u64 0, .int .u64 0, .int .u64 0, .int .u64 0, .int .u64 0, .int .u64 0] 34 ∧ Blk wr (w.heap.size + 1 + 1 + 1) (row 32 (fV c)) 105 ∧ MulIn f g c j k ∧ Below w.heap.size w wr) (fun kk _ => 16 - (intOf kk).toNat)
      case atStart => exact ⟨0, c, by omega, rfl, HA.out, HB.out, HO.out, HC.out, HM.out.into, hbel⟩
      case round =>
        clear HA HB HO HC HM hbel
        obtain ⟨k, c, hk, rfl, hA, hB, hO, hC, hM, hbel⟩ := hrel
        by_cases hlk : k < 16
        · obtain ⟨p, s1, s2⟩ := mul_step (f := f) (g := g) hlj hM.hi (HP.out j k)
          have HM := Lib.hid (hM.step hlk hlj (HP.out j k))
          obtain ⟨m, hm⟩ : ∃ m, m = j + k := ⟨_, rfl⟩
          have HMe := Lib.hid hm
          rw [← hm] at s2 HM
          have ca : wr.cell? ⟨w.heap.size, j, none⟩ = some (.int .u64 (f j : Nat)) := hA.at hlj
          have cb : wr.cell? ⟨w.heap.size + 1, k, none⟩ = some (.int .u64 (g k : Nat)) := hB.at hlk
          have cc : wr.cell? ⟨w.heap.size + 1 + 1 + 1, m, none⟩ = some (.int .u64 (c m : Nat)) := hC.at (by omega)
          have hwm : IntKind.i64.wrap ((j : Int) + (k : Int)) = (m : Int) := by rw [hm]; exact IntWalk.i64_in _ (by omega)
          have hwm' : (j : Int) + (k : Int) = (m : Int) := by omega
          have hm32 : m < 32 := by omega
          have hfr := hC.frozen m
          generalize hu : updF c m (c m + f j * g k) = u at *
          have hC2 := hC.set m (.int .u64 (u m : Nat))
          rw [show (row 32 (fV c)).set m (.int .u64 (u m : Nat)) = row 32 (fV u) from by rw [← hu, show updF c m (c m + f j * g k) m = c m + f j * g k from by simp [updF]]; exact updF_row 32 c m _] at hC2
          have HA := Lib.hid (hA.other ⟨w.heap.size + 1 + 1 + 1, m, none⟩ (by simp <;> omega) (.int .u64 (u m : Nat)))
          have HB := Lib.hid (hB.other ⟨w.heap.size + 1 + 1 + 1, m, none⟩ (by simp <;> omega) (.int .u64 (u m : Nat)))
          have HO := Lib.hid (hO.other ⟨w.heap.size + 1 + 1 + 1, m, none⟩ (by simp <;> omega) (.int .u64 (u m : Nat)))
          have HC := Lib.hid hC2
          have HBel : Hid (Below w.heap.size w (wr.setCell ⟨w.heap.size + 1 + 1 + 1, m, none⟩ (.int .u64 (u m : Nat)))) := Lib.hid (hbel.setCell (by simp <;> omega) _)
          clear hA hB hO hC hC2 hM hu hm
          go_wp2
          go_region
          go_wp2
          go_roundw
          case rel => exact ⟨k + 1, u, by omega, by go_num, HA.out.drew, HB.out.drew, HO.out.drew, HC.out.drew, HM.out, HBel.out.drew⟩
          case measure => simp [intOf]; omega
        · obtain rfl : k = 16 := by omega
          have HA := Lib.hid hA; have HB := Lib.hid hB; have HO := Lib.hid hO; have HC := Lib.hid hC; have HM := Lib.hid hM.out
          clear hA hB hO hC hM hlk hk
          go_wp2
          go_roundw
          case rel => exact ⟨j + 1, c, by omega, by go_num, HA.out, HB.out, HO.out, HC.out, HM.out, hbel⟩
          case measure => simp [intOf]; omega
    · obtain rfl : j = 16 := by omega
      have HS := Lib.hid (fold_step hM.lo)
      have HL := Lib.hid (fld_le hM.lo)
      have HR := Lib.hid (HV.out c hM)
      have HC := Lib.hid hC; have HO := Lib.hid hO
      clear hA hB hC hO hM hlj hj
      go_upto_region 10 with fail
      have hq : w.heap.size + 1 + 1 + 1 < wr.heap.size := HC.out.lt
      refine wp_gen (fun W => Blk W (w.heap.size + 1 + 1) [.int .u64 0, .int .u64 0, .int .u64 0, .int .u64 0, .int .u64 0, .int .u64 0, .int .u64 0, .int .u64 0, .int .u64 0, .int .u64 0, .int .u64 0, .int .u64 0, .int .u64 0, .int .u64 0, .int .u64 0, .int .u64 0] 34 ∧ Blk W (w.heap.size + 1 + 1 + 1) (row 32 (fV c)) 105 ∧ Blk W wr.heap.size (row 16 (fV (upV (fldF c) 0))) 34 ∧ Below w.heap.size w W) ?_ (fun W0 hW => ?_)
      · exact ⟨HO.out.alloc _, HC.out.alloc _, Blk.new' (by simp), (by repeat (first | (with_reducible refine Below.alloc' ?_ _) | (with_reducible refine Below.drew ?_) | (with_reducible refine below_drewN ?_ _) | ((with_reducible refine Below.setCell ?_ ?_ _); rotate_left; (focus (first | exact Nat.le_refl _ | (simp; done) | (simp; omega)))) | (with_reducible assumption) | (with_reducible exact Below.refl _ _)))⟩
      clear HO HC hbel
      generalize wr.heap.size = q at *
      have HQ := Lib.hid hq
      clear hq wr
      obtain ⟨hO, hC, hA, hbel⟩ := hW
      go_wp2
      go_loopw [9] (fun i wr => ∃ j : Nat, j ≤ 16 ∧ i = .int .i64 j ∧ Blk wr (w.heap.size + 1 + 1) [.int .u64 0, .int .u64 0, .int .u64 0, .int .u64 0, .int .u64 0, .int .u64 0, .int .u64 0, .int .u64 0, .int .u64 0, .int .u64 0, .int .u64 0, .int .u64 0, .int .u64 0, .int .u64 0, .int .u64 0, .int .u64 0] 34 ∧ Blk wr (w.heap.size + 1 + 1 + 1) (row 32 (fV c)) 105 ∧ Blk wr q (row 16 (fV (upV (fldF c) j))) 34 ∧ Below w.heap.size w wr) (fun i _ => 16 - (intOf i).toNat)
      case atStart => exact ⟨0, by omega, rfl, hO, hC, hA, hbel⟩
      case round =>
        clear hO hC hA hbel W0
        obtain ⟨j, hj, rfl, hO, hC, hA, hbel⟩ := hrel
        by_cases hlj : j < 16
        · obtain ⟨p, s1, s2⟩ := HS.out j
          have ca : wr.cell? ⟨w.heap.size + 1 + 1 + 1, j, none⟩ = some (.int .u64 (c j : Nat)) := hC.at (by omega)
          have cb : wr.cell? ⟨w.heap.size + 1 + 1 + 1, j + 16, none⟩ = some (.int .u64 (c (j + 16) : Nat)) := hC.at (by omega)
          have cq : wr.cell? ⟨q, j, none⟩ = some (.int .u64 (upV (fldF c) j j : Nat)) := hA.at hlj
          have hfr := hA.frozen j
          have hA2 := hA.set j (.int .u64 (fldF c j : Nat))
          rw [upV_step] at hA2
          have HA := Lib.hid hA2
          have HC := Lib.hid (hC.other ⟨q, j, none⟩ (by have := HQ.out; simp; omega) (.int .u64 (fldF c j : Nat)))
          have HO := Lib.hid (hO.other ⟨q, j, none⟩ (by have := HQ.out; simp; omega) (.int .u64 (fldF c j : Nat)))
          have HBel : Hid (Below w.heap.size w (wr.setCell ⟨q, j, none⟩ (.int .u64 (fldF c j : Nat)))) := Lib.hid (hbel.setCell (by have := HQ.out; simp; omega) _)
          clear hA hA2 hC hO
          go_wp2
          go_region
          go_wp2
          go_roundw
          case rel => exact ⟨j + 1, by omega, by go_num, HO.out.drew, HC.out.drew, HA.out.drew, HBel.out.drew⟩
          case measure => simp [intOf]; omega
        · obtain rfl : j = 16 := by omega
          rw [upV_full] at hA
          have hAr := hA.range
          have HO := Lib.hid hO
          clear hA hO hC hlj hj
          go_wp2_with (first | (refine wpList_load_mid rfl 34 (.tmp 8) rfl q 0 rfl (row 16 (fV (fldF c))) _ hAr Try.underlying34 rfl (infoFe _) ?_) | (go_at_call 89; (with_reducible refine (rcarried_any (fldF c) HL.out _).mono ?_; rintro e w2 ⟨rfl, hb⟩; rw [HR.out]; obtain ⟨W3, hst3, hB3, hbel3, _, _⟩ := st_row (n := 16) (HO.out.below' hb) rfl (Below.call hbel hb) (by omega) (d16 R); clear hAr hb; have HB3 := Lib.hid hB3; clear hB3)))
          refine bodyPost_ret (v := .agg (row 16 (fV (d16 R))).toArray) (results_cell_row Try.results50 _ _ (w.heap.size + 1 + 1) _ _ _ _ ?_ HB3.out Try.underlying34 ?_ (infoFeA _)) ?_ ?_
          · rfl
          · rfl
          · rfl
          · exact ⟨rfl, hbel3⟩
end Go.Proofs.Ytjchdhpijopikaa
namespace Go.Proofs.Ytjchdhpijopikaa
open Go.RowKit
/-- An append of bytes to a slice of the call's own, at a step of a region that draws. -/
theorem app_step {ops : Array Oper} {o : Oper} {a : Act} {w : World} {K : Act → World → Prop} {Q : Exit → Act → World → Prop} {E : Prop} (hgd : o.guard = none) (s x : Operand)
    (ho : o.op = .call { callee := .builtin .append, args := #[s, x], argTypes := #[22, 22] }) (base : Nat) (v : Value) (n : Nat) (l : List UInt8) (hs : a.eval s = v) (hown : w.ownsRow base 5 1 v n (l.map bV))
    (ad : Addr) (m sc : Nat) (r : List UInt8) (hx : a.eval x = .slice (some ad) m sc) (hr : RdB w (some ad) m sc r) (hm : 0 < m) (hlen : n + m ≤ 70368744177664) (hbase : base ≤ w.heap.size) (w0 : World) (hb0 : Below base w0 w)
    (h : ∀ v' w', w'.ownsRow base 5 1 v' (n + m) ((l ++ r).map bV) → Below base w0 w' → K (a.put o.dst v') w') : if Region.wanted o (yielded ops a.tmps) = true then Oper.wp Try.prog o a w K Q else E := by
  obtain ⟨i0, hi, hz0, hz1, hz2⟩ := info_parts (show (Try.prog.info? 5).map (fun i => (i.zero, i.size, i.bytes)) = some (some (.int .u8 0), 1, 1) from by kernel_rfl)
  refine step_append_lies w hgd s x 22 ho base 5 i0 (.int .u8 0) 1 1 Try.underlying22 hi hz0 hz1 hz2 rfl (by decide) v n (l.map bV) hs hown ad m sc (r.map bV) hx (by simp [hr.hlen]) ?_ ?_ hm (by unfold maxLen; omega) (by omega) hbase _ rfl ?_
  · intro j u hu
    obtain ⟨hj, hv⟩ := List.getElem?_eq_some_iff.1 hu
    simp at hj
    obtain ⟨b, q, hab, hc⟩ := hr.get j hj
    simp at hab
    subst hab
    rw [show Addr.add ⟨b, q, none⟩ j = ⟨b, q + j, none⟩ from by unfold Addr.add; split <;> simp_all, hc, ← hv]
    simp
  · intro u hu
    simp at hu
    obtain ⟨c, _, rfl⟩ := hu
    rfl
  · intro g cap w' hown' hgr _ _
    rw [← List.map_append] at hown'
    refine h _ w' hown' (hb0.grown hgr hbase fun q hq => ?_)
    rcases hown.2 with ⟨h, _⟩ | ⟨g, cap, cur, hv, hg, _⟩
    · rw [h] at hq; simp [Value.ownBlock] at hq
    · rw [hv] at hq; simp [Value.ownBlock] at hq; omega
theorem two_bytes (n k : Nat) (x : Int) (hx : x = (d16 n k : Nat)) : ∃ (x0 x1 : Int) (b0 b1 : UInt8), IntKind.u8.wrap x = x0 ∧ IntKind.u8.wrap x1 = x1 ∧ x / 256 = x1 ∧ bV b0 = .int .u8 x0 ∧ bV b1 = .int .u8 x1 ∧ leB (2 * (k + 1)) n = leB (2 * k) n ++ [b0, b1] := by
  have h := d16_lt n k
  refine ⟨x % 256, x / 256, UInt8.ofNat (n / 2 ^ (8 * (2 * k))), UInt8.ofNat (n / 2 ^ (8 * (2 * k + 1))), wrap8 _, by rw [wrap8]; omega, rfl, ?_, ?_, ?_⟩
  · subst hx; simp only [bV, d16, UInt8.toNat_ofNat']
    rw [show 65536 ^ k = 2 ^ (8 * (2 * k)) from by rw [show 8 * (2 * k) = 16 * k from by omega, Nat.pow_mul]]
    generalize n / 2 ^ (8 * (2 * k)) = q
    congr 1; omega
  · subst hx; simp only [bV, d16, UInt8.toNat_ofNat']
    rw [show 65536 ^ k = 2 ^ (8 * (2 * k)) from by rw [show 8 * (2 * k) = 16 * k from by omega, Nat.pow_mul], show 2 ^ (8 * (2 * k + 1)) = 2 ^ (8 * (2 * k)) * 256 from by rw [show 8 * (2 * k + 1) = 8 * (2 * k) + 8 from by omega, Nat.pow_add], ← Nat.div_div_eq_div_mul]
    generalize n / 2 ^ (8 * (2 * k)) = q
    congr 1; omega
  · rw [show 2 * (k + 1) = 2 * k + 1 + 1 from by omega]
    rw [leB_append (2 * k + 1) 1, leB_append (2 * k) 1, List.append_assoc]
    simp [leB]
theorem rd2 {w : World} {x0 x1 : Int} {b0 b1 : UInt8} (h0 : bV b0 = .int .u8 x0) (h1 : bV b1 = .int .u8 x1) {g : Nat} (hg : g = w.heap.size) : RdB (w.alloc (.cells #[.int .u8 x0, .int .u8 x1] 5)) (some ⟨g, 0, none⟩) 2 2 [b0, b1] := by
  rw [← h0, ← h1]
  exact RdB.blk (l := [b0, b1]) [] (Blk.new' (cs := #[bV b0, bV b1]) hg) rfl (by omega) (by unfold maxLen; omega)
set_option maxRecDepth 100000 in
set_option maxHeartbeats 1000000 in
theorem rbytes_any (n : Nat) (w : World) :
    Calls Try.prog 69 #[.agg (row 16 (fV (d16 n))).toArray] w fun e w' => ∃ g cap r, e = .returned (.slice (some ⟨g, 0, none⟩) 32 cap) ∧ w.heap.size ≤ g ∧ Blk w' g ((leB 32 n).map bV ++ r) 5 ∧ 32 ≤ cap ∧ cap ≤ maxLen ∧ Below w.heap.size w w' := by
  have HF : Hid (∀ k, ∃ x : Int, x = (d16 n k : Nat)) := Lib.hid (fun k => ⟨_, rfl⟩)
  go_enter Try.func69, Try.ntmps69
  go_wp2
  go_loopw [3, 4] (fun v i wr => ∃ k : Nat, k ≤ 16 ∧ i = .int .i64 k ∧ wr.ownsRow (w.heap.size + 1) 5 1 v (2 * k) ((leB (2 * k) n).map bV) ∧ Blk wr w.heap.size (row 16 (fV (d16 n))) 34 ∧ Below w.heap.size w wr ∧ w.heap.size + 1 ≤ wr.heap.size) (fun _ i _ => 16 - (intOf i).toNat)
  case atStart => exact ⟨0, by omega, rfl, ⟨rfl, .inl ⟨rfl, rfl⟩⟩, Blk.new w _ _, (by repeat (first | (with_reducible refine Below.alloc' ?_ _) | (with_reducible refine Below.drew ?_) | (with_reducible refine below_drewN ?_ _) | ((with_reducible refine Below.setCell ?_ ?_ _); rotate_left; (focus (first | exact Nat.le_refl _ | (simp; done) | (simp; omega)))) | (with_reducible assumption) | (with_reducible exact Below.refl _ _))), by simp⟩
  case round =>
    obtain ⟨k, hk, rfl, hown, hA, hbel, hsz⟩ := hrel
    by_cases hlt : k < 16
    · obtain ⟨x, hx⟩ := HF.out k
      have ca : wr.cell? ⟨w.heap.size, k, none⟩ = some (.int .u64 x) := by rw [hx]; exact hA.at hlt
      have h0 : 0 ≤ x := by omega
      obtain ⟨x0, x1, b0, b1, e0, e1, e2, q0, q1, hlb⟩ := two_bytes n k x hx
      have HQ0 := Lib.hid q0; have HQ1 := Lib.hid q1; have HL := Lib.hid hlb
      have HA := Lib.hid hA; have HX := Lib.hid hx; have HO := Lib.hid hown
      clear hA hx hown q0 q1 hlb
      go_upto_region 5 with fail
      go_region_held3 (fun W => W.cell? ⟨w.heap.size, k, none⟩ = some (.int .u64 x)) (first | assumption | go_keep) ((refine app_step (by rfl) (.tmp 9) (.tmp 19) (by rfl) (w.heap.size + 1) _ (2 * k) (leB (2 * k) n) (by rfl) (own_below HO.out (by repeat (first | (with_reducible refine Below.alloc' ?_ _) | (with_reducible refine Below.drew ?_) | (with_reducible refine below_drewN ?_ _) | ((with_reducible refine Below.setCell ?_ ?_ _); rotate_left; (focus (first | exact Nat.le_refl _ | (simp; done) | (simp; omega)))) | (with_reducible assumption) | (with_reducible exact Below.refl _ _)))) _ 2 2 [b0, b1] (by rfl) (rd2 HQ0.out HQ1.out rfl).drew (by omega) (by omega) (Nat.le_trans hsz (Below.size (show Below wr.heap.size wr _ from (by repeat (first | (with_reducible refine Below.alloc' ?_ _) | (with_reducible refine Below.drew ?_) | (with_reducible refine below_drewN ?_ _) | ((with_reducible refine Below.setCell ?_ ?_ _); rotate_left; (focus (first | exact Nat.le_refl _ | (simp; done) | (simp; omega)))) | (with_reducible assumption) | (with_reducible exact Below.refl _ _)))))) wr (Below.drew ((Below.refl _ _).alloc hsz _)) ?_; intro v' w' hown' hbel'; have hca' : w'.cell? ⟨w.heap.size, k, none⟩ = some (.int .u64 x) := (by rw [hbel'.cell (show w.heap.size < w.heap.size + 1 by omega)]; exact ca)))
      have hA2 := HA.out.below hbel' (Nat.lt_succ_self _)
      have hbel2 : Below w.heap.size w w' := hbel.trans (hbel'.mono (by omega))
      have hsz2 : w.heap.size + 1 ≤ w'.heap.size := Nat.le_trans hsz hbel'.size
      have HO3 : Hid (w'.ownsRow (w.heap.size + 1) 5 1 v' (2 * (k + 1)) ((leB (2 * (k + 1)) n).map bV)) := Lib.hid (by rw [HL.out]; exact hown')
      clear hown' hbel' hbel hca'
      go_wp2
      go_roundw
      case rel => exact ⟨k + 1, by omega, by go_num, HO3.out, hA2, hbel2, hsz2⟩
      case measure => simp [intOf]; omega
    · obtain rfl : k = 16 := by omega
      obtain ⟨g, cap, r, rfl, hg, hB, hl, hc, hm⟩ := own_rdb hown (by omega)
      have HB := Lib.hid hB
      clear hown hB hl hA hlt hk
      go_wp2
      go_ret
      exact ⟨g, cap, r, rfl, by omega, HB.out, hc, hm, hbel⟩
end Go.Proofs.Ytjchdhpijopikaa
namespace Go.Proofs.Ytjchdhpijopikaa
open Go.RowKit
theorem make32 (w : World) : (Instr.makeSlice 22 (.int .i64 32) (.int .i64 32)).run Try.prog w = .ok (.slice (some ⟨w.heap.size, 0, none⟩) 32 32) (w.alloc (.cells (row 32 (uV fun _ => 0)).toArray 5)) := by kernel_rfl
def ffF (j i : Nat) : Nat := if i < j then 255 else 0
theorem ff_step (j : Nat) : (row 32 (uV (ffF j))).set j (.int .u8 255) = row 32 (uV (ffF (j + 1))) := by
  refine row_set j _ (by simp [uV, ffF]) (fun i _ hi => ?_)
  unfold uV ffF
  by_cases h : i < j
  · rw [if_pos h, if_pos (by omega)]
  · rw [if_neg h, if_neg (by omega)]
def pwF (a b i : Nat) : Nat := if i = 31 then b else if i = 0 then a else 255
theorem pw_row (a b : Nat) : ((row 32 (uV (ffF 32))).set 0 (.int .u8 (a : Nat))).set 31 (.int .u8 (b : Nat)) = row 32 (uV (pwF a b)) := by
  rw [row_set (g := fun i => if i = 0 then .int .u8 (a : Nat) else uV (ffF 32) i) 0 _ (by simp) (fun i _ hi => by simp [hi])]
  refine row_set 31 _ (by simp [uV, pwF]) (fun i hi h31 => ?_)
  unfold uV pwF
  rw [if_neg h31]
  by_cases h : i = 0
  · simp [h]
  · simp [h, ffF, hi]
set_option maxRecDepth 100000 in
set_option maxHeartbeats 1000000 in
theorem rpower_any (a b : Nat) (w : World) :
    Calls Try.prog 92 #[.int .u8 (a : Nat), .int .u8 (b : Nat)] w fun e w' => e = .returned (.slice (some ⟨w.heap.size, 0, none⟩) 32 32) ∧ Blk w' w.heap.size (row 32 (uV (pwF a b))) 5 ∧ Below w.heap.size w w' := by
  obtain ⟨ai, hai⟩ : ∃ ai : Int, ai = (a : Nat) := ⟨_, rfl⟩
  obtain ⟨bi, hbi⟩ : ∃ bi : Int, bi = (b : Nat) := ⟨_, rfl⟩
  have HR := Lib.hid (pw_row a b)
  rw [← hai, ← hbi] at *
  clear hai hbi
  have hmk := make32
  go_enter Try.func92, Try.ntmps92
  go_wp2
  clear hmk
  go_loopw [6] (fun i wr => ∃ j : Nat, j ≤ 32 ∧ i = .int .i64 j ∧ Blk wr w.heap.size (row 32 (uV (ffF j))) 5 ∧ Below w.heap.size w wr) (fun i _ => 32 - (intOf i).toNat)
  case atStart => exact ⟨0, by omega, rfl, Blk.new w _ _, (by repeat (first | (with_reducible refine Below.alloc' ?_ _) | (with_reducible refine Below.drew ?_) | (with_reducible refine below_drewN ?_ _) | ((with_reducible refine Below.setCell ?_ ?_ _); rotate_left; (focus (first | exact Nat.le_refl _ | (simp; done) | (simp; omega)))) | (with_reducible assumption) | (with_reducible exact Below.refl _ _)))⟩
  case round =>
    obtain ⟨j, hj, rfl, hA, hbel⟩ := hrel
    by_cases hlj : j < 32
    · have hcell := hA.at hlj
      have hfr := hA.frozen j
      have hA2 := hA.set j (.int .u8 255)
      rw [ff_step] at hA2
      have HA := Lib.hid hA2
      clear hA hA2
      go_wp2
      go_roundw
      case rel => exact ⟨j + 1, by omega, by go_num, HA.out, (by repeat (first | (with_reducible refine Below.alloc' ?_ _) | (with_reducible refine Below.drew ?_) | (with_reducible refine below_drewN ?_ _) | ((with_reducible refine Below.setCell ?_ ?_ _); rotate_left; (focus (first | exact Nat.le_refl _ | (simp; done) | (simp; omega)))) | (with_reducible assumption) | (with_reducible exact Below.refl _ _)))⟩
      case measure => simp [intOf]; omega
    · obtain rfl : j = 32 := by omega
      have c0 : wr.cell? ⟨w.heap.size, 0, none⟩ = some (.int .u8 255) := hA.at (by omega)
      have c31 : wr.cell? ⟨w.heap.size, 31, none⟩ = some (.int .u8 255) := hA.at (by omega)
      have f0 := hA.frozen 0
      have f31 := hA.frozen 31
      have hA2 := (hA.set 0 (.int .u8 ai)).set 31 (.int .u8 bi)
      rw [HR.out] at hA2
      have HA := Lib.hid hA2
      clear hA hA2 hlj hj
      go_wp2
      go_ret
      exact ⟨rfl, HA.out, (by repeat (first | (with_reducible refine Below.alloc' ?_ _) | (with_reducible refine Below.drew ?_) | (with_reducible refine below_drewN ?_ _) | ((with_reducible refine Below.setCell ?_ ?_ _); rotate_left; (focus (first | exact Nat.le_refl _ | (simp; done) | (simp; omega)))) | (with_reducible assumption) | (with_reducible exact Below.refl _ _)))⟩
/-- The number that bytes mean, the greatest first. -/
def beF (f : Nat → Nat) : Nat → Nat
  | 0 => 0
  | n + 1 => beF f n * 256 + f n
/-- What stands behind so many digits of a byte. -/
def pwN (N b j : Nat) : Nat := N * 2 ^ (8 - j) + b / 2 ^ j
theorem pwN_top (N b : Nat) (hb : b < 256) : pwN N b 8 = N := by simp [pwN, Nat.div_eq_of_lt hb]
theorem pwN_low (N b : Nat) : pwN N b 0 = N * 256 + b := by simp [pwN]
theorem pwN_step (N b j : Nat) (hj : j < 8) : pwN N b j = pwN N b (j + 1) + pwN N b (j + 1) + b / 2 ^ j % 2 := by
  unfold pwN
  rw [show 8 - j = 8 - (j + 1) + 1 from by omega, Nat.pow_succ, Nat.pow_succ, ← Nat.div_div_eq_div_mul, ← Nat.mul_assoc]
  generalize N * 2 ^ (8 - (j + 1)) = A
  generalize b / 2 ^ j = B
  omega
theorem fpow_dbl (x : F) (m : Nat) : fpow x m * fpow x m = fpow x (m + m) := (fpow_add x m m).symm
theorem fpow_dbl1 (x : F) (m : Nat) : fpow x m * fpow x m * x = fpow x (m + m + 1) := by rw [fpow_add x (m + m) 1, fpow_add, fpow_one]
theorem bit8 (b j : Nat) (hb : b < 256) : bits BinOp.and IntKind.u8 ((b : Int) / 2 ^ j) 1 = ((b / 2 ^ j % 2 : Nat) : Int) := by
  have h1 : b / 2 ^ j < 256 := Nat.lt_of_le_of_lt (Nat.div_le_self _ _) hb
  rw [show (b : Int) / 2 ^ j = ((b / 2 ^ j : Nat) : Int) from by simp]
  generalize b / 2 ^ j = q at *
  revert h1; revert q; decide +kernel
theorem F1 : (fn 1 : F) = 1 := by decide +kernel
end Go.Proofs.Ytjchdhpijopikaa
