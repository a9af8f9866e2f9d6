/- The walks of package field, second part: sums, differences, small numbers. -/
import Derived.Test.YtmoggjbnlimepaaFld
namespace Go.Proofs.Ytmoggjbnlimepaa
open Go.RowKit

/-- The limbs f mean the number n (below p). -/
structure FE (f : Nat → Nat) (n : Nat) : Prop where
  lim : Lim f
  num : val f % Pq = n
theorem FE.lt {f : Nat → Nat} {n : Nat} (h : FE f n) : n < Pq := by rw [← h.num]; exact Nat.mod_lt _ Pq_pos
theorem Lim.lt {f : Nat → Nat} (h : Lim f) : ∀ i, i < 5 → f i < 2251799813685268 := by
  intro i hi
  have hh : i = 0 ∨ i = 1 ∨ i = 2 ∨ i = 3 ∨ i = 4 := by omega
  rcases hh with rfl | rfl | rfl | rfl | rfl
  · exact h.l0
  · have := h.l1; omega
  · have := h.l2; omega
  · have := h.l3; omega
  · have := h.l4; omega
def addF (f g : Nat → Nat) (i : Nat) : Nat := f i + g i
theorem addF_val (f g : Nat → Nat) : val (addF f g) = val f + val g := by simp only [val, addF]; omega
theorem addF_at {f g : Nat → Nat} (hf : Lim f) (hg : Lim g) (i : Nat) (hi : i < 5) : IntKind.u64.wrap ((f i : Nat) + (g i : Nat) : Int) = (addF f g i : Nat) := by
  have := hf.lt i hi; have := hg.lt i hi
  unfold addF; rw [wrapU]; omega
set_option maxHeartbeats 1000000 in
theorem feadd_any {f g : Nat → Nat} {x y : Nat} (hf : FE f x) (hg : FE g y) (w : World) :
    Calls Try.prog 38 #[.agg #[.int .u64 (f 0 : Nat), .int .u64 (f 1 : Nat), .int .u64 (f 2 : Nat), .int .u64 (f 3 : Nat), .int .u64 (f 4 : Nat)], .agg #[.int .u64 (g 0 : Nat), .int .u64 (g 1 : Nat), .int .u64 (g 2 : Nat), .int .u64 (g 3 : Nat), .int .u64 (g 4 : Nat)]] w fun e w' => ∃ h, e = .returned (.agg #[.int .u64 (h 0 : Nat), .int .u64 (h 1 : Nat), .int .u64 (h 2 : Nat), .int .u64 (h 3 : Nat), .int .u64 (h 4 : Nat)]) ∧ FE h ((x + y) % Pq) ∧ Below w.heap.size w w' := by
  have s0 := addF_at hf.lim hg.lim 0 (by omega)
  have s1 := addF_at hf.lim hg.lim 1 (by omega)
  have s2 := addF_at hf.lim hg.lim 2 (by omega)
  have s3 := addF_at hf.lim hg.lim 3 (by omega)
  have s4 := addF_at hf.lim hg.lim 4 (by omega)
  have hb : ∀ i, i < 5 → addF f g i ≤ 9223372036854775808 := fun i hi => by
    have := hf.lim.lt i hi; have := hg.lim.lt i hi; unfold addF; omega
  have HB := Lib.hid hb
  have HR : Hid (FE (cF (addF f g)) ((x + y) % Pq)) := Lib.hid ⟨cF_lim _ hb, by rw [cF_val, addF_val, Nat.add_mod, hf.num, hg.num]⟩
  clear hb hf hg
  go_enter Try.func38, Try.ntmps38
  go_wp2
  refine wp_loop_rounds 6 ?_
  iterate 5 (rw [rounds_succ]; go_wp2; go_region; go_wp2)
  rw [rounds_succ]
  go_wp2_with (go_at_call 41; go_must (refine (carried_any (addF f g) HB.out _).mono ?_; rintro e w1 ⟨rfl, hb⟩; have hO := (show Blk _ (w.heap.size + 1 + 1) [.int .u64 0, .int .u64 0, .int .u64 0, .int .u64 0, .int .u64 0] 41 from (by repeat (first | (with_reducible refine Blk.drew ?_) | exact Blk.new' (by simp) | (with_reducible refine Blk.alloc ?_ _)))).below' hb; have hOc := hO.cell; have hOf := hO.frozen; have hbel : Below w.heap.size w w1 := Below.call (by repeat (first | (with_reducible refine Below.alloc' ?_ _) | (with_reducible refine Below.drew ?_) | (with_reducible refine below_drewN ?_ _) | ((with_reducible refine Below.setCell ?_ ?_ _); rotate_left; (focus (first | exact Nat.le_refl _ | (simp; done) | (simp; omega)))) | (with_reducible assumption) | (with_reducible exact Below.refl _ _))) hb; clear hb hO))
  exact bodyPost_ret (v := .agg #[.int .u64 (cF (addF f g) 0 : Nat), .int .u64 (cF (addF f g) 1 : Nat), .int .u64 (cF (addF f g) 2 : Nat), .int .u64 (cF (addF f g) 3 : Nat), .int .u64 (cF (addF f g) 4 : Nat)]) (by simp [results, Try.results38, go_sem, hOc]) rfl ⟨_, rfl, HR.out, (by repeat (first | (with_reducible refine Below.alloc' ?_ _) | (with_reducible refine Below.drew ?_) | (with_reducible refine below_drewN ?_ _) | ((with_reducible refine Below.setCell ?_ ?_ _); rotate_left; (focus (first | exact Nat.le_refl _ | (simp; done) | (simp; omega)))) | (with_reducible assumption) | (with_reducible exact Below.refl _ _)))⟩
def fourP (i : Nat) : Nat := if i = 0 then 9007199254740916 else 9007199254740988
def subF (f g : Nat → Nat) (i : Nat) : Nat := f i + (fourP i - g i)
theorem subF_val {f g : Nat → Nat} (hg : Lim g) : val (subF f g) + val g = val f + 4 * Pq := by
  have h0 := hg.l0; have h1 := hg.l1; have h2 := hg.l2; have h3 := hg.l3; have h4 := hg.l4
  simp only [val, subF, fourP, if_true, if_neg (show ¬ (1 = 0) by omega), if_neg (show ¬ (2 = 0) by omega), if_neg (show ¬ (3 = 0) by omega), if_neg (show ¬ (4 = 0) by omega), Pq]
  omega
theorem subF_at {f g : Nat → Nat} (hf : Lim f) (hg : Lim g) (i : Nat) (hi : i < 5) : IntKind.u64.wrap ((f i : Nat) + IntKind.u64.wrap ((fourP i : Nat) - (g i : Nat)) : Int) = (subF f g i : Nat) := by
  have := hf.lt i hi; have := hg.lt i hi
  have hk : 9007199254740916 ≤ fourP i ∧ fourP i ≤ 9007199254740988 := by unfold fourP; split <;> omega
  unfold subF; rw [wrapU, wrapU]; omega
theorem mod_sub {a b x y : Nat} (h : a + b = x + 4 * Pq) (hy : b % Pq = y) : a % Pq = (x % Pq + (Pq - y)) % Pq := by
  unfold Pq at *; omega
set_option maxHeartbeats 1000000 in
theorem fesub_any {f g : Nat → Nat} {x y : Nat} (hf : FE f x) (hg : FE g y) (w : World) :
    Calls Try.prog 39 #[.agg #[.int .u64 (f 0 : Nat), .int .u64 (f 1 : Nat), .int .u64 (f 2 : Nat), .int .u64 (f 3 : Nat), .int .u64 (f 4 : Nat)], .agg #[.int .u64 (g 0 : Nat), .int .u64 (g 1 : Nat), .int .u64 (g 2 : Nat), .int .u64 (g 3 : Nat), .int .u64 (g 4 : Nat)]] w fun e w' => ∃ h, e = .returned (.agg #[.int .u64 (h 0 : Nat), .int .u64 (h 1 : Nat), .int .u64 (h 2 : Nat), .int .u64 (h 3 : Nat), .int .u64 (h 4 : Nat)]) ∧ FE h ((x + (Pq - y)) % Pq) ∧ Below w.heap.size w w' := by
  have s0 : IntKind.u64.wrap ((f 0 : Nat) + IntKind.u64.wrap (9007199254740916 - (g 0 : Nat)) : Int) = (subF f g 0 : Nat) := subF_at hf.lim hg.lim 0 (by omega)
  have s1 : IntKind.u64.wrap ((f 1 : Nat) + IntKind.u64.wrap (9007199254740988 - (g 1 : Nat)) : Int) = (subF f g 1 : Nat) := subF_at hf.lim hg.lim 1 (by omega)
  have s2 : IntKind.u64.wrap ((f 2 : Nat) + IntKind.u64.wrap (9007199254740988 - (g 2 : Nat)) : Int) = (subF f g 2 : Nat) := subF_at hf.lim hg.lim 2 (by omega)
  have s3 : IntKind.u64.wrap ((f 3 : Nat) + IntKind.u64.wrap (9007199254740988 - (g 3 : Nat)) : Int) = (subF f g 3 : Nat) := subF_at hf.lim hg.lim 3 (by omega)
  have s4 : IntKind.u64.wrap ((f 4 : Nat) + IntKind.u64.wrap (9007199254740988 - (g 4 : Nat)) : Int) = (subF f g 4 : Nat) := subF_at hf.lim hg.lim 4 (by omega)
  have hb : ∀ i, i < 5 → subF f g i ≤ 9223372036854775808 := fun i hi => by
    have := hf.lim.lt i hi
    have hk : fourP i ≤ 9007199254740988 := by unfold fourP; split <;> omega
    unfold subF; omega
  have HB := Lib.hid hb
  have HR : Hid (FE (cF (subF f g)) ((x + (Pq - y)) % Pq)) := Lib.hid ⟨cF_lim _ hb, by rw [cF_val, mod_sub (subF_val hg.lim) hg.num, hf.num]⟩
  clear hb hf hg
  go_enter Try.func39, Try.ntmps39
  go_wp2
  refine wp_loop_rounds 6 ?_
  iterate 5 (rw [rounds_succ]; go_wp2; (try go_region); go_wp2)
  rw [rounds_succ]
  go_wp2_with (go_at_call 41; go_must (refine (carried_any (subF f g) HB.out _).mono ?_; rintro e w1 ⟨rfl, hb⟩; have hO := (show Blk _ (w.heap.size + 1 + 1) [.int .u64 0, .int .u64 0, .int .u64 0, .int .u64 0, .int .u64 0] 41 from (by repeat (first | (with_reducible refine Blk.drew ?_) | exact Blk.new' (by simp) | (with_reducible refine Blk.alloc ?_ _)))).below' hb; have hOc := hO.cell; have hOf := hO.frozen; have hbel : Below w.heap.size w w1 := Below.call (by repeat (first | (with_reducible refine Below.alloc' ?_ _) | (with_reducible refine Below.drew ?_) | (with_reducible refine below_drewN ?_ _) | ((with_reducible refine Below.setCell ?_ ?_ _); rotate_left; (focus (first | exact Nat.le_refl _ | (simp; done) | (simp; omega)))) | (with_reducible assumption) | (with_reducible exact Below.refl _ _))) hb; clear hb hO))
  exact bodyPost_ret (v := .agg #[.int .u64 (cF (subF f g) 0 : Nat), .int .u64 (cF (subF f g) 1 : Nat), .int .u64 (cF (subF f g) 2 : Nat), .int .u64 (cF (subF f g) 3 : Nat), .int .u64 (cF (subF f g) 4 : Nat)]) (by simp [results, Try.results39, go_sem, hOc]) rfl ⟨_, rfl, HR.out, (by repeat (first | (with_reducible refine Below.alloc' ?_ _) | (with_reducible refine Below.drew ?_) | (with_reducible refine below_drewN ?_ _) | ((with_reducible refine Below.setCell ?_ ?_ _); rotate_left; (focus (first | exact Nat.le_refl _ | (simp; done) | (simp; omega)))) | (with_reducible assumption) | (with_reducible exact Below.refl _ _)))⟩
theorem FE.zero : FE (fun _ => 0) 0 := ⟨⟨by omega, by omega, by omega, by omega, by omega⟩, by decide +kernel⟩
theorem buildE (w : World) : (Instr.build 41 #[]).run Try.prog w = .ok (.agg #[.int .u64 0, .int .u64 0, .int .u64 0, .int .u64 0, .int .u64 0]) w := by kernel_rfl
theorem fesub_zero {g : Nat → Nat} {y : Nat} (hg : FE g y) (w : World) :
    Calls Try.prog 39 #[.agg #[.int .u64 0, .int .u64 0, .int .u64 0, .int .u64 0, .int .u64 0], .agg #[.int .u64 (g 0 : Nat), .int .u64 (g 1 : Nat), .int .u64 (g 2 : Nat), .int .u64 (g 3 : Nat), .int .u64 (g 4 : Nat)]] w fun e w' => ∃ h, e = .returned (.agg #[.int .u64 (h 0 : Nat), .int .u64 (h 1 : Nat), .int .u64 (h 2 : Nat), .int .u64 (h 3 : Nat), .int .u64 (h 4 : Nat)]) ∧ FE h ((Pq - y) % Pq) ∧ Below w.heap.size w w' := by
  have := fesub_any FE.zero hg w
  rw [Nat.zero_add] at this; exact this
def smallF (n i : Nat) : Nat := if i = 0 then n % 2251799813685248 else if i = 1 then n / 2251799813685248 else 0
theorem smallF_val (n : Nat) : val (smallF n) = n := by
  simp only [val, smallF, if_true, if_neg (show ¬ (1 = 0) by omega), if_neg (show ¬ (2 = 0) by omega), if_neg (show ¬ (3 = 0) by omega), if_neg (show ¬ (4 = 0) by omega), if_neg (show ¬ (2 = 1) by omega), if_neg (show ¬ (3 = 1) by omega), if_neg (show ¬ (4 = 1) by omega)]
  omega
theorem FE.small {n : Nat} (hn : n < 18446744073709551616) : FE (smallF n) n :=
  ⟨⟨by simp only [smallF, if_true]; omega, by simp [smallF]; omega, by simp [smallF], by simp [smallF], by simp [smallF]⟩, by rw [smallF_val, Nat.mod_eq_of_lt (by unfold Pq; omega)]⟩
set_option maxHeartbeats 1000000 in
theorem fesmall_any {n : Nat} (hn : n < 18446744073709551616) (w : World) :
    Calls Try.prog 22 #[.int .u64 n] w fun e w' => e = .returned (.agg #[.int .u64 (smallF n 0 : Nat), .int .u64 (smallF n 1 : Nat), .int .u64 (smallF n 2 : Nat), .int .u64 (smallF n 3 : Nat), .int .u64 (smallF n 4 : Nat)]) ∧ Below w.heap.size w w' := by
  have ha := and51 n hn
  have HD : Hid ((n : Int) / 2251799813685248 = (smallF n 1 : Nat)) := Lib.hid (by simp [smallF])
  have HE : Hid (((n % 2251799813685248 : Nat) : Int) = (smallF n 0 : Nat)) := Lib.hid (by simp [smallF])
  rw [HE.out] at ha
  clear hn
  go_enter Try.func22, Try.ntmps22
  go_wp2
  exact bodyPost_ret (v := .agg #[.int .u64 (smallF n 0 : Nat), .int .u64 ((n : Int) / 2251799813685248), .int .u64 0, .int .u64 0, .int .u64 0]) (by simp [results, Try.results22, go_sem]) rfl ⟨by rw [HD.out]; rfl, (by repeat (first | (with_reducible refine Below.alloc' ?_ _) | (with_reducible refine Below.drew ?_) | (with_reducible refine below_drewN ?_ _) | ((with_reducible refine Below.setCell ?_ ?_ _); rotate_left; (focus (first | exact Nat.le_refl _ | (simp; done) | (simp; omega)))) | (with_reducible assumption) | (with_reducible exact Below.refl _ _)))⟩
end Go.Proofs.Ytmoggjbnlimepaa
