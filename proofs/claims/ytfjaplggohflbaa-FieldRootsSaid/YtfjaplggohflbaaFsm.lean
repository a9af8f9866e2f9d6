/- The walks of package field, sixth part: odd, the same. -/
import Derived.Test.YtfjaplggohflbaaFwh
import Derived.Deep.RegionHeld3
namespace Go.Proofs.Ytfjaplggohflbaa
open Go.RowKit

theorem keep5 (g : Nat) (f : Nat → Nat) {w w' : World} (h : w.cell? ⟨g, 0, none⟩ = some (.int .u64 (f 0 : Nat)) ∧ w.cell? ⟨g, 1, none⟩ = some (.int .u64 (f 1 : Nat)) ∧ w.cell? ⟨g, 2, none⟩ = some (.int .u64 (f 2 : Nat)) ∧ w.cell? ⟨g, 3, none⟩ = some (.int .u64 (f 3 : Nat)) ∧ w.cell? ⟨g, 4, none⟩ = some (.int .u64 (f 4 : Nat))) (hb : Below w.heap.size w w') : w'.cell? ⟨g, 0, none⟩ = some (.int .u64 (f 0 : Nat)) ∧ w'.cell? ⟨g, 1, none⟩ = some (.int .u64 (f 1 : Nat)) ∧ w'.cell? ⟨g, 2, none⟩ = some (.int .u64 (f 2 : Nat)) ∧ w'.cell? ⟨g, 3, none⟩ = some (.int .u64 (f 3 : Nat)) ∧ w'.cell? ⟨g, 4, none⟩ = some (.int .u64 (f 4 : Nat)) := by
  obtain ⟨h0, h1, h2, h3, h4⟩ := h
  exact ⟨by rw [hb.cell (cell_lt h0)]; exact h0, by rw [hb.cell (cell_lt h1)]; exact h1, by rw [hb.cell (cell_lt h2)]; exact h2, by rw [hb.cell (cell_lt h3)]; exact h3, by rw [hb.cell (cell_lt h4)]; exact h4⟩
theorem dg_zero (x : Nat) : dg x 0 % 2 = x % 2 := by simp only [dg, Nat.mul_zero, Nat.pow_zero, Nat.div_one]; omega
theorem odd_num (x : Nat) : (bits BinOp.and IntKind.u64 (dg x 0 : Nat) 1 == 1) = decide (x % 2 = 1) := by
  have h := dg_lt x 0
  rw [show (1 : Int) = ((1 : Nat) : Int) from rfl, u64_and_nat _ 1 (by omega) (by omega), Nat.and_one_is_mod, dg_zero]
  generalize hb : x % 2 = b
  by_cases h1 : b = 1
  · subst h1; simp
  · rw [decide_eq_false h1, beq_eq_false_iff_ne]; omega
set_option maxHeartbeats 1000000 in
theorem feodd_any {f : Nat → Nat} {x : Nat} (hf : FE f x) (w : World) :
    Calls Try.prog 25 #[.agg #[.int .u64 (f 0 : Nat), .int .u64 (f 1 : Nat), .int .u64 (f 2 : Nat), .int .u64 (f 3 : Nat), .int .u64 (f 4 : Nat)]] w fun e w' => e = .returned (.bool (decide (x % 2 = 1))) ∧ Below w.heap.size w w' := by
  have HO := Lib.hid (odd_num x)
  have hi := ix5_0
  go_enter Try.func25, Try.ntmps25
  go_wp2_with (go_at_call 38; go_must (refine (whole_any hf _).mono ?_; rintro e w1 ⟨rfl, hb⟩; have hbel : Below w.heap.size w w1 := Below.call (by repeat (first | (with_reducible refine Below.alloc' ?_ _) | (with_reducible refine Below.drew ?_) | (with_reducible refine below_drewN ?_ _) | ((with_reducible refine Below.setCell ?_ ?_ _); rotate_left; (focus (first | exact Nat.le_refl _ | (simp; done) | (simp; omega)))) | (with_reducible assumption) | (with_reducible exact Below.refl _ _))) hb; clear hb))
  go_ret
  exact ⟨ret_bool HO.out, (by repeat (first | (with_reducible refine Below.alloc' ?_ _) | (with_reducible refine Below.drew ?_) | (with_reducible refine below_drewN ?_ _) | ((with_reducible refine Below.setCell ?_ ?_ _); rotate_left; (focus (first | exact Nat.le_refl _ | (simp; done) | (simp; omega)))) | (with_reducible assumption) | (with_reducible exact Below.refl _ _)))⟩
theorem dg_ext {x y : Nat} (hx : x < Pq) (hy : y < Pq) (h : ∀ i, i < 5 → dg x i = dg y i) : x = y := by
  have key : ∀ n, n < Pq → val (dg n) = n := by
    intro n hn
    unfold Pq at hn
    simp only [val, dg, Nat.reduceMul, Nat.reducePow]
    omega
  rw [← key x hx, ← key y hy]
  simp only [val, h 0 (by omega), h 1 (by omega), h 2 (by omega), h 3 (by omega), h 4 (by omega)]
set_option maxHeartbeats 1000000 in
theorem fesame_any {f g : Nat → Nat} {x y : Nat} (hf : FE f x) (hg : FE g y) (w : World) :
    Calls Try.prog 15 #[.agg #[.int .u64 (f 0 : Nat), .int .u64 (f 1 : Nat), .int .u64 (f 2 : Nat), .int .u64 (f 3 : Nat), .int .u64 (f 4 : Nat)], .agg #[.int .u64 (g 0 : Nat), .int .u64 (g 1 : Nat), .int .u64 (g 2 : Nat), .int .u64 (g 3 : Nat), .int .u64 (g 4 : Nat)]] w fun e w' => e = .returned (.bool (decide (x = y))) ∧ Below w.heap.size w w' := by
  have HE : Hid (([((dg x 0 : Nat) : Int), (dg x 1 : Nat), (dg x 2 : Nat), (dg x 3 : Nat), (dg x 4 : Nat)] == [((dg y 0 : Nat) : Int), (dg y 1 : Nat), (dg y 2 : Nat), (dg y 3 : Nat), (dg y 4 : Nat)]) = decide (x = y)) := by
    refine Lib.hid ?_
    by_cases h : x = y
    · subst h; simp
    · rw [decide_eq_false h, beq_eq_false_iff_ne]
      intro h'
      simp only [List.cons.injEq, Int.natCast_inj, and_true] at h'
      refine h (dg_ext hf.lt hg.lt fun i hi => ?_)
      have hh : i = 0 ∨ i = 1 ∨ i = 2 ∨ i = 3 ∨ i = 4 := by omega
      rcases hh with rfl | rfl | rfl | rfl | rfl <;> simp [h']
  have hq : ∀ w : World, (Op.equalIn 10000 26 (.agg #[.int .u64 (dg x 0 : Nat), .int .u64 (dg x 1 : Nat), .int .u64 (dg x 2 : Nat), .int .u64 (dg x 3 : Nat), .int .u64 (dg x 4 : Nat)]) (.agg #[.int .u64 (dg y 0 : Nat), .int .u64 (dg y 1 : Nat), .int .u64 (dg y 2 : Nat), .int .u64 (dg y 3 : Nat), .int .u64 (dg y 4 : Nat)])).run Try.prog w = .ok ([((dg x 0 : Nat) : Int), (dg x 1 : Nat), (dg x 2 : Nat), (dg x 3 : Nat), (dg x 4 : Nat)] == [((dg y 0 : Nat) : Int), (dg y 1 : Nat), (dg y 2 : Nat), (dg y 3 : Nat), (dg y 4 : Nat)]) w :=
    fun w => eqArr w 9998 26 25 5 .u64 Try.underlying26 Try.underlying25 (fun _ => by kernel_rfl) [((dg x 0 : Nat) : Int), (dg x 1 : Nat), (dg x 2 : Nat), (dg x 3 : Nat), (dg x 4 : Nat)] [((dg y 0 : Nat) : Int), (dg y 1 : Nat), (dg y 2 : Nat), (dg y 3 : Nat), (dg y 4 : Nat)] rfl rfl
  generalize ([((dg x 0 : Nat) : Int), (dg x 1 : Nat), (dg x 2 : Nat), (dg x 3 : Nat), (dg x 4 : Nat)] == [((dg y 0 : Nat) : Int), (dg y 1 : Nat), (dg y 2 : Nat), (dg y 3 : Nat), (dg y 4 : Nat)]) = q at *
  have HF := Lib.hid hf; have HG := Lib.hid hg
  clear hf hg
  go_enter Try.func15, Try.ntmps15
  go_wp2
  refine wp_gen (fun W => (W.cell? ⟨w.heap.size, 0, none⟩ = some (.int .u64 (f 0 : Nat)) ∧ W.cell? ⟨w.heap.size, 1, none⟩ = some (.int .u64 (f 1 : Nat)) ∧ W.cell? ⟨w.heap.size, 2, none⟩ = some (.int .u64 (f 2 : Nat)) ∧ W.cell? ⟨w.heap.size, 3, none⟩ = some (.int .u64 (f 3 : Nat)) ∧ W.cell? ⟨w.heap.size, 4, none⟩ = some (.int .u64 (f 4 : Nat))) ∧ (W.cell? ⟨w.heap.size + 1, 0, none⟩ = some (.int .u64 (g 0 : Nat)) ∧ W.cell? ⟨w.heap.size + 1, 1, none⟩ = some (.int .u64 (g 1 : Nat)) ∧ W.cell? ⟨w.heap.size + 1, 2, none⟩ = some (.int .u64 (g 2 : Nat)) ∧ W.cell? ⟨w.heap.size + 1, 3, none⟩ = some (.int .u64 (g 3 : Nat)) ∧ W.cell? ⟨w.heap.size + 1, 4, none⟩ = some (.int .u64 (g 4 : Nat))) ∧ Below w.heap.size w W) ?_ (fun W0 hW => ?_)
  · exact ⟨⟨((Blk.new w _ _).alloc _).cell 0, ((Blk.new w _ _).alloc _).cell 1, ((Blk.new w _ _).alloc _).cell 2, ((Blk.new w _ _).alloc _).cell 3, ((Blk.new w _ _).alloc _).cell 4⟩, ⟨(Blk.new' (by simp)).cell 0, (Blk.new' (by simp)).cell 1, (Blk.new' (by simp)).cell 2, (Blk.new' (by simp)).cell 3, (Blk.new' (by simp)).cell 4⟩, (by repeat (first | (with_reducible refine Below.alloc' ?_ _) | (with_reducible refine Below.drew ?_) | (with_reducible refine below_drewN ?_ _) | ((with_reducible refine Below.setCell ?_ ?_ _); rotate_left; (focus (first | exact Nat.le_refl _ | (simp; done) | (simp; omega)))) | (with_reducible assumption) | (with_reducible exact Below.refl _ _)))⟩
  have hst : ∀ W W' : World, ((W.cell? ⟨w.heap.size, 0, none⟩ = some (.int .u64 (f 0 : Nat)) ∧ W.cell? ⟨w.heap.size, 1, none⟩ = some (.int .u64 (f 1 : Nat)) ∧ W.cell? ⟨w.heap.size, 2, none⟩ = some (.int .u64 (f 2 : Nat)) ∧ W.cell? ⟨w.heap.size, 3, none⟩ = some (.int .u64 (f 3 : Nat)) ∧ W.cell? ⟨w.heap.size, 4, none⟩ = some (.int .u64 (f 4 : Nat))) ∧ (W.cell? ⟨w.heap.size + 1, 0, none⟩ = some (.int .u64 (g 0 : Nat)) ∧ W.cell? ⟨w.heap.size + 1, 1, none⟩ = some (.int .u64 (g 1 : Nat)) ∧ W.cell? ⟨w.heap.size + 1, 2, none⟩ = some (.int .u64 (g 2 : Nat)) ∧ W.cell? ⟨w.heap.size + 1, 3, none⟩ = some (.int .u64 (g 3 : Nat)) ∧ W.cell? ⟨w.heap.size + 1, 4, none⟩ = some (.int .u64 (g 4 : Nat))) ∧ Below w.heap.size w W) → Below W.heap.size W W' → ((W'.cell? ⟨w.heap.size, 0, none⟩ = some (.int .u64 (f 0 : Nat)) ∧ W'.cell? ⟨w.heap.size, 1, none⟩ = some (.int .u64 (f 1 : Nat)) ∧ W'.cell? ⟨w.heap.size, 2, none⟩ = some (.int .u64 (f 2 : Nat)) ∧ W'.cell? ⟨w.heap.size, 3, none⟩ = some (.int .u64 (f 3 : Nat)) ∧ W'.cell? ⟨w.heap.size, 4, none⟩ = some (.int .u64 (f 4 : Nat))) ∧ (W'.cell? ⟨w.heap.size + 1, 0, none⟩ = some (.int .u64 (g 0 : Nat)) ∧ W'.cell? ⟨w.heap.size + 1, 1, none⟩ = some (.int .u64 (g 1 : Nat)) ∧ W'.cell? ⟨w.heap.size + 1, 2, none⟩ = some (.int .u64 (g 2 : Nat)) ∧ W'.cell? ⟨w.heap.size + 1, 3, none⟩ = some (.int .u64 (g 3 : Nat)) ∧ W'.cell? ⟨w.heap.size + 1, 4, none⟩ = some (.int .u64 (g 4 : Nat))) ∧ Below w.heap.size w W') := by
    rintro W W' ⟨h1, h2, h3⟩ hb
    exact ⟨keep5 _ _ h1 hb, keep5 _ _ h2 hb, Below.call h3 hb⟩
  have hst' := Lib.hid hst; have HS0 := Lib.hid (show (fun W => (W.cell? ⟨w.heap.size, 0, none⟩ = some (.int .u64 (f 0 : Nat)) ∧ W.cell? ⟨w.heap.size, 1, none⟩ = some (.int .u64 (f 1 : Nat)) ∧ W.cell? ⟨w.heap.size, 2, none⟩ = some (.int .u64 (f 2 : Nat)) ∧ W.cell? ⟨w.heap.size, 3, none⟩ = some (.int .u64 (f 3 : Nat)) ∧ W.cell? ⟨w.heap.size, 4, none⟩ = some (.int .u64 (f 4 : Nat))) ∧ (W.cell? ⟨w.heap.size + 1, 0, none⟩ = some (.int .u64 (g 0 : Nat)) ∧ W.cell? ⟨w.heap.size + 1, 1, none⟩ = some (.int .u64 (g 1 : Nat)) ∧ W.cell? ⟨w.heap.size + 1, 2, none⟩ = some (.int .u64 (g 2 : Nat)) ∧ W.cell? ⟨w.heap.size + 1, 3, none⟩ = some (.int .u64 (g 3 : Nat)) ∧ W.cell? ⟨w.heap.size + 1, 4, none⟩ = some (.int .u64 (g 4 : Nat))) ∧ Below w.heap.size w W) W0.drew from ⟨hW.1, hW.2.1, hW.2.2.drew⟩)
  clear hst hW
  have hst := hst'
  clear hst'
  go_region_held3 (fun W => (W.cell? ⟨w.heap.size, 0, none⟩ = some (.int .u64 (f 0 : Nat)) ∧ W.cell? ⟨w.heap.size, 1, none⟩ = some (.int .u64 (f 1 : Nat)) ∧ W.cell? ⟨w.heap.size, 2, none⟩ = some (.int .u64 (f 2 : Nat)) ∧ W.cell? ⟨w.heap.size, 3, none⟩ = some (.int .u64 (f 3 : Nat)) ∧ W.cell? ⟨w.heap.size, 4, none⟩ = some (.int .u64 (f 4 : Nat))) ∧ (W.cell? ⟨w.heap.size + 1, 0, none⟩ = some (.int .u64 (g 0 : Nat)) ∧ W.cell? ⟨w.heap.size + 1, 1, none⟩ = some (.int .u64 (g 1 : Nat)) ∧ W.cell? ⟨w.heap.size + 1, 2, none⟩ = some (.int .u64 (g 2 : Nat)) ∧ W.cell? ⟨w.heap.size + 1, 3, none⟩ = some (.int .u64 (g 3 : Nat)) ∧ W.cell? ⟨w.heap.size + 1, 4, none⟩ = some (.int .u64 (g 4 : Nat))) ∧ Below w.heap.size w W) (first | (exact HS0.out) | (first | assumption | (refine hst.out _ _ ?_ hb; assumption) | (refine hst.out _ _ ?_ (Below.alloc' (Below.refl _ _) _); assumption) | (refine hst.out _ _ ?_ (Below.drew (Below.refl _ _)); assumption))) ((go_at_call 38; first | ((with_reducible refine (whole_any HF.out _).mono ?_); rintro e w1 ⟨rfl, hb⟩) | ((with_reducible refine (whole_any HG.out _).mono ?_); rintro e w1 ⟨rfl, hb⟩)))
  go_wp2
  go_ret
  have hf : ∀ W : World, ((W.cell? ⟨w.heap.size, 0, none⟩ = some (.int .u64 (f 0 : Nat)) ∧ W.cell? ⟨w.heap.size, 1, none⟩ = some (.int .u64 (f 1 : Nat)) ∧ W.cell? ⟨w.heap.size, 2, none⟩ = some (.int .u64 (f 2 : Nat)) ∧ W.cell? ⟨w.heap.size, 3, none⟩ = some (.int .u64 (f 3 : Nat)) ∧ W.cell? ⟨w.heap.size, 4, none⟩ = some (.int .u64 (f 4 : Nat))) ∧ (W.cell? ⟨w.heap.size + 1, 0, none⟩ = some (.int .u64 (g 0 : Nat)) ∧ W.cell? ⟨w.heap.size + 1, 1, none⟩ = some (.int .u64 (g 1 : Nat)) ∧ W.cell? ⟨w.heap.size + 1, 2, none⟩ = some (.int .u64 (g 2 : Nat)) ∧ W.cell? ⟨w.heap.size + 1, 3, none⟩ = some (.int .u64 (g 3 : Nat)) ∧ W.cell? ⟨w.heap.size + 1, 4, none⟩ = some (.int .u64 (g 4 : Nat))) ∧ Below w.heap.size w W) → Below w.heap.size w W := fun W h => h.2.2
  exact ⟨ret_bool HE.out, hf _ (by assumption)⟩
end Go.Proofs.Ytfjaplggohflbaa
