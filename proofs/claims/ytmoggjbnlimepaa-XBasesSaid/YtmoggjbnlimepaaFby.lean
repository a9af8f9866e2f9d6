/- The walks of package field, eighth part: a number as bytes. -/
import Derived.Test.YtmoggjbnlimepaaFof
import Derived.Test.YtmoggjbnlimepaaCat
namespace Go.Proofs.Ytmoggjbnlimepaa
open Go.RowKit

theorem or_shl (a b t : Nat) (ht : t ≤ 64) (ha : a < 2 ^ t) : bits BinOp.or IntKind.u64 (a : Int) (IntKind.u64.wrap ((b : Int) * 2 ^ t)) = ((a + b * 2 ^ t) % 18446744073709551616 : Nat) := by
  obtain ⟨s, hs⟩ : ∃ s, t + s = 64 := ⟨64 - t, by omega⟩
  have h1 : 2 ^ t ≤ 2 ^ 64 := Nat.pow_le_pow_right (by omega) ht
  have e : b * 2 ^ t % 18446744073709551616 = (b % 2 ^ s) * 2 ^ t := by
    rw [show (18446744073709551616 : Nat) = 2 ^ t * 2 ^ s from by rw [← Nat.pow_add, hs], Nat.mul_comm b, Nat.mul_mod_mul_left, Nat.mul_comm]
  have h2 : b % 2 ^ s * 2 ^ t < 18446744073709551616 := by rw [← e]; exact Nat.mod_lt _ (by omega)
  have h3 : a ||| b % 2 ^ s * 2 ^ t = a + b % 2 ^ s * 2 ^ t := by
    have h4 := Nat.shiftLeft_add_eq_or_of_lt ha (b % 2 ^ s)
    rw [Nat.shiftLeft_eq] at h4
    rw [Nat.or_comm, ← h4, Nat.add_comm]
  have h5 : a ||| b % 2 ^ s * 2 ^ t < 18446744073709551616 := Nat.or_lt_two_pow (n := 64) (by omega) h2
  rw [h3] at h5
  rw [wrapU, show ((b : Int) * 2 ^ t) % 18446744073709551616 = ((b * 2 ^ t % 18446744073709551616 : Nat) : Int) from by simp, u64_or_nat _ _ (by omega) (Nat.mod_lt _ (by omega)), Nat.add_mod, e, h3, Nat.mod_eq_of_lt (show a < 18446744073709551616 by omega), Nat.mod_eq_of_lt h5]
theorem by0 (n : Nat) : bits BinOp.or IntKind.u64 (dg n 0 : Nat) (IntKind.u64.wrap ((dg n 1 : Nat) * 2251799813685248)) = (lw n 0 : Nat) := by
  have h := or_shl (dg n 0) (dg n 1) 51 (by omega) (dg_lt _ _)
  refine Eq.trans (show _ = _ from h) ?_
  congr 1
  simp only [lw, dg, Nat.reduceMul, Nat.reducePow]; omega
theorem by1 (n : Nat) : bits BinOp.or IntKind.u64 ((dg n 1 : Nat) / 8192) (IntKind.u64.wrap ((dg n 2 : Nat) * 274877906944)) = (lw n 1 : Nat) := by
  have := dg_lt n 1
  have h := or_shl (dg n 1 / 8192) (dg n 2) 38 (by omega) (by omega)
  refine Eq.trans (show _ = _ from h) ?_
  congr 1
  simp only [lw, dg, Nat.reduceMul, Nat.reducePow]; omega
theorem by2 (n : Nat) : bits BinOp.or IntKind.u64 ((dg n 2 : Nat) / 67108864) (IntKind.u64.wrap ((dg n 3 : Nat) * 33554432)) = (lw n 2 : Nat) := by
  have := dg_lt n 2
  have h := or_shl (dg n 2 / 67108864) (dg n 3) 25 (by omega) (by omega)
  refine Eq.trans (show _ = _ from h) ?_
  congr 1
  simp only [lw, dg, Nat.reduceMul, Nat.reducePow]; omega
theorem by3 (n : Nat) (hn : n < Pq) : bits BinOp.or IntKind.u64 ((dg n 3 : Nat) / 549755813888) (IntKind.u64.wrap ((dg n 4 : Nat) * 4096)) = (lw n 3 : Nat) := by
  have := dg_lt n 3
  have h := or_shl (dg n 3 / 549755813888) (dg n 4) 12 (by omega) (by omega)
  refine Eq.trans (show _ = _ from h) ?_
  congr 1
  unfold Pq at hn
  simp only [lw, dg, Nat.reduceMul, Nat.reducePow]; omega
theorem by_flat (n : Nat) : [leB 8 (lw n 0), leB 8 (lw n 1), leB 8 (lw n 2), leB 8 (lw n 3)].flatten = leB 32 n := by
  rw [show (32 : Nat) = 8 * (3 + 1) from rfl, leB_words, show 8 * 3 = 8 * (2 + 1) from rfl, leB_words, show 8 * 2 = 8 * (1 + 1) from rfl, leB_words, show 8 * 1 = 8 * (0 + 1) from rfl, leB_words]
  simp [leB]
theorem RdB.of8 {w : World} {g : Nat} {n : Nat} (h : Blk w g ((leB 8 n).map bV) 5) : RdB w (some ⟨g, 0, none⟩) 8 8 (leB 8 n) :=
  RdB.blk [] (by rw [List.append_nil]; exact h) (leB_len _ _) (Nat.le_refl _) (by unfold maxLen; omega)
theorem own_base {w : World} {B' B E n : Nat} {v : Value} {xs : List Value} (h : w.ownsRow B' E 1 v n xs) (hB : B ≤ B') : w.ownsRow B E 1 v n xs := by
  obtain ⟨h1, h2⟩ := h
  refine ⟨h1, ?_⟩
  rcases h2 with h2 | ⟨g, cap, cur, hv, hg, r⟩
  · exact .inl h2
  · exact .inr ⟨g, cap, cur, hv, Nat.le_trans hB hg, r⟩
set_option maxHeartbeats 1000000 in
theorem febytes_own {f : Nat → Nat} {x : Nat} (hf : FE f x) (w : World) :
    Calls Try.prog 27 #[.agg #[.int .u64 (f 0 : Nat), .int .u64 (f 1 : Nat), .int .u64 (f 2 : Nat), .int .u64 (f 3 : Nat), .int .u64 (f 4 : Nat)]] w fun e w' => ∃ v, e = .returned v ∧ w'.ownsRow w.heap.size 5 1 v 32 ((leB 32 x).map bV) ∧ Below w.heap.size w w' := by
  have e0 := by0 x; have e1 := by1 x; have e2 := by2 x; have e3 := by3 x hf.lt
  have HFL := Lib.hid (by_flat x)
  have HW0 := Lib.hid (lw_lt x 0); have HW1 := Lib.hid (lw_lt x 1); have HW2 := Lib.hid (lw_lt x 2); have HW3 := Lib.hid (lw_lt x 3)
  have HF := Lib.hid hf
  clear hf
  go_enter Try.func27, Try.ntmps27
  go_upto_region 2 with (go_at_call 43; go_must (refine (whole_any HF.out _).mono ?_; rintro e w1 ⟨rfl, hb⟩; have hbel : Below w.heap.size w w1 := Below.call (by repeat (first | (with_reducible refine Below.alloc' ?_ _) | (with_reducible refine Below.drew ?_) | (with_reducible refine below_drewN ?_ _) | ((with_reducible refine Below.setCell ?_ ?_ _); rotate_left; (focus (first | exact Nat.le_refl _ | (simp; done) | (simp; omega)))) | (with_reducible assumption) | (with_reducible exact Below.refl _ _))) hb; clear hb))
  refine wp_gen (fun W => (W.cell? ⟨w1.heap.size, 0, none⟩ = some (.int .u64 (dg x 0 : Nat)) ∧ W.cell? ⟨w1.heap.size, 1, none⟩ = some (.int .u64 (dg x 1 : Nat)) ∧ W.cell? ⟨w1.heap.size, 2, none⟩ = some (.int .u64 (dg x 2 : Nat)) ∧ W.cell? ⟨w1.heap.size, 3, none⟩ = some (.int .u64 (dg x 3 : Nat)) ∧ W.cell? ⟨w1.heap.size, 4, none⟩ = some (.int .u64 (dg x 4 : Nat))) ∧ Below w.heap.size w W) ?_ (fun W0 hW => ?_)
  · exact ⟨⟨(Blk.new w1 _ _).cell 0, (Blk.new w1 _ _).cell 1, (Blk.new w1 _ _).cell 2, (Blk.new w1 _ _).cell 3, (Blk.new w1 _ _).cell 4⟩, (by repeat (first | (with_reducible refine Below.alloc' ?_ _) | (with_reducible refine Below.drew ?_) | (with_reducible refine below_drewN ?_ _) | ((with_reducible refine Below.setCell ?_ ?_ _); rotate_left; (focus (first | exact Nat.le_refl _ | (simp; done) | (simp; omega)))) | (with_reducible assumption) | (with_reducible exact Below.refl _ _)))⟩
  clear hbel
  generalize w1.heap.size = g at *
  clear w1
  have hst : ∀ W W' : World, ((W.cell? ⟨g, 0, none⟩ = some (.int .u64 (dg x 0 : Nat)) ∧ W.cell? ⟨g, 1, none⟩ = some (.int .u64 (dg x 1 : Nat)) ∧ W.cell? ⟨g, 2, none⟩ = some (.int .u64 (dg x 2 : Nat)) ∧ W.cell? ⟨g, 3, none⟩ = some (.int .u64 (dg x 3 : Nat)) ∧ W.cell? ⟨g, 4, none⟩ = some (.int .u64 (dg x 4 : Nat))) ∧ Below w.heap.size w W) → Below W.heap.size W W' → ((W'.cell? ⟨g, 0, none⟩ = some (.int .u64 (dg x 0 : Nat)) ∧ W'.cell? ⟨g, 1, none⟩ = some (.int .u64 (dg x 1 : Nat)) ∧ W'.cell? ⟨g, 2, none⟩ = some (.int .u64 (dg x 2 : Nat)) ∧ W'.cell? ⟨g, 3, none⟩ = some (.int .u64 (dg x 3 : Nat)) ∧ W'.cell? ⟨g, 4, none⟩ = some (.int .u64 (dg x 4 : Nat))) ∧ Below w.heap.size w W') := by
    rintro W W' ⟨h1, h3⟩ hb
    exact ⟨keep5 _ _ h1 hb, Below.call h3 hb⟩
  have hst' := Lib.hid hst; have HS0 := Lib.hid (show (fun W => (W.cell? ⟨g, 0, none⟩ = some (.int .u64 (dg x 0 : Nat)) ∧ W.cell? ⟨g, 1, none⟩ = some (.int .u64 (dg x 1 : Nat)) ∧ W.cell? ⟨g, 2, none⟩ = some (.int .u64 (dg x 2 : Nat)) ∧ W.cell? ⟨g, 3, none⟩ = some (.int .u64 (dg x 3 : Nat)) ∧ W.cell? ⟨g, 4, none⟩ = some (.int .u64 (dg x 4 : Nat))) ∧ Below w.heap.size w W) W0.drew from ⟨hW.1, hW.2.drew⟩)
  clear hst hW
  have hst := hst'
  clear hst'
  have hF : ∀ W : World, ((W.cell? ⟨g, 0, none⟩ = some (.int .u64 (dg x 0 : Nat)) ∧ W.cell? ⟨g, 1, none⟩ = some (.int .u64 (dg x 1 : Nat)) ∧ W.cell? ⟨g, 2, none⟩ = some (.int .u64 (dg x 2 : Nat)) ∧ W.cell? ⟨g, 3, none⟩ = some (.int .u64 (dg x 3 : Nat)) ∧ W.cell? ⟨g, 4, none⟩ = some (.int .u64 (dg x 4 : Nat))) ∧ Below w.heap.size w W) → Below w.heap.size w W := fun W h => h.2
  go_region_held3 (fun W => (W.cell? ⟨g, 0, none⟩ = some (.int .u64 (dg x 0 : Nat)) ∧ W.cell? ⟨g, 1, none⟩ = some (.int .u64 (dg x 1 : Nat)) ∧ W.cell? ⟨g, 2, none⟩ = some (.int .u64 (dg x 2 : Nat)) ∧ W.cell? ⟨g, 3, none⟩ = some (.int .u64 (dg x 3 : Nat)) ∧ W.cell? ⟨g, 4, none⟩ = some (.int .u64 (dg x 4 : Nat))) ∧ Below w.heap.size w W) (first | (exact HS0.out) | (first | assumption | (refine hst.out _ _ ?_ hb; assumption) | (refine hst.out _ _ ?_ (Below.alloc' (Below.refl _ _) _); assumption) | (refine hst.out _ _ ?_ (Below.drew (Below.refl _ _)); assumption))) ((first | (go_at_call 45; first | ((with_reducible refine (little_any HW0.out _).mono ?_); rintro e w1 ⟨rfl, hB, hb⟩; have C1 := Lib.hid hb.size; have R0 := Lib.hid (RdB.of8 hB); clear hB) | ((with_reducible refine (little_any HW1.out _).mono ?_); rintro e w2 ⟨rfl, hB, hb⟩; have C2 := Lib.hid hb.size; have R1 := Lib.hid (RdB.of8 hB); have Q0 := Lib.hid (R0.out.below hb); clear hB) | ((with_reducible refine (little_any HW2.out _).mono ?_); rintro e w3 ⟨rfl, hB, hb⟩; have C3 := Lib.hid hb.size; have R2 := Lib.hid (RdB.of8 hB); have Q1 := Lib.hid (R1.out.below hb); have P0 := Lib.hid (Q0.out.below hb); clear hB) | ((with_reducible refine (little_any HW3.out _).mono ?_); rintro e w4 ⟨rfl, hB, hb⟩; have C4 := Lib.hid hb.size; have R3 := Lib.hid (RdB.of8 hB); have Q2 := Lib.hid (R2.out.below hb); have P1 := Lib.hid (Q1.out.below hb); have N0 := Lib.hid (P0.out.below hb); clear hB)) | (go_at_call 44; refine (cat_any (ls := [leB 8 (lw x 0), leB 8 (lw x 1), leB 8 (lw x 2), leB 8 (lw x 3)]) _ (RdRows.blk (n := 4) (Blk.new _ _ _) (Rows.cons (N0.out.below (Below.alloc' (Below.refl _ _) _)) (Rows.cons (P1.out.below (Below.alloc' (Below.refl _ _) _)) (Rows.cons (Q2.out.below (Below.alloc' (Below.refl _ _) _)) (Rows.cons (R3.out.below (Below.alloc' (Below.refl _ _) _)) Rows.nil)))) rfl (by unfold maxLen; omega)) (by rw [HFL.out, leB_len]; omega)).mono ?_; rintro e w5 ⟨v, rfl, ho, hb⟩; rw [HFL.out, leB_len] at ho; replace ho := own_base (B := w4.heap.size) ho (Below.alloc' (Below.refl _ _) _).size; have HO := Lib.hid ho; clear ho)))
  all_goals
    go_wp2
    go_ret
    refine ⟨v, rfl, own_base HO.out ?_, hF _ (by assumption)⟩
    have c0 := HS0.out.2.size; have c1 := C1.out; have c2 := C2.out; have c3 := C3.out; have c4 := C4.out
    omega
theorem febytes_any {f : Nat → Nat} {x : Nat} (hf : FE f x) (w : World) :
    Calls Try.prog 27 #[.agg #[.int .u64 (f 0 : Nat), .int .u64 (f 1 : Nat), .int .u64 (f 2 : Nat), .int .u64 (f 3 : Nat), .int .u64 (f 4 : Nat)]] w fun e w' => ∃ g cap r, e = .returned (.slice (some ⟨g, 0, none⟩) 32 cap) ∧ w.heap.size ≤ g ∧ Blk w' g ((leB 32 x).map bV ++ r) 5 ∧ 32 ≤ cap ∧ cap ≤ maxLen ∧ Below w.heap.size w w' := by
  refine (febytes_own hf w).mono ?_
  rintro e w' ⟨v, rfl, ho, hb⟩
  obtain ⟨g, cap, r, rfl, hg, hB, _, hc, hm⟩ := own_rdb ho (by omega)
  exact ⟨g, cap, r, rfl, hg, hB, hc, hm, hb⟩
end Go.Proofs.Ytmoggjbnlimepaa
