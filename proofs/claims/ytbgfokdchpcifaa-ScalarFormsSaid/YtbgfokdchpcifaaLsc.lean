/- The laws of chapter 7: what they call, by contracts. -/
import Derived.Test.YtbgfokdchpcifaaScd
import Derived.Deep.RegionHeld3
import Derived.Deep.DeepCutAuto
namespace Go.Proofs.Ytbgfokdchpcifaa
open Go.RowKit

theorem Lq_pos : 0 < Lq := by unfold Lq; omega
theorem rd_one {w : World} {g : Nat} (hg : g = w.heap.size) : RdB (w.alloc (.cells #[.int .u8 1] 5)) (some ⟨g, 0, none⟩) 1 1 [1] :=
  RdB.blk (l := [1]) [] (Blk.new' (cs := #[.int .u8 1]) hg) rfl (by omega) (by unfold maxLen; omega)
theorem wide_one {w : World} {g : Nat} (h : RdB w (some ⟨g, 0, none⟩) 1 1 [1]) : Calls Try.prog 9 #[.slice (some ⟨g, 0, none⟩) 1 1] w fun e w' => e = .returned (.agg #[.int .u64 (lw 1 0 : Nat), .int .u64 (lw 1 1 : Nat), .int .u64 (lw 1 2 : Nat), .int .u64 (lw 1 3 : Nat)]) ∧ Below w.heap.size w w' := by
  have h := wide_any _ h
  rw [show leN (first [1] 64) % Lq = 1 from by rw [leN_first]; decide +kernel] at h
  exact h
theorem wide_nil (w : World) : Calls Try.prog 9 #[.slice none 0 0] w fun e w' => e = .returned (.agg #[.int .u64 (lw 0 0 : Nat), .int .u64 (lw 0 1 : Nat), .int .u64 (lw 0 2 : Nat), .int .u64 (lw 0 3 : Nat)]) ∧ Below w.heap.size w w' := by
  have h := wide_any _ (RdB.nil w)
  rw [show leN (first [] 64) % Lq = 0 from by rw [leN_first]; decide +kernel] at h
  exact h
theorem strict_one {w : World} {g : Nat} (h : RdB w (some ⟨g, 0, none⟩) 1 1 [1]) : Calls Try.prog 11 #[.slice (some ⟨g, 0, none⟩) 1 1] w fun e w' => e = .returned (.tuple #[.agg #[.int .u64 (lw 0 0 : Nat), .int .u64 (lw 0 1 : Nat), .int .u64 (lw 0 2 : Nat), .int .u64 (lw 0 3 : Nat)], .int .i64 2]) ∧ Below w.heap.size w w' :=
  strict_no _ h (by decide +kernel)
theorem neg_one (w : World) : Calls Try.prog 23 #[.agg #[.int .u64 (lw 1 0 : Nat), .int .u64 (lw 1 1 : Nat), .int .u64 (lw 1 2 : Nat), .int .u64 (lw 1 3 : Nat)]] w fun e w' => e = .returned (.agg #[.int .u64 (lw (Lq - 1) 0 : Nat), .int .u64 (lw (Lq - 1) 1 : Nat), .int .u64 (lw (Lq - 1) 2 : Nat), .int .u64 (lw (Lq - 1) 3 : Nat)]) ∧ Below w.heap.size w w' := by
  have h := neg_any 1 Lq_pos w
  rwa [show once (Lq - 1) = Lq - 1 from by decide +kernel] at h
theorem add_neg (w : World) : Calls Try.prog 19 #[.agg #[.int .u64 (lw 1 0 : Nat), .int .u64 (lw 1 1 : Nat), .int .u64 (lw 1 2 : Nat), .int .u64 (lw 1 3 : Nat)], .agg #[.int .u64 (lw (Lq - 1) 0 : Nat), .int .u64 (lw (Lq - 1) 1 : Nat), .int .u64 (lw (Lq - 1) 2 : Nat), .int .u64 (lw (Lq - 1) 3 : Nat)]] w fun e w' => e = .returned (.agg #[.int .u64 (lw 0 0 : Nat), .int .u64 (lw 0 1 : Nat), .int .u64 (lw 0 2 : Nat), .int .u64 (lw 0 3 : Nat)]) ∧ Below w.heap.size w w' := by
  have h := add_any 1 (Lq - 1) (by unfold Lq; omega) w
  rwa [show once (1 + (Lq - 1)) = 0 from by decide +kernel] at h
theorem same_00 (w : World) : Calls Try.prog 12 #[.agg #[.int .u64 (lw 0 0 : Nat), .int .u64 (lw 0 1 : Nat), .int .u64 (lw 0 2 : Nat), .int .u64 (lw 0 3 : Nat)], .agg #[.int .u64 (lw 0 0 : Nat), .int .u64 (lw 0 1 : Nat), .int .u64 (lw 0 2 : Nat), .int .u64 (lw 0 3 : Nat)]] w fun e w' => e = .returned (.bool true) ∧ Below w.heap.size w w' := same_any 0 0 (by omega) (by omega) w
theorem same_10 (w : World) : Calls Try.prog 12 #[.agg #[.int .u64 (lw 1 0 : Nat), .int .u64 (lw 1 1 : Nat), .int .u64 (lw 1 2 : Nat), .int .u64 (lw 1 3 : Nat)], .agg #[.int .u64 (lw 0 0 : Nat), .int .u64 (lw 0 1 : Nat), .int .u64 (lw 0 2 : Nat), .int .u64 (lw 0 3 : Nat)]] w fun e w' => e = .returned (.bool false) ∧ Below w.heap.size w w' := same_any 1 0 (by omega) (by omega) w
theorem bit_10 (w : World) : Calls Try.prog 13 #[.agg #[.int .u64 (lw 1 0 : Nat), .int .u64 (lw 1 1 : Nat), .int .u64 (lw 1 2 : Nat), .int .u64 (lw 1 3 : Nat)], .int .i64 0] w fun e w' => e = .returned (.int .i64 1) ∧ Below w.heap.size w w' := scbit_any 1 0 (by omega) w
theorem bit_11 (w : World) : Calls Try.prog 13 #[.agg #[.int .u64 (lw 1 0 : Nat), .int .u64 (lw 1 1 : Nat), .int .u64 (lw 1 2 : Nat), .int .u64 (lw 1 3 : Nat)], .int .i64 1] w fun e w' => e = .returned (.int .i64 0) ∧ Below w.heap.size w w' := scbit_any 1 1 (by omega) w
/-- Four cells of a number stay. -/
theorem keep4 (g n : Nat) {w w' : World} (h : w.cell? ⟨g, 0, none⟩ = some (.int .u64 (lw n 0 : Nat)) ∧ w.cell? ⟨g, 1, none⟩ = some (.int .u64 (lw n 1 : Nat)) ∧ w.cell? ⟨g, 2, none⟩ = some (.int .u64 (lw n 2 : Nat)) ∧ w.cell? ⟨g, 3, none⟩ = some (.int .u64 (lw n 3 : Nat))) (hb : Below w.heap.size w w') :
    w'.cell? ⟨g, 0, none⟩ = some (.int .u64 (lw n 0 : Nat)) ∧ w'.cell? ⟨g, 1, none⟩ = some (.int .u64 (lw n 1 : Nat)) ∧ w'.cell? ⟨g, 2, none⟩ = some (.int .u64 (lw n 2 : Nat)) ∧ w'.cell? ⟨g, 3, none⟩ = some (.int .u64 (lw n 3 : Nat)) := by
  obtain ⟨h0, h1, h2, h3⟩ := h
  exact ⟨by rw [hb.cell (cell_lt h0)]; exact h0, by rw [hb.cell (cell_lt h1)]; exact h1, by rw [hb.cell (cell_lt h2)]; exact h2, by rw [hb.cell (cell_lt h3)]; exact h3⟩
set_option maxHeartbeats 400000 in
theorem law7awake_any (w : World) : Calls Try.prog 8 #[] w fun e w' => e = .returned (.bool true) ∧ Below w.heap.size w w' := by
  go_enter Try.func8, Try.ntmps8
  go_wp2_with (first | (go_at_call 11; go_must (refine (strict_one (by exact rd_one (by simp))).mono ?_; rintro e w1 ⟨rfl, hb1⟩; have hbel1 : Below w.heap.size w w1 := Below.call (by repeat (first | (with_reducible refine Below.alloc' ?_ _) | (with_reducible refine Below.drew ?_) | (with_reducible refine below_drewN ?_ _) | ((with_reducible refine Below.setCell ?_ ?_ _); rotate_left; (focus (first | exact Nat.le_refl _ | (simp; done) | (simp; omega)))) | (with_reducible assumption) | (with_reducible exact Below.refl _ _))) hb1))     | (go_at_call 9; go_must (refine (wide_one (by exact rd_one (by simp))).mono ?_; rintro e w2 ⟨rfl, hb2⟩; have hbel2 : Below w.heap.size w w2 := Below.call (by repeat (first | (with_reducible refine Below.alloc' ?_ _) | (with_reducible refine Below.drew ?_) | (with_reducible refine below_drewN ?_ _) | ((with_reducible refine Below.setCell ?_ ?_ _); rotate_left; (focus (first | exact Nat.le_refl _ | (simp; done) | (simp; omega)))) | (with_reducible assumption) | (with_reducible exact Below.refl _ _))) hb2)))
  have hbel3 : Below w.heap.size w (w2.alloc (.cells #[.int .u64 (lw 1 0 : Nat), .int .u64 (lw 1 1 : Nat), .int .u64 (lw 1 2 : Nat), .int .u64 (lw 1 3 : Nat)] 27)) := Below.alloc' hbel2 _
  clear hbel1 hbel2 hb1 hb2
  have hst : ∀ W W' : World, (W.cell? ⟨w2.heap.size, 0, none⟩ = some (.int .u64 (lw 1 0 : Nat)) ∧ W.cell? ⟨w2.heap.size, 1, none⟩ = some (.int .u64 (lw 1 1 : Nat)) ∧ W.cell? ⟨w2.heap.size, 2, none⟩ = some (.int .u64 (lw 1 2 : Nat)) ∧ W.cell? ⟨w2.heap.size, 3, none⟩ = some (.int .u64 (lw 1 3 : Nat)) ∧ Below w.heap.size w W) → Below W.heap.size W W' → (W'.cell? ⟨w2.heap.size, 0, none⟩ = some (.int .u64 (lw 1 0 : Nat)) ∧ W'.cell? ⟨w2.heap.size, 1, none⟩ = some (.int .u64 (lw 1 1 : Nat)) ∧ W'.cell? ⟨w2.heap.size, 2, none⟩ = some (.int .u64 (lw 1 2 : Nat)) ∧ W'.cell? ⟨w2.heap.size, 3, none⟩ = some (.int .u64 (lw 1 3 : Nat)) ∧ Below w.heap.size w W') := by
    rintro W W' ⟨h0, h1, h2, h3, h4⟩ hb
    have := keep4 _ _ ⟨h0, h1, h2, h3⟩ hb
    exact ⟨this.1, this.2.1, this.2.2.1, this.2.2.2, Below.call h4 hb⟩
  have hst' := Lib.hid hst; clear hst; have hst := hst'; clear hst'
  have h0 : (w2.alloc (.cells #[.int .u64 (lw 1 0 : Nat), .int .u64 (lw 1 1 : Nat), .int .u64 (lw 1 2 : Nat), .int .u64 (lw 1 3 : Nat)] 27)).cell? ⟨w2.heap.size, 0, none⟩ = some (.int .u64 (lw 1 0 : Nat)) := by simp
  go_region_held3 (fun W => W.cell? ⟨w2.heap.size, 0, none⟩ = some (.int .u64 (lw 1 0 : Nat)) ∧ W.cell? ⟨w2.heap.size, 1, none⟩ = some (.int .u64 (lw 1 1 : Nat)) ∧ W.cell? ⟨w2.heap.size, 2, none⟩ = some (.int .u64 (lw 1 2 : Nat)) ∧ W.cell? ⟨w2.heap.size, 3, none⟩ = some (.int .u64 (lw 1 3 : Nat)) ∧ Below w.heap.size w W) (first | (first | assumption | (refine hst.out _ _ ?_ hb; assumption) | (refine hst.out _ _ ?_ (Below.alloc' (Below.refl _ _) _); assumption) | (refine hst.out _ _ ?_ (Below.drew (Below.refl _ _)); assumption)) | (simp [hbel3.drew])) (first | (go_at_call 13; go_must (first | ((with_reducible refine (bit_10 _).mono ?_); rintro e w3 ⟨rfl, hb⟩) | ((with_reducible refine (bit_11 _).mono ?_); rintro e w3 ⟨rfl, hb⟩))) | (go_at_call 23; (with_reducible refine (neg_one _).mono ?_); rintro e w3 ⟨rfl, hb⟩) | (go_at_call 19; (with_reducible refine (add_neg _).mono ?_); rintro e w3 ⟨rfl, hb⟩) | (go_at_call 9; (with_reducible refine (wide_nil _).mono ?_); rintro e w3 ⟨rfl, hb⟩) | (go_at_call 12; first | ((with_reducible refine (same_00 _).mono ?_); rintro e w3 ⟨rfl, hb⟩) | ((with_reducible refine (same_10 _).mono ?_); rintro e w3 ⟨rfl, hb⟩)))
  go_wp2
  go_ret
  have hf : ∀ W : World, (W.cell? ⟨w2.heap.size, 0, none⟩ = some (.int .u64 (lw 1 0 : Nat)) ∧ W.cell? ⟨w2.heap.size, 1, none⟩ = some (.int .u64 (lw 1 1 : Nat)) ∧ W.cell? ⟨w2.heap.size, 2, none⟩ = some (.int .u64 (lw 1 2 : Nat)) ∧ W.cell? ⟨w2.heap.size, 3, none⟩ = some (.int .u64 (lw 1 3 : Nat)) ∧ Below w.heap.size w W) → Below w.heap.size w W := fun W h => h.2.2.2.2
  exact ⟨rfl, hf _ (by assumption)⟩
/-! ### the contracts, of numbers mod L -/
theorem Lq256 {a : Nat} (h : a < Lq) : a < 2 ^ 256 := Nat.lt_trans h Lq_lt
/-- The document's operations. (Plain definitions: the walk's simp does not look into them.) -/
def sadd (a b : Nat) : Nat := (a + b) % Lq
def smul (a b : Nat) : Nat := a * b % Lq
def sneg (a : Nat) : Nat := (Lq - a) % Lq
theorem sadd_lt (a b : Nat) : sadd a b < Lq := Nat.mod_lt _ Lq_pos
theorem smul_lt (a b : Nat) : smul a b < Lq := Nat.mod_lt _ Lq_pos
theorem sneg_lt (a : Nat) : sneg a < Lq := Nat.mod_lt _ Lq_pos
/-- The number that bytes are read as. -/
def wN (l : List UInt8) : Nat := leN (first l 64) % Lq
theorem wN_lt (l : List UInt8) : wN l < Lq := Nat.mod_lt _ Lq_pos
theorem wideM {a : Option Addr} {n cap : Nat} {l : List UInt8} (w : World) (h : RdB w a n cap l) : Calls Try.prog 9 #[.slice a n cap] w fun e w' => e = .returned (.agg #[.int .u64 (lw (wN l) 0 : Nat), .int .u64 (lw (wN l) 1 : Nat), .int .u64 (lw (wN l) 2 : Nat), .int .u64 (lw (wN l) 3 : Nat)]) ∧ Below w.heap.size w w' := wide_any w h
theorem addM {a b : Nat} (ha : a < Lq) (hb : b < Lq) (w : World) : Calls Try.prog 19 #[.agg #[.int .u64 (lw a 0 : Nat), .int .u64 (lw a 1 : Nat), .int .u64 (lw a 2 : Nat), .int .u64 (lw a 3 : Nat)], .agg #[.int .u64 (lw b 0 : Nat), .int .u64 (lw b 1 : Nat), .int .u64 (lw b 2 : Nat), .int .u64 (lw b 3 : Nat)]] w fun e w' => e = .returned (.agg #[.int .u64 (lw (sadd a b) 0 : Nat), .int .u64 (lw (sadd a b) 1 : Nat), .int .u64 (lw (sadd a b) 2 : Nat), .int .u64 (lw (sadd a b) 3 : Nat)]) ∧ Below w.heap.size w w' := by
  have h := add_any a b (by unfold Lq at ha hb; omega) w
  rwa [once_mod (by omega)] at h
theorem negM {a : Nat} (ha : a < Lq) (w : World) : Calls Try.prog 23 #[.agg #[.int .u64 (lw a 0 : Nat), .int .u64 (lw a 1 : Nat), .int .u64 (lw a 2 : Nat), .int .u64 (lw a 3 : Nat)]] w fun e w' => e = .returned (.agg #[.int .u64 (lw (sneg a) 0 : Nat), .int .u64 (lw (sneg a) 1 : Nat), .int .u64 (lw (sneg a) 2 : Nat), .int .u64 (lw (sneg a) 3 : Nat)]) ∧ Below w.heap.size w w' := by
  have h := neg_any a (by omega) w
  rwa [once_mod (by have := Lq_pos; omega)] at h
theorem mulM {a b : Nat} (ha : a < Lq) (hb : b < Lq) (w : World) : Calls Try.prog 21 #[.agg #[.int .u64 (lw a 0 : Nat), .int .u64 (lw a 1 : Nat), .int .u64 (lw a 2 : Nat), .int .u64 (lw a 3 : Nat)], .agg #[.int .u64 (lw b 0 : Nat), .int .u64 (lw b 1 : Nat), .int .u64 (lw b 2 : Nat), .int .u64 (lw b 3 : Nat)]] w fun e w' => e = .returned (.agg #[.int .u64 (lw (smul a b) 0 : Nat), .int .u64 (lw (smul a b) 1 : Nat), .int .u64 (lw (smul a b) 2 : Nat), .int .u64 (lw (smul a b) 3 : Nat)]) ∧ Below w.heap.size w w' := scmul_any a b (Lq256 ha) (Lq256 hb) w
theorem sameT {a b : Nat} (ha : a < Lq) (h : a = b) (w : World) : Calls Try.prog 12 #[.agg #[.int .u64 (lw a 0 : Nat), .int .u64 (lw a 1 : Nat), .int .u64 (lw a 2 : Nat), .int .u64 (lw a 3 : Nat)], .agg #[.int .u64 (lw b 0 : Nat), .int .u64 (lw b 1 : Nat), .int .u64 (lw b 2 : Nat), .int .u64 (lw b 3 : Nat)]] w fun e w' => e = .returned (.bool true) ∧ Below w.heap.size w w' := by
  have h' := same_any a b (Lq256 ha) (Lq256 (h ▸ ha)) w
  rwa [decide_eq_true h] at h'
/-! ### the plain laws -/
theorem pl_mul_comm (x y : Nat) : smul x y = smul y x := by unfold smul; rw [Nat.mul_comm]
theorem pl_mul_add (x y z : Nat) : smul x (sadd y z) = sadd (smul x y) (smul x z) := by
  unfold smul sadd; rw [Nat.mul_mod, Nat.mod_mod, ← Nat.mul_mod, Nat.mul_add, Nat.add_mod]
theorem pl_mul_assoc (x y z : Nat) : smul (smul x y) z = smul x (smul y z) := by
  unfold smul; rw [Nat.mul_mod, Nat.mod_mod, ← Nat.mul_mod, Nat.mul_mod x, Nat.mod_mod, ← Nat.mul_mod, Nat.mul_assoc]
theorem pl_neg (x : Nat) (h : x < Lq) : sadd x (sneg x) = 0 := by
  unfold sadd sneg; rw [Nat.add_mod, Nat.mod_mod, ← Nat.add_mod, show x + (Lq - x) = Lq from by omega, Nat.mod_self]
theorem pl_mul_one (x : Nat) (h : x < Lq) : smul x 1 = x := by unfold smul; rw [Nat.mul_one, Nat.mod_eq_of_lt h]
end Go.Proofs.Ytbgfokdchpcifaa
