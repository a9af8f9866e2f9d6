/- What EV rests on, part 3 of 6: my own texts, put together (merge.py). -/
import Derived.Deep.RegionHeld3
import Derived.WalkKit
import Derived.ProofKit
import Derived.Lib.Hide
import Derived.OpenShut
import Derived.Deep.MidRow
import Derived.Test.YtielgpefoameiaaGreatRows
import Derived.WalkSpells
import Derived.StillTactics
import Derived.Laws.Pointers
import Derived.Laws.CopyOwn
import Derived.Laws.AppendOwnNone
import Derived.RowKit3
import Derived.BigQuiet
import Derived.Deep.QuietTactic
import Derived.Deep.LoopGhost
import Derived.Deep.DeepFit
import Derived.WalkLawsBesides
import Derived.Shelf.Spec.BitsCarry
import Derived.Laws.IdiomStrings
import Derived.Deep.WholeRow
import Derived.Laws.Rows
import Derived.Deep.DeepCutAuto
import Derived.Lib.AppendZerosOnto
import Derived.Lib.SliceRun
import Derived.Deep.Matrix
import Derived.Deep.AppendLies
import Derived.ShutString
import Derived.ChangeOld
import Derived.Test.YtielgpefoameiaaGreatZEVB
set_option maxRecDepth 100000
namespace Go.Proofs.YtielgpefoameiaaGreat
open Go.RowKit
def smlF (n j i : Nat) : Nat := if i < j then d16 n i else 0
theorem sml_row (n : Nat) : row 16 (fV (smlF n 4)) = [.int .u64 (d16 n 0 : Nat), .int .u64 (d16 n 1 : Nat), .int .u64 (d16 n 2 : Nat), .int .u64 (d16 n 3 : Nat), .int .u64 0, .int .u64 0, .int .u64 0, .int .u64 0, .int .u64 0, .int .u64 0, .int .u64 0, .int .u64 0, .int .u64 0, .int .u64 0, .int .u64 0, .int .u64 0] := rfl
theorem sml_d16 (n : Nat) (h : n < 18446744073709551616) : row 16 (fV (smlF n 4)) = row 16 (fV (d16 n)) := row_ext fun i hi => by
 unfold fV smlF
 by_cases h4 : i < 4
 ·rw [if_pos h4]
 ·rw [if_neg h4]
  have : n / 65536 ^ i = 0 := Nat.div_eq_of_lt (Nat.lt_of_lt_of_le h (show 65536 ^ 4 ≤ 65536 ^ i from Nat.pow_le_pow_right (by omega) (by omega)))
  simp [d16, this]
theorem sml_and (n k : Nat) (h : n < 18446744073709551616) : bits BinOp.and IntKind.u64 ((n / 65536 ^ k : Nat) : Int) 65535 = (d16 n k : Nat) :=
 and16 _ (Nat.lt_of_le_of_lt (Nat.div_le_self _ _) h)
set_option maxHeartbeats 1000000 in
theorem rsmall_any (n : Nat) (hn : n < 18446744073709551616) (w : World) :
  Calls Tryz.prog 77 #[.int .u64 n] w fun e w' => e = .returned (.agg (row 16 (fV (d16 n))).toArray) ∧ Below w.heap.size w w' := by
 have HR := Lib.hid (sml_d16 n hn)
 obtain ⟨ni, hni⟩ : ∃ ni : Int, ni = (n : Int) := ⟨_, rfl⟩
 have a0 : bits BinOp.and IntKind.u64 ni 65535 = (d16 n 0 : Nat) := by have := sml_and n 0 hn; rw [Nat.pow_zero, Nat.div_one] at this; rw [hni]; exact this
 have a1 : bits BinOp.and IntKind.u64 (ni / 65536) 65535 = (d16 n 1 : Nat) := by have := sml_and n 1 hn; rw [hni]; simpa using this
 have a2 : bits BinOp.and IntKind.u64 (ni / 4294967296) 65535 = (d16 n 2 : Nat) := by have := sml_and n 2 hn; rw [hni]; simpa using this
 have a3 : bits BinOp.and IntKind.u64 (ni / 281474976710656) 65535 = (d16 n 3 : Nat) := by have := sml_and n 3 hn; rw [hni]; simpa using this
 have h0 : 0 ≤ ni := by omega
 have h1 : ni < 18446744073709551616 := by omega
 rw [← hni]
 clear hni hn
 have HS := Lib.hid (sml_row n)
 generalize d16 n 0 = x0 at *
 generalize d16 n 1 = x1 at *
 generalize d16 n 2 = x2 at *
 generalize d16 n 3 = x3 at *
 go_enter Tryz.func77, Tryz.ntmps77
 go_wp2
 refine wp_loop_rounds 5 ?_
 iterate 4 (rw [rounds_succ]; go_wp2)
 rw [rounds_succ]
 go_wp2
 refine bodyPost_ret (v := .agg (row 16 (fV (smlF n 4))).toArray) ?_ rfl ⟨by rw [HR.out], belowBy⟩
 rw [HS.out]
 simp [results, Tryz.results77, go_sem]
theorem fn_small {n : Nat} (h : n < Pq) : (fn n).val = n := Nat.mod_eq_of_lt h
theorem rsmallM (n : Nat) (hn : n < 18446744073709551616) (w : World) :
  Calls Tryz.prog 77 #[.int .u64 n] w fun e w' => e = .returned (.agg (row 16 (fV (d16 (fn n).val))).toArray) ∧ Below w.heap.size w w' := by
 rw [fn_small (by unfold Pq; omega)]
 exact rsmall_any n hn w
theorem zero_row : row 16 (fV (d16 (0 : F).val)) = [.int .u64 0, .int .u64 0, .int .u64 0, .int .u64 0, .int .u64 0, .int .u64 0, .int .u64 0, .int .u64 0, .int .u64 0, .int .u64 0, .int .u64 0, .int .u64 0, .int .u64 0, .int .u64 0, .int .u64 0, .int .u64 0] := by
 rw [show (0 : F).val = 0 from rfl]; simp only [row16, fV, d16, Nat.zero_div, Nat.zero_mod]; rfl
theorem rsub0 (x : F) (w : World) :
  Calls Tryz.prog 101 #[.agg #[.int .u64 0, .int .u64 0, .int .u64 0, .int .u64 0, .int .u64 0, .int .u64 0, .int .u64 0, .int .u64 0, .int .u64 0, .int .u64 0, .int .u64 0, .int .u64 0, .int .u64 0, .int .u64 0, .int .u64 0, .int .u64 0], .agg (row 16 (fV (d16 x.val))).toArray] w fun e w' => e = .returned (.agg (row 16 (fV (d16 (-x).val))).toArray) ∧ Below w.heap.size w w' := by
 have h := rsubM 0 x w
 rw [zero_row, show (0 : F) - x = -x from by grind] at h
 exact h
set_option maxHeartbeats 1000000 in
theorem rnegM (x : F) (w : World) :
  Calls Tryz.prog 104 #[.agg (row 16 (fV (d16 x.val))).toArray] w fun e w' => e = .returned (.agg (row 16 (fV (d16 (-x).val))).toArray) ∧ Below w.heap.size w w' := by
 have HC := Lib.hid (fun w => rsub0 x w)
 generalize (-x).val = R at *
 generalize d16 x.val = f at *
 go_enter Tryz.func104, Tryz.ntmps104
 go_upto_region 1 with fail
 refine wp_gen (fun W => Blk W w.heap.size (row 16 (fV f)) 62 ∧ Blk W (w.heap.size + 1) [.int .u64 0, .int .u64 0, .int .u64 0, .int .u64 0, .int .u64 0, .int .u64 0, .int .u64 0, .int .u64 0, .int .u64 0, .int .u64 0, .int .u64 0, .int .u64 0, .int .u64 0, .int .u64 0, .int .u64 0, .int .u64 0] 62 ∧ Below w.heap.size w W) ?_ (fun W0 hW => ?_)
 ·exact ⟨(Blk.new w _ _).alloc _, Blk.new' (by simp), belowBy⟩
 obtain ⟨hA, hO, hbel⟩ := hW
 have hAr := hA.range
 have HO := Lib.hid hO
 clear hA hO
 go_wp2_with (first | (refine wpList_load_mid rfl 62 (.tmp 1) rfl w.heap.size 0 rfl (row 16 (fV f)) _ hAr Tryz.underlying62 rfl (infoFe _) ?_) | (go_at_call 101; (with_reducible refine (HC.out _).mono ?_; rintro e w2 ⟨rfl, hb⟩; obtain ⟨W3, hst3, hB3, hbel3, _, _⟩ := st_row (n := 16) (HO.out.below' hb) rfl (Below.call hbel hb) (by omega) (d16 R); clear hAr hb; have HB3 := Lib.hid hB3; clear hB3)))
 refine bodyPost_ret (v := .agg (row 16 (fV (d16 R))).toArray) (results_cell_row Tryz.results104 _ _ (w.heap.size + 1) _ _ _ _ ?_ HB3.out Tryz.underlying62 ?_ (infoFeA _)) ?_ ?_
 ·rfl
 ·rfl
 ·rfl
 ·exact ⟨rfl, hbel3⟩
def updF (c : Nat → Nat) (m v i : Nat) : Nat := if i = m then v else c i
theorem updF_row (n : Nat) (c : Nat → Nat) (m v : Nat) : (row n (fV c)).set m (.int .u64 (v : Nat)) = row n (fV (updF c m v)) :=
 row_set m _ (by simp [fV, updF]) (fun i _ hi => by simp [fV, updF, hi])
theorem v16_upd (c : Nat → Nat) (m a : Nat) : ∀ n, m < n → v16 (updF c m (c m + a)) n = v16 c n + a * 65536 ^ m
 | 0, h => by omega
 | n + 1, h => by
  by_cases e : m = n
  ·subst e
   have h1 : v16 (updF c m (c m + a)) m = v16 c m := v16_congr m fun i hi => by unfold updF; rw [if_neg (by omega)]
   simp only [v16]
   rw [h1]
   simp only [updF, if_true]
   rw [Nat.add_mul]; omega
  ·have ih := v16_upd c m a n (by omega)
   simp only [v16]
   rw [ih]
   simp only [updF, if_neg (fun x : n = m => e x.symm)]
   omega
theorem v16_succ (f : Nat → Nat) (n : Nat) : v16 f (n + 1) = v16 f n + f n * 65536 ^ n := rfl
def MM : Nat := 4294836225
theorem prod_le (x y i k : Nat) : d16 x i * d16 y k ≤ MM := by
 have h1 := d16_lt x i; have h2 := d16_lt y k
 exact Nat.le_trans (Nat.mul_le_mul (show d16 x i ≤ 65535 by omega) (show d16 y k ≤ 65535 by omega)) (by decide)
structure MulIn (f g c : Nat → Nat) (i k : Nat) : Prop where
 lo : ∀ j, c j ≤ (i + 1) * MM
 hi : ∀ j, i + k ≤ j → c j ≤ i * MM
 v : v16 c 32 = v16 f i * v16 g 16 + f i * 65536 ^ i * v16 g k
structure MulOut (f g c : Nat → Nat) (i : Nat) : Prop where
 lo : ∀ j, c j ≤ i * MM
 v : v16 c 32 = v16 f i * v16 g 16
theorem MulOut.start (f g : Nat → Nat) : MulOut f g (fun _ => 0) 0 := ⟨fun _ => by omega, by rw [show v16 f 0 = 0 from rfl, Nat.zero_mul]; rfl⟩
theorem MulOut.into {f g c : Nat → Nat} {i : Nat} (h : MulOut f g c i) : MulIn f g c i 0 :=
 ⟨fun j => Nat.le_trans (h.lo j) (Nat.mul_le_mul_right _ (by omega)), fun j _ => h.lo j, by rw [h.v, show v16 g 0 = 0 from rfl, Nat.mul_zero, Nat.add_zero]⟩
theorem MulIn.step {f g c : Nat → Nat} {i k : Nat} (h : MulIn f g c i k) (hk : k < 16) (hi : i < 16) (hp : f i * g k ≤ MM) : MulIn f g (updF c (i + k) (c (i + k) + f i * g k)) i (k + 1) := by
 have e : (i + 1) * MM = i * MM + MM := by rw [Nat.add_mul, Nat.one_mul]
 refine ⟨fun j => ?_, fun j hj => ?_, ?_⟩
 ·unfold updF
  split
  ·have := h.hi (i + k) (Nat.le_refl _); omega
  ·exact h.lo j
 ·unfold updF
  rw [if_neg (by omega)]
  exact h.hi j (by omega)
 ·rw [v16_upd _ _ _ _ (by omega), h.v, v16_succ g k, Nat.pow_add]
  generalize v16 f i * v16 g 16 = A
  generalize v16 g k = B
  generalize 65536 ^ i = C
  generalize 65536 ^ k = D
  rw [Nat.mul_add, Nat.add_assoc]
  congr 2
  grind
theorem MulIn.out {f g c : Nat → Nat} {i : Nat} (h : MulIn f g c i 16) : MulOut f g c (i + 1) :=
 ⟨h.lo, by rw [h.v, v16_succ f i, Nat.add_mul]⟩
def fldF (c : Nat → Nat) (i : Nat) : Nat := c i + 38 * c (i + 16)
theorem v16_append (c : Nat → Nat) (m : Nat) : ∀ n, v16 c (m + n) = v16 c m + 65536 ^ m * v16 (fun i => c (i + m)) n
 | 0 => by simp [v16]
 | n + 1 => by
  show v16 c (m + n) + c (m + n) * 65536 ^ (m + n) = _
  rw [v16_append c m n]
  simp only [v16]
  rw [Nat.pow_add, Nat.add_comm n m]
  grind
theorem fldF_v (c : Nat → Nat) : v16 (fldF c) 16 % Pq = v16 c 32 % Pq := by
 rw [show v16 c 32 = v16 c (16 + 16) from rfl, v16_append c 16 16]
 rw [show fldF c = fun i => c i + (fun i => 38 * (fun i => c (i + 16)) i) i from rfl, v16_add, v16_mul]
 generalize v16 (fun i => c (i + 16)) 16 = H
 generalize v16 c 16 = L
 rw [Nat.add_mod L (65536 ^ 16 * H), Nat.mul_mod, show (65536 ^ 16 : Nat) % Pq = 38 from by decide +kernel, Nat.add_mod L (38 * H), Nat.mul_mod 38 H, show 38 % Pq = 38 from by decide +kernel]
theorem MulOut.fin {x y : F} {c : Nat → Nat} (h : MulOut (d16 x.val) (d16 y.val) c 16) : v16 (fldF c) 16 % Pq = (x * y).val := by
 rw [fldF_v, h.v, d16_v x.isLt, d16_v y.isLt]; rfl
theorem fld_le {c : Nat → Nat} (h : ∀ j, c j ≤ 16 * MM) (i : Nat) : fldF c i ≤ 17592186044416 := by
 have h1 := h i; have h2 := h (i + 16); unfold fldF; unfold MM at *; omega
theorem mul_step {f g c : Nat → Nat} {i k : Nat} (hi : i < 16) (hc : ∀ j, i + k ≤ j → c j ≤ i * MM) (hp : f i * g k ≤ MM) :
  ∃ p : Nat, IntKind.u64.wrap ((f i : Nat) * (g k : Nat) : Int) = (p : Int) ∧ IntKind.u64.wrap ((c (i + k) : Nat) + (p : Nat) : Int) = (updF c (i + k) (c (i + k) + f i * g k) (i + k) : Nat) := by
 have h1 := hc (i + k) (Nat.le_refl _)
 have h2 : i * MM ≤ 15 * MM := Nat.mul_le_mul_right _ (by omega)
 unfold MM at *
 refine ⟨f i * g k, ?_, ?_⟩
 ·rw [show ((f i : Nat) : Int) * (g k : Nat) = ((f i * g k : Nat) : Int) from by simp, wrapU]; omega
 ·rw [wrapU]; simp only [updF, if_true]; omega
theorem fold_step {c : Nat → Nat} (h : ∀ j, c j ≤ 16 * MM) (i : Nat) : ∃ p : Nat, IntKind.u64.wrap (38 * (c (i + 16) : Nat) : Int) = (p : Int) ∧ IntKind.u64.wrap ((c i : Nat) + (p : Nat) : Int) = (fldF c i : Nat) := by
 have h1 := h i; have h2 := h (i + 16)
 unfold MM at *
 refine ⟨38 * c (i + 16), ?_, ?_⟩
 ·rw [wrapU]; omega
 ·rw [wrapU]; unfold fldF; omega
set_option maxHeartbeats 2000000 in
theorem rmulM (x y : F) (w : World) :
  Calls Tryz.prog 78 #[.agg (row 16 (fV (d16 x.val))).toArray, .agg (row 16 (fV (d16 y.val))).toArray] w fun e w' => e = .returned (.agg (row 16 (fV (d16 (x * y).val))).toArray) ∧ Below w.heap.size w w' := by
 have HV := Lib.hid (fun c (h : MulOut (d16 x.val) (d16 y.val) c 16) => h.fin)
 generalize (x * y).val = R at *
 have HP := Lib.hid (fun i k => prod_le x.val y.val i k)
 generalize d16 x.val = f at *
 generalize d16 y.val = g at *
 go_enter Tryz.func78, Tryz.ntmps78
 go_upto_region 2 with fail
 refine wp_gen (fun W => Blk W w.heap.size (row 16 (fV f)) 62 ∧ Blk W (w.heap.size + 1) (row 16 (fV g)) 62 ∧ Blk W (w.heap.size + 1 + 1) [.int .u64 0, .int .u64 0, .int .u64 0, .int .u64 0, .int .u64 0, .int .u64 0, .int .u64 0, .int .u64 0, .int .u64 0, .int .u64 0, .int .u64 0, .int .u64 0, .int .u64 0, .int .u64 0, .int .u64 0, .int .u64 0] 62 ∧ Blk W (w.heap.size + 1 + 1 + 1) (row 32 (fV fun _ => 0)) 135 ∧ Below w.heap.size w W) ?_ (fun W0 hW => ?_)
 ·exact ⟨(((Blk.new w _ _).alloc _).alloc _).alloc _, ((Blk.new' (by simp)).alloc _).alloc _, (Blk.new' (by simp)).alloc _, Blk.new' (by simp), belowBy⟩
 obtain ⟨hA, hB, hO, hC, hbel⟩ := hW
 go_wp2
 go_loopw [6] (fun i wr => ∃ (j : Nat) (c : Nat → Nat), j ≤ 16 ∧ i = .int .i64 j ∧ Blk wr w.heap.size (row 16 (fV f)) 62 ∧ Blk wr (w.heap.size + 1) (row 16 (fV g)) 62 ∧ Blk wr (w.heap.size + 1 + 1) [.int .u64 0, .int .u64 0, .int .u64 0, .int .u64 0, .int .u64 0, .int .u64 0, .int .u64 0, .int .u64 0, .int .u64 0, .int .u64 0, .int .u64 0, .int .u64 0, .int .u64 0, .int .u64 0, .int .u64 0, .int .u64 0] 62 ∧ Blk wr (w.heap.size + 1 + 1 + 1) (row 32 (fV c)) 135 ∧ MulOut f g c j ∧ Below w.heap.size w wr) (fun i _ => 16 - (intOf i).toNat)
 case atStart => exact ⟨0, fun _ => 0, by omega, rfl, hA, hB, hO, hC, MulOut.start f g, hbel⟩
 case round =>
  clear hA hB hO hC hbel W0
  obtain ⟨j, c, hj, rfl, hA, hB, hO, hC, hM, hbel⟩ := hrel
  by_cases hlj : j < 16
  ·have HA := Lib.hid hA; have HB := Lib.hid hB; have HO := Lib.hid hO; have HC := Lib.hid hC; have HM := Lib.hid hM
   clear hA hB hO hC hM
   obtain ⟨wo, rfl⟩ : ∃ wo : World, wo = wr := ⟨_, rfl⟩
   have hd : decide ((j : Int) < 16) = true := by simp; omega
   go_wp2
   go_loopw [7] (fun kk wr => ∃ (k : Nat) (c : Nat → Nat), k ≤ 16 ∧ kk = .int .i64 k ∧ Blk wr w.heap.size (row 16 (fV f)) 62 ∧ Blk wr (w.heap.size + 1) (row 16 (fV g)) 62 ∧ Blk wr (w.heap.size + 1 + 1) [.int .u64 0, .int .u64 0, .int .u64 0, .int .u64 0, .int .u64 0, .int .u64 0, .int .u64 0, .int .u64 0, .int .u64 0, .int .u64 0, .int .u64 0, .int .u64 0, .int .u64 0, .int .u64 0, .int .u64 0, .int .u64 0] 62 ∧ Blk wr (w.heap.size + 1 + 1 + 1) (row 32 (fV c)) 135 ∧ MulIn f g c j k ∧ Below w.heap.size w wr) (fun kk _ => 16 - (intOf kk).toNat)
   case atStart => exact ⟨0, c, by omega, rfl, HA.out, HB.out, HO.out, HC.out, HM.out.into, hbel⟩
   case round =>
    clear HA HB HO HC HM hbel
    obtain ⟨k, c, hk, rfl, hA, hB, hO, hC, hM, hbel⟩ := hrel
    by_cases hlk : k < 16
    ·obtain ⟨p, s1, s2⟩ := mul_step (f := f) (g := g) hlj hM.hi (HP.out j k)
     have HM := Lib.hid (hM.step hlk hlj (HP.out j k))
     obtain ⟨m, hm⟩ : ∃ m, m = j + k := ⟨_, rfl⟩
     have HMe := Lib.hid hm
     rw [← hm] at s2 HM
     have ca : wr.cell? ⟨w.heap.size, j, none⟩ = some (.int .u64 (f j : Nat)) := hA.at hlj
     have cb : wr.cell? ⟨w.heap.size + 1, k, none⟩ = some (.int .u64 (g k : Nat)) := hB.at hlk
     have cc : wr.cell? ⟨w.heap.size + 1 + 1 + 1, m, none⟩ = some (.int .u64 (c m : Nat)) := hC.at (by omega)
     have hwm : IntKind.i64.wrap ((j : Int) + (k : Int)) = (m : Int) := by rw [hm]; exact IntWalk.i64_in _ (by omega)
     have hwm' : (j : Int) + (k : Int) = (m : Int) := by omega
     have hm32 : m < 32 := by omega
     have hfr := hC.frozen m
     generalize hu : updF c m (c m + f j * g k) = u at *
     have hC2 := hC.set m (.int .u64 (u m : Nat))
     rw [show (row 32 (fV c)).set m (.int .u64 (u m : Nat)) = row 32 (fV u) from by rw [← hu, show updF c m (c m + f j * g k) m = c m + f j * g k from by simp [updF]]; exact updF_row 32 c m _] at hC2
     have HA := Lib.hid (hA.other ⟨w.heap.size + 1 + 1 + 1, m, none⟩ (by simp <;> omega) (.int .u64 (u m : Nat)))
     have HB := Lib.hid (hB.other ⟨w.heap.size + 1 + 1 + 1, m, none⟩ (by simp <;> omega) (.int .u64 (u m : Nat)))
     have HO := Lib.hid (hO.other ⟨w.heap.size + 1 + 1 + 1, m, none⟩ (by simp <;> omega) (.int .u64 (u m : Nat)))
     have HC := Lib.hid hC2
     have HBel : Hid (Below w.heap.size w (wr.setCell ⟨w.heap.size + 1 + 1 + 1, m, none⟩ (.int .u64 (u m : Nat)))) := Lib.hid (hbel.setCell (by simp <;> omega) _)
     clear hA hB hO hC hC2 hM hu hm
     go_wp2
     go_region
     go_wp2
     go_roundw
     case rel => exact ⟨k + 1, u, by omega, by go_num, HA.out.drew, HB.out.drew, HO.out.drew, HC.out.drew, HM.out, HBel.out.drew⟩
     case measure => simp [intOf]; omega
    ·obtain rfl : k = 16 := by omega
     have HA := Lib.hid hA; have HB := Lib.hid hB; have HO := Lib.hid hO; have HC := Lib.hid hC; have HM := Lib.hid hM.out
     clear hA hB hO hC hM hlk hk
     go_wp2
     go_roundw
     case rel => exact ⟨j + 1, c, by omega, by go_num, HA.out, HB.out, HO.out, HC.out, HM.out, hbel⟩
     case measure => simp [intOf]; omega
  ·obtain rfl : j = 16 := by omega
   have HS := Lib.hid (fold_step hM.lo)
   have HL := Lib.hid (fld_le hM.lo)
   have HR := Lib.hid (HV.out c hM)
   have HC := Lib.hid hC; have HO := Lib.hid hO
   clear hA hB hC hO hM hlj hj
   go_upto_region 10 with fail
   have hq : w.heap.size + 1 + 1 + 1 < wr.heap.size := HC.out.lt
   refine wp_gen (fun W => Blk W (w.heap.size + 1 + 1) [.int .u64 0, .int .u64 0, .int .u64 0, .int .u64 0, .int .u64 0, .int .u64 0, .int .u64 0, .int .u64 0, .int .u64 0, .int .u64 0, .int .u64 0, .int .u64 0, .int .u64 0, .int .u64 0, .int .u64 0, .int .u64 0] 62 ∧ Blk W (w.heap.size + 1 + 1 + 1) (row 32 (fV c)) 135 ∧ Blk W wr.heap.size (row 16 (fV (upV (fldF c) 0))) 62 ∧ Below w.heap.size w W) ?_ (fun W0 hW => ?_)
   ·exact ⟨HO.out.alloc _, HC.out.alloc _, Blk.new' (by simp), belowBy⟩
   clear HO HC hbel
   generalize wr.heap.size = q at *
   have HQ := Lib.hid hq
   clear hq wr
   obtain ⟨hO, hC, hA, hbel⟩ := hW
   go_wp2
   go_loopw [9] (fun i wr => ∃ j : Nat, j ≤ 16 ∧ i = .int .i64 j ∧ Blk wr (w.heap.size + 1 + 1) [.int .u64 0, .int .u64 0, .int .u64 0, .int .u64 0, .int .u64 0, .int .u64 0, .int .u64 0, .int .u64 0, .int .u64 0, .int .u64 0, .int .u64 0, .int .u64 0, .int .u64 0, .int .u64 0, .int .u64 0, .int .u64 0] 62 ∧ Blk wr (w.heap.size + 1 + 1 + 1) (row 32 (fV c)) 135 ∧ Blk wr q (row 16 (fV (upV (fldF c) j))) 62 ∧ Below w.heap.size w wr) (fun i _ => 16 - (intOf i).toNat)
   case atStart => exact ⟨0, by omega, rfl, hO, hC, hA, hbel⟩
   case round =>
    clear hO hC hA hbel W0
    obtain ⟨j, hj, rfl, hO, hC, hA, hbel⟩ := hrel
    by_cases hlj : j < 16
    ·obtain ⟨p, s1, s2⟩ := HS.out j
     have ca : wr.cell? ⟨w.heap.size + 1 + 1 + 1, j, none⟩ = some (.int .u64 (c j : Nat)) := hC.at (by omega)
     have cb : wr.cell? ⟨w.heap.size + 1 + 1 + 1, j + 16, none⟩ = some (.int .u64 (c (j + 16) : Nat)) := hC.at (by omega)
     have cq : wr.cell? ⟨q, j, none⟩ = some (.int .u64 (upV (fldF c) j j : Nat)) := hA.at hlj
     have hfr := hA.frozen j
     have hA2 := hA.set j (.int .u64 (fldF c j : Nat))
     rw [upV_step] at hA2
     have HA := Lib.hid hA2
     have HC := Lib.hid (hC.other ⟨q, j, none⟩ (by have := HQ.out; simp; omega) (.int .u64 (fldF c j : Nat)))
     have HO := Lib.hid (hO.other ⟨q, j, none⟩ (by have := HQ.out; simp; omega) (.int .u64 (fldF c j : Nat)))
     have HBel : Hid (Below w.heap.size w (wr.setCell ⟨q, j, none⟩ (.int .u64 (fldF c j : Nat)))) := Lib.hid (hbel.setCell (by have := HQ.out; simp; omega) _)
     clear hA hA2 hC hO
     go_wp2
     go_region
     go_wp2
     go_roundw
     case rel => exact ⟨j + 1, by omega, by go_num, HO.out.drew, HC.out.drew, HA.out.drew, HBel.out.drew⟩
     case measure => simp [intOf]; omega
    ·obtain rfl : j = 16 := by omega
     rw [upV_full] at hA
     have hAr := hA.range
     have HO := Lib.hid hO
     clear hA hO hC hlj hj
     go_wp2_with (first | (refine wpList_load_mid rfl 62 (.tmp 8) rfl q 0 rfl (row 16 (fV (fldF c))) _ hAr Tryz.underlying62 rfl (infoFe _) ?_) | (go_at_call 117; (with_reducible refine (rcarried_any (fldF c) HL.out _).mono ?_; rintro e w2 ⟨rfl, hb⟩; rw [HR.out]; obtain ⟨W3, hst3, hB3, hbel3, _, _⟩ := st_row (n := 16) (HO.out.below' hb) rfl (Below.call hbel hb) (by omega) (d16 R); clear hAr hb; have HB3 := Lib.hid hB3; clear hB3)))
     refine bodyPost_ret (v := .agg (row 16 (fV (d16 R))).toArray) (results_cell_row Tryz.results78 _ _ (w.heap.size + 1 + 1) _ _ _ _ ?_ HB3.out Tryz.underlying62 ?_ (infoFeA _)) ?_ ?_
     ·rfl
     ·rfl
     ·rfl
     ·exact ⟨rfl, hbel3⟩
theorem app_step {ops : Array Oper} {o : Oper} {a : Act} {w : World} {K : Act → World → Prop} {Q : Exit → Act → World → Prop} {E : Prop} (hgd : o.guard = none) (s x : Operand)
  (ho : o.op = .call { callee := .builtin .append, args := #[s, x], argTypes := #[22, 22] }) (base : Nat) (v : Value) (n : Nat) (l : List UInt8) (hs : a.eval s = v) (hown : w.ownsRow base 5 1 v n (l.map bV))
  (ad : Addr) (m sc : Nat) (r : List UInt8) (hx : a.eval x = .slice (some ad) m sc) (hr : RdB w (some ad) m sc r) (hm : 0 < m) (hlen : n + m ≤ 70368744177664) (hbase : base ≤ w.heap.size) (w0 : World) (hb0 : Below base w0 w)
  (h : ∀ v' w', w'.ownsRow base 5 1 v' (n + m) ((l ++ r).map bV) → Below base w0 w' → K (a.put o.dst v') w') : if Region.wanted o (yielded ops a.tmps) = true then Oper.wp Tryz.prog o a w K Q else E := by
 obtain ⟨i0, hi, hz0, hz1, hz2⟩ := info_parts (show (Tryz.prog.info? 5).map (fun i => (i.zero, i.size, i.bytes)) = some (some (.int .u8 0), 1, 1) from by kernel_rfl)
 refine step_append_lies w hgd s x 22 ho base 5 i0 (.int .u8 0) 1 1 Tryz.underlying22 hi hz0 hz1 hz2 rfl (by decide) v n (l.map bV) hs hown ad m sc (r.map bV) hx (by simp [hr.hlen]) ?_ ?_ hm (by unfold maxLen; omega) (by omega) hbase _ rfl ?_
 ·intro j u hu
  obtain ⟨hj, hv⟩ := List.getElem?_eq_some_iff.1 hu
  simp at hj
  obtain ⟨b, q, hab, hc⟩ := hr.get j hj
  simp at hab
  subst hab
  rw [show Addr.add ⟨b, q, none⟩ j = ⟨b, q + j, none⟩ from by unfold Addr.add; split <;> simp_all, hc, ← hv]
  simp
 ·intro u hu
  simp at hu
  obtain ⟨c, _, rfl⟩ := hu
  rfl
 ·intro g cap w' hown' hgr _ _
  rw [← List.map_append] at hown'
  refine h _ w' hown' (hb0.grown hgr hbase fun q hq => ?_)
  rcases hown.2 with ⟨h, _⟩ | ⟨g, cap, cur, hv, hg, _⟩
  ·rw [h] at hq; simp [Value.ownBlock] at hq
  ·rw [hv] at hq; simp [Value.ownBlock] at hq; omega
theorem two_bytes (n k : Nat) (x : Int) (hx : x = (d16 n k : Nat)) : ∃ (x0 x1 : Int) (b0 b1 : UInt8), IntKind.u8.wrap x = x0 ∧ IntKind.u8.wrap x1 = x1 ∧ x / 256 = x1 ∧ bV b0 = .int .u8 x0 ∧ bV b1 = .int .u8 x1 ∧ leB (2 * (k + 1)) n = leB (2 * k) n ++ [b0, b1] := by
 have h := d16_lt n k
 refine ⟨x % 256, x / 256, UInt8.ofNat (n / 2 ^ (8 * (2 * k))), UInt8.ofNat (n / 2 ^ (8 * (2 * k + 1))), wrap8 _, by rw [wrap8]; omega, rfl, ?_, ?_, ?_⟩
 ·subst hx; simp only [bV, d16, UInt8.toNat_ofNat']
  rw [show 65536 ^ k = 2 ^ (8 * (2 * k)) from by rw [show 8 * (2 * k) = 16 * k from by omega, Nat.pow_mul]]
  generalize n / 2 ^ (8 * (2 * k)) = q
  congr 1; omega
 ·subst hx; simp only [bV, d16, UInt8.toNat_ofNat']
  rw [show 65536 ^ k = 2 ^ (8 * (2 * k)) from by rw [show 8 * (2 * k) = 16 * k from by omega, Nat.pow_mul], show 2 ^ (8 * (2 * k + 1)) = 2 ^ (8 * (2 * k)) * 256 from by rw [show 8 * (2 * k + 1) = 8 * (2 * k) + 8 from by omega, Nat.pow_add], ← Nat.div_div_eq_div_mul]
  generalize n / 2 ^ (8 * (2 * k)) = q
  congr 1; omega
 ·rw [show 2 * (k + 1) = 2 * k + 1 + 1 from by omega]
  rw [leB_append (2 * k + 1) 1, leB_append (2 * k) 1, List.append_assoc]
  simp [leB]
theorem rd2 {w : World} {x0 x1 : Int} {b0 b1 : UInt8} (h0 : bV b0 = .int .u8 x0) (h1 : bV b1 = .int .u8 x1) {g : Nat} (hg : g = w.heap.size) : RdB (w.alloc (.cells #[.int .u8 x0, .int .u8 x1] 5)) (some ⟨g, 0, none⟩) 2 2 [b0, b1] := by
 rw [← h0, ← h1]
 exact RdB.blk (l := [b0, b1]) [] (Blk.new' (cs := #[bV b0, bV b1]) hg) rfl (by omega) (by unfold maxLen; omega)
set_option maxHeartbeats 1000000 in
theorem rbytes_any (n : Nat) (w : World) :
  Calls Tryz.prog 80 #[.agg (row 16 (fV (d16 n))).toArray] w fun e w' => ∃ g cap r, e = .returned (.slice (some ⟨g, 0, none⟩) 32 cap) ∧ w.heap.size ≤ g ∧ Blk w' g ((leB 32 n).map bV ++ r) 5 ∧ 32 ≤ cap ∧ cap ≤ maxLen ∧ Below w.heap.size w w' := by
 have HF : Hid (∀ k, ∃ x : Int, x = (d16 n k : Nat)) := Lib.hid (fun k => ⟨_, rfl⟩)
 go_enter Tryz.func80, Tryz.ntmps80
 go_wp2
 go_loopw [3, 4] (fun v i wr => ∃ k : Nat, k ≤ 16 ∧ i = .int .i64 k ∧ wr.ownsRow (w.heap.size + 1) 5 1 v (2 * k) ((leB (2 * k) n).map bV) ∧ Blk wr w.heap.size (row 16 (fV (d16 n))) 62 ∧ Below w.heap.size w wr ∧ w.heap.size + 1 ≤ wr.heap.size) (fun _ i _ => 16 - (intOf i).toNat)
 case atStart => exact ⟨0, by omega, rfl, ⟨rfl, .inl ⟨rfl, rfl⟩⟩, Blk.new w _ _, belowBy, by simp⟩
 case round =>
  obtain ⟨k, hk, rfl, hown, hA, hbel, hsz⟩ := hrel
  by_cases hlt : k < 16
  ·obtain ⟨x, hx⟩ := HF.out k
   have ca : wr.cell? ⟨w.heap.size, k, none⟩ = some (.int .u64 x) := by rw [hx]; exact hA.at hlt
   have h0 : 0 ≤ x := by omega
   obtain ⟨x0, x1, b0, b1, e0, e1, e2, q0, q1, hlb⟩ := two_bytes n k x hx
   have HQ0 := Lib.hid q0; have HQ1 := Lib.hid q1; have HL := Lib.hid hlb
   have HA := Lib.hid hA; have HX := Lib.hid hx; have HO := Lib.hid hown
   clear hA hx hown q0 q1 hlb
   go_upto_region 5 with fail
   go_region_held3 (fun W => W.cell? ⟨w.heap.size, k, none⟩ = some (.int .u64 x)) (first | assumption | go_keep) ((refine app_step (by rfl) (.tmp 9) (.tmp 19) (by rfl) (w.heap.size + 1) _ (2 * k) (leB (2 * k) n) (by rfl) (own_below HO.out belowBy) _ 2 2 [b0, b1] (by rfl) (rd2 HQ0.out HQ1.out rfl).drew (by omega) (by omega) (Nat.le_trans hsz (Below.size (show Below wr.heap.size wr _ from belowBy))) wr (Below.drew ((Below.refl _ _).alloc hsz _)) ?_; intro v' w' hown' hbel'; have hca' : w'.cell? ⟨w.heap.size, k, none⟩ = some (.int .u64 x) := (by rw [hbel'.cell (show w.heap.size < w.heap.size + 1 by omega)]; exact ca)))
   have hA2 := HA.out.below hbel' (Nat.lt_succ_self _)
   have hbel2 : Below w.heap.size w w' := hbel.trans (hbel'.mono (by omega))
   have hsz2 : w.heap.size + 1 ≤ w'.heap.size := Nat.le_trans hsz hbel'.size
   have HO3 : Hid (w'.ownsRow (w.heap.size + 1) 5 1 v' (2 * (k + 1)) ((leB (2 * (k + 1)) n).map bV)) := Lib.hid (by rw [HL.out]; exact hown')
   clear hown' hbel' hbel hca'
   go_wp2
   go_roundw
   case rel => exact ⟨k + 1, by omega, by go_num, HO3.out, hA2, hbel2, hsz2⟩
   case measure => simp [intOf]; omega
  ·obtain rfl : k = 16 := by omega
   obtain ⟨g, cap, r, rfl, hg, hB, hl, hc, hm⟩ := own_rdb hown (by omega)
   have HB := Lib.hid hB
   clear hown hB hl hA hlt hk
   go_wp2
   go_ret
   exact ⟨g, cap, r, rfl, by omega, HB.out, hc, hm, hbel⟩
theorem make32 (w : World) : (Instr.makeSlice 22 (.int .i64 32) (.int .i64 32)).run Tryz.prog w = .ok (.slice (some ⟨w.heap.size, 0, none⟩) 32 32) (w.alloc (.cells (row 32 (uV fun _ => 0)).toArray 5)) := by kernel_rfl
def ffF (j i : Nat) : Nat := if i < j then 255 else 0
theorem ff_step (j : Nat) : (row 32 (uV (ffF j))).set j (.int .u8 255) = row 32 (uV (ffF (j + 1))) := by
 refine row_set j _ (by simp [uV, ffF]) (fun i _ hi => ?_)
 unfold uV ffF
 by_cases h : i < j
 ·rw [if_pos h, if_pos (by omega)]
 ·rw [if_neg h, if_neg (by omega)]
def pwF (a b i : Nat) : Nat := if i = 31 then b else if i = 0 then a else 255
theorem pw_row (a b : Nat) : ((row 32 (uV (ffF 32))).set 0 (.int .u8 (a : Nat))).set 31 (.int .u8 (b : Nat)) = row 32 (uV (pwF a b)) := by
 rw [row_set (g := fun i => if i = 0 then .int .u8 (a : Nat) else uV (ffF 32) i) 0 _ (by simp) (fun i _ hi => by simp [hi])]
 refine row_set 31 _ (by simp [uV, pwF]) (fun i hi h31 => ?_)
 unfold uV pwF
 rw [if_neg h31]
 by_cases h : i = 0
 ·simp [h]
 ·simp [h, ffF, hi]
set_option maxHeartbeats 1000000 in
theorem rpower_any (a b : Nat) (w : World) :
  Calls Tryz.prog 119 #[.int .u8 (a : Nat), .int .u8 (b : Nat)] w fun e w' => e = .returned (.slice (some ⟨w.heap.size, 0, none⟩) 32 32) ∧ Blk w' w.heap.size (row 32 (uV (pwF a b))) 5 ∧ Below w.heap.size w w' := by
 obtain ⟨ai, hai⟩ : ∃ ai : Int, ai = (a : Nat) := ⟨_, rfl⟩
 obtain ⟨bi, hbi⟩ : ∃ bi : Int, bi = (b : Nat) := ⟨_, rfl⟩
 have HR := Lib.hid (pw_row a b)
 rw [← hai, ← hbi] at *
 clear hai hbi
 have hmk := make32
 go_enter Tryz.func119, Tryz.ntmps119
 go_wp2
 clear hmk
 go_loopw [6] (fun i wr => ∃ j : Nat, j ≤ 32 ∧ i = .int .i64 j ∧ Blk wr w.heap.size (row 32 (uV (ffF j))) 5 ∧ Below w.heap.size w wr) (fun i _ => 32 - (intOf i).toNat)
 case atStart => exact ⟨0, by omega, rfl, Blk.new w _ _, belowBy⟩
 case round =>
  obtain ⟨j, hj, rfl, hA, hbel⟩ := hrel
  by_cases hlj : j < 32
  ·have hcell := hA.at hlj
   have hfr := hA.frozen j
   have hA2 := hA.set j (.int .u8 255)
   rw [ff_step] at hA2
   have HA := Lib.hid hA2
   clear hA hA2
   go_wp2
   go_roundw
   case rel => exact ⟨j + 1, by omega, by go_num, HA.out, belowBy⟩
   case measure => simp [intOf]; omega
  ·obtain rfl : j = 32 := by omega
   have c0 : wr.cell? ⟨w.heap.size, 0, none⟩ = some (.int .u8 255) := hA.at (by omega)
   have c31 : wr.cell? ⟨w.heap.size, 31, none⟩ = some (.int .u8 255) := hA.at (by omega)
   have f0 := hA.frozen 0
   have f31 := hA.frozen 31
   have hA2 := (hA.set 0 (.int .u8 ai)).set 31 (.int .u8 bi)
   rw [HR.out] at hA2
   have HA := Lib.hid hA2
   clear hA hA2 hlj hj
   go_wp2
   go_ret
   exact ⟨rfl, HA.out, belowBy⟩
def beF (f : Nat → Nat) : Nat → Nat
 | 0 => 0
 | n + 1 => beF f n * 256 + f n
def pwN (N b j : Nat) : Nat := N * 2 ^ (8 - j) + b / 2 ^ j
theorem pwN_top (N b : Nat) (hb : b < 256) : pwN N b 8 = N := by simp [pwN, Nat.div_eq_of_lt hb]
theorem pwN_low (N b : Nat) : pwN N b 0 = N * 256 + b := by simp [pwN]
theorem pwN_step (N b j : Nat) (hj : j < 8) : pwN N b j = pwN N b (j + 1) + pwN N b (j + 1) + b / 2 ^ j % 2 := by
 unfold pwN
 rw [show 8 - j = 8 - (j + 1) + 1 from by omega, Nat.pow_succ, Nat.pow_succ, ← Nat.div_div_eq_div_mul, ← Nat.mul_assoc]
 generalize N * 2 ^ (8 - (j + 1)) = A
 generalize b / 2 ^ j = B
 omega
theorem fpow_dbl (x : F) (m : Nat) : fpow x m * fpow x m = fpow x (m + m) := (fpow_add x m m).symm
theorem fpow_dbl1 (x : F) (m : Nat) : fpow x m * fpow x m * x = fpow x (m + m + 1) := by rw [fpow_add x (m + m) 1, fpow_add, fpow_one]
theorem bit8 (b j : Nat) (hb : b < 256) : bits BinOp.and IntKind.u8 ((b : Int) / 2 ^ j) 1 = ((b / 2 ^ j % 2 : Nat) : Int) := by
 have h1 : b / 2 ^ j < 256 := Nat.lt_of_le_of_lt (Nat.div_le_self _ _) hb
 rw [show (b : Int) / 2 ^ j = ((b / 2 ^ j : Nat) : Int) from by simp]
 generalize b / 2 ^ j = q at *
 revert h1; revert q; decide +kernel
theorem F1 : (fn 1 : F) = 1 := by decide +kernel
theorem rmulN (x y : F) (b : Nat) (h : (x * y).val = b) (w : World) :
  Calls Tryz.prog 78 #[.agg (row 16 (fV (d16 x.val))).toArray, .agg (row 16 (fV (d16 y.val))).toArray] w fun e w' => e = .returned (.agg (row 16 (fV (d16 b))).toArray) ∧ Below w.heap.size w w' := by subst h; exact rmulM x y w
theorem rsmall1 (w : World) : Calls Tryz.prog 77 #[.int .u64 1] w fun e w' => e = .returned (.agg (row 16 (fV (d16 (1 : F).val))).toArray) ∧ Below w.heap.size w w' := rsmallM 1 (by omega) w
set_option maxHeartbeats 4000000 in
theorem rpowM (x : F) {n : Nat} (ln : Nat) (hln : ln = n) (hn : n ≤ 1000) (w : World) (ge : Nat) (f : Nat → Nat) (hf : ∀ i, f i < 256) (hE : Blk w ge (row n (uV f)) 5) :
  Calls Tryz.prog 118 #[.agg (row 16 (fV (d16 x.val))).toArray, .slice (some ⟨ge, 0, none⟩) ln ln] w fun e w' => e = .returned (.agg (row 16 (fV (d16 (fpow x (beF f n)).val))).toArray) ∧ Below w.heap.size w w' := by
 subst hln
 have hSN := fun W => st_new W (d16 (1 : F).val)
 have hge := hE.lt
 have HNn := Lib.hid hn
 clear hn
 have HFF := Lib.hid hf
 clear hf
 go_enter Tryz.func118, Tryz.ntmps118
 go_upto_region 2 with (go_at_call 77; (with_reducible refine (rsmall1 _).mono ?_; rintro e w1 ⟨rfl, hb⟩; have hX := ((Blk.new w (row 16 (fV (d16 x.val))).toArray 62).alloc (.cells #[.int .u64 0, .int .u64 0, .int .u64 0, .int .u64 0, .int .u64 0, .int .u64 0, .int .u64 0, .int .u64 0, .int .u64 0, .int .u64 0, .int .u64 0, .int .u64 0, .int .u64 0, .int .u64 0, .int .u64 0, .int .u64 0] 62)).below' hb; have hO := (Blk.new' (w := w.alloc (.cells (row 16 (fV (d16 x.val))).toArray 62)) (cs := #[.int .u64 0, .int .u64 0, .int .u64 0, .int .u64 0, .int .u64 0, .int .u64 0, .int .u64 0, .int .u64 0, .int .u64 0, .int .u64 0, .int .u64 0, .int .u64 0, .int .u64 0, .int .u64 0, .int .u64 0, .int .u64 0]) (E := 62) (g := w.heap.size + 1) (by simp)).below' hb; have hE1 := (hE.below' (show Below w.heap.size w ((w.alloc (.cells (row 16 (fV (d16 x.val))).toArray 62)).alloc (.cells #[.int .u64 0, .int .u64 0, .int .u64 0, .int .u64 0, .int .u64 0, .int .u64 0, .int .u64 0, .int .u64 0, .int .u64 0, .int .u64 0, .int .u64 0, .int .u64 0, .int .u64 0, .int .u64 0, .int .u64 0, .int .u64 0] 62)) from belowBy)).below' hb; have hbel := Below.call (show Below w.heap.size w _ from belowBy) hb; clear hb))
 have hq : w.heap.size + 1 < w1.heap.size := hO.lt
 refine wp_gen (fun W => Blk W ge (row ln (uV f)) 5 ∧ Blk W w.heap.size (row 16 (fV (d16 x.val))) 62 ∧ Blk W (w.heap.size + 1) [.int .u64 0, .int .u64 0, .int .u64 0, .int .u64 0, .int .u64 0, .int .u64 0, .int .u64 0, .int .u64 0, .int .u64 0, .int .u64 0, .int .u64 0, .int .u64 0, .int .u64 0, .int .u64 0, .int .u64 0, .int .u64 0] 62 ∧ Blk W w1.heap.size (row 16 (fV (d16 (fpow x 0).val))) 62 ∧ Below w.heap.size w W) ?_ (fun W0 hW => ?_)
 ·rw [fpow_zero]
  exact ⟨hE1.alloc _, hX.alloc _, hO.alloc _, Blk.new' rfl, belowBy⟩
 clear hE hE1 hX hO hbel hSN
 generalize w1.heap.size = q at *
 have HQ := Lib.hid (show w.heap.size + 1 < q ∧ ge < w.heap.size from ⟨hq, hge⟩)
 clear hq hge w1
 obtain ⟨hE, hX, hO, hA, hbel⟩ := hW
 go_wp2
 go_loopw [6] (fun i wr => ∃ j : Nat, j ≤ ln ∧ i = .int .i64 j ∧ Blk wr ge (row ln (uV f)) 5 ∧ Blk wr w.heap.size (row 16 (fV (d16 x.val))) 62 ∧ Blk wr (w.heap.size + 1) [.int .u64 0, .int .u64 0, .int .u64 0, .int .u64 0, .int .u64 0, .int .u64 0, .int .u64 0, .int .u64 0, .int .u64 0, .int .u64 0, .int .u64 0, .int .u64 0, .int .u64 0, .int .u64 0, .int .u64 0, .int .u64 0] 62 ∧ Blk wr q (row 16 (fV (d16 (fpow x (beF f j)).val))) 62 ∧ Below w.heap.size w wr) (fun i _ => ln - (intOf i).toNat)
 case atStart => exact ⟨0, by omega, rfl, hE, hX, hO, hA, hbel⟩
 case round =>
  clear hE hX hO hA hbel W0
  obtain ⟨j, hj, rfl, hE, hX, hO, hA, hbel⟩ := hrel
  have hn2 : ln ≤ 1000 := HNn.out
  by_cases hlj : j < ln
  ·have HE := Lib.hid hE; have HX := Lib.hid hX; have HO := Lib.hid hO
   have HA := Lib.hid (show Blk wr q (row 16 (fV (d16 (fpow x (pwN (beF f j) (f j) 8)).val))) 62 from by rw [pwN_top _ _ (HFF.out j)]; exact hA)
   have hd : decide ((j : Int) < (ln : Int)) = true := by simp; omega
   clear hE hX hO hA
   obtain ⟨wo, rfl⟩ : ∃ wo : World, wo = wr := ⟨_, rfl⟩
   go_wp2
   clear hd
   go_loopw [7] (fun i wr => ∃ k : Nat, k ≤ 8 ∧ i = .int .i64 ((k : Int) - 1) ∧ Blk wr ge (row ln (uV f)) 5 ∧ Blk wr w.heap.size (row 16 (fV (d16 x.val))) 62 ∧ Blk wr (w.heap.size + 1) [.int .u64 0, .int .u64 0, .int .u64 0, .int .u64 0, .int .u64 0, .int .u64 0, .int .u64 0, .int .u64 0, .int .u64 0, .int .u64 0, .int .u64 0, .int .u64 0, .int .u64 0, .int .u64 0, .int .u64 0, .int .u64 0] 62 ∧ Blk wr q (row 16 (fV (d16 (fpow x (pwN (beF f j) (f j) k)).val))) 62 ∧ Below w.heap.size w wr) (fun i _ => (intOf i + 1).toNat)
   case atStart => exact ⟨8, by omega, rfl, HE.out, HX.out, HO.out, HA.out, hbel⟩
   case round =>
    clear HE HX HO HA hbel
    obtain ⟨k', hk, rfl, hE, hX, hO, hA, hbel⟩ := hrel
    by_cases hk0 : k' = 0
    ·subst hk0
     have HE := Lib.hid hE; have HX := Lib.hid hX; have HO := Lib.hid hO
     have HA := Lib.hid (show Blk wr q (row 16 (fV (d16 (fpow x (beF f (j + 1))).val))) 62 from by rw [pwN_low] at hA; exact hA)
     clear hE hX hO hA
     rw [show (((0 : Nat) : Int) - 1) = -1 from rfl]
     go_wp2
     go_roundw
     case rel => exact ⟨j + 1, by omega, by go_num, HE.out, HX.out, HO.out, HA.out, hbel⟩
     case measure => simp [intOf]; omega
    ·obtain ⟨k, rfl⟩ : ∃ k, k' = k + 1 := ⟨k' - 1, by omega⟩
     rw [show (((k + 1 : Nat) : Int) - 1) = (k : Int) from by omega]
     have hk8 : k < 8 := by omega
     have hstep := pwN_step (beF f j) (f j) k hk8
     have hbit := bit8 (f j) k (HFF.out j)
     generalize hN : pwN (beF f j) (f j) k = N at *
     generalize pwN (beF f j) (f j) (k + 1) = M at *
     have HN := Lib.hid hN
     clear hN
     have hAr := hA.range
     have HE := Lib.hid hE; have HX := Lib.hid hX; have HO := Lib.hid hO; have HA := Lib.hid hA
     clear hE hX hO hA
     have HB := Lib.hid hbit; have HS := Lib.hid hstep
     clear hbit hstep
     go_upto_region 9 with (first | (refine wpList_load_mid rfl 62 (.tmp 5) rfl q 0 rfl (row 16 (fV (d16 (fpow x M).val))) _ hAr Tryz.underlying62 rfl (infoFe _) ?_) | (go_at_call 78; (with_reducible refine (rmulM (fpow x M) (fpow x M) _).mono ?_; rintro e w2 ⟨rfl, hb⟩; obtain ⟨W3, hst3, hA3, hbel3, hsz3, hk3⟩ := st_row (n := 16) (HA.out.below' hb) rfl (Below.call hbel hb) (by have := HQ.out; omega) (d16 (fpow x M * fpow x M).val); have HE3 := Lib.hid (hk3 _ _ _ (by have := HQ.out; omega) (HE.out.below' hb)); have HX3 := Lib.hid (hk3 _ _ _ (by have := HQ.out; omega) (HX.out.below' hb)); have HO3 := Lib.hid (hk3 _ _ _ (by have := HQ.out; omega) (HO.out.below' hb)); have HA3 := Lib.hid hA3; have HK3 := Lib.hid hk3; clear hb hk3 hA3 hsz3 hAr)))
     refine wp_gen (fun W => Blk W ge (row ln (uV f)) 5 ∧ Blk W w.heap.size (row 16 (fV (d16 x.val))) 62 ∧ Blk W (w.heap.size + 1) [.int .u64 0, .int .u64 0, .int .u64 0, .int .u64 0, .int .u64 0, .int .u64 0, .int .u64 0, .int .u64 0, .int .u64 0, .int .u64 0, .int .u64 0, .int .u64 0, .int .u64 0, .int .u64 0, .int .u64 0, .int .u64 0] 62 ∧ Blk W q (row 16 (fV (d16 (fpow x M * fpow x M).val))) 62 ∧ Below w.heap.size w W) ?_ (fun W0 hW => ?_)
     ·exact ⟨HE3.out, HX3.out, HO3.out, HA3.out, hbel3⟩
     clear HE HX HO HA HE3 HX3 HO3 HA3 HK3 hbel hbel3 hst3 W3 w2 wr
     obtain ⟨hE, hX, hO, hA, hbel⟩ := hW
     obtain ⟨c, hc⟩ : ∃ c : Int, c = (f j : Nat) := ⟨_, rfl⟩
     have hce : W0.cell? ⟨ge, j, none⟩ = some (.int .u8 c) := by rw [hc]; exact hE.at hlj
     have hAr := hA.range
     have hXr := hX.range
     have HE := Lib.hid hE; have HX := Lib.hid hX; have HO := Lib.hid hO; have HA := Lib.hid hA
     clear hE hX hO hA
     have hf0 : 0 ≤ c := by omega
     have hf1 : c < 256 := by have := HFF.out j; omega
     have HC := Lib.hid hc
     clear hc
     by_cases hbv : f j / 2 ^ k % 2 = 1
     ·have hbb : bits BinOp.and IntKind.u8 (c / 2 ^ k) 1 = 1 := by rw [HC.out, HB.out, hbv]; rfl
      have HM : Hid ((fpow x M * fpow x M * x).val = (fpow x N).val) := Lib.hid (by rw [HS.out, hbv, fpow_dbl1])
      clear hbv
      go_wp2_with (first | (refine wpList_load_mid rfl 62 (.tmp 5) rfl q 0 rfl (row 16 (fV (d16 (fpow x M * fpow x M).val))) _ hAr Tryz.underlying62 rfl (infoFe _) ?_) | (refine wpList_load_mid rfl 62 (.tmp 2) rfl w.heap.size 0 rfl (row 16 (fV (d16 x.val))) _ hXr Tryz.underlying62 rfl (infoFe _) ?_) | (go_at_call 78; (with_reducible refine (rmulN (fpow x M * fpow x M) x _ HM.out _).mono ?_; rintro e w2 ⟨rfl, hb⟩; obtain ⟨W3, hst3, hA3, hbel3, hsz3, hk3⟩ := st_row (n := 16) (HA.out.below' hb) rfl (Below.call hbel hb) (by have := HQ.out; omega) (d16 (fpow x N).val); have HE3 := Lib.hid (hk3 _ _ _ (by have := HQ.out; omega) (HE.out.below' hb)); have HX3 := Lib.hid (hk3 _ _ _ (by have := HQ.out; omega) (HX.out.below' hb)); have HO3 := Lib.hid (hk3 _ _ _ (by have := HQ.out; omega) (HO.out.below' hb)); have HA3 := Lib.hid hA3; have HK3 := Lib.hid hk3; clear hb hk3 hA3 hsz3 hAr hXr)))
      go_roundw
      case rel => exact ⟨k, by omega, rfl, HE3.out, HX3.out, HO3.out, by rw [HN.out]; exact HA3.out, hbel3⟩
      case measure => simp [intOf] <;> omega
     ·have hbv0 : f j / 2 ^ k % 2 = 0 := by omega
      have hbb : bits BinOp.and IntKind.u8 (c / 2 ^ k) 1 = 0 := by rw [HC.out, HB.out, hbv0]; rfl
      have HM : Hid (fpow x M * fpow x M = fpow x N) := Lib.hid (by rw [HS.out, hbv0, fpow_dbl, Nat.add_zero])
      clear hbv hbv0
      go_wp2
      go_roundw
      case rel => exact ⟨k, by omega, rfl, HE.out, HX.out, HO.out, by rw [HN.out, ← HM.out]; exact HA.out, hbel⟩
      case measure => simp [intOf] <;> omega
  ·obtain rfl : j = ln := by omega
   obtain ⟨W3, hst3, hB3, hbel3, _, _⟩ := st_row (n := 16) hO rfl hbel (by omega) (d16 (fpow x (beF f j)).val)
   have hAr := hA.range
   have HB3 := Lib.hid hB3
   clear hE hX hO hA hB3 hj hlj
   go_wp2_with (refine wpList_load_mid rfl 62 (.tmp 5) rfl q 0 rfl (row 16 (fV (d16 (fpow x (beF f j)).val))) _ hAr Tryz.underlying62 rfl (infoFe _) ?_)
   refine bodyPost_ret (v := .agg (row 16 (fV (d16 (fpow x (beF f j)).val))).toArray) (results_cell_row Tryz.results118 _ _ (w.heap.size + 1) _ _ _ _ ?_ HB3.out Tryz.underlying62 ?_ (infoFeA _)) ?_ ?_
   ·rfl
   ·rfl
   ·rfl
   ·exact ⟨rfl, hbel3⟩
theorem setCells_row {w : World} {g E : Nat} {old cs : List Value} (h : Blk w g old E) (hl : cs.length = old.length) (h1 : ∀ v ∈ cs, v.oneCell' = true) :
  w.setCells g 0 cs = w.setRow g cs.toArray := by
 have a := st_blk h hl h1
 have b := run_storeCells_cells (P := Tryz.prog) g 0 cs 0 w (fun j hj => by rw [Nat.zero_add, h.cell, List.getElem?_eq_getElem (by omega)]; rfl) (fun j _ => h.frozen _) h1
 rw [a] at b
 injection b with _ b
 exact b.symm
theorem Blk.there {w : World} {g E n : Nat} {cs : List Value} (h : Blk w g cs E) (hn : cs.length = n) : w.there g 0 n := fun j hj => by
 rw [Nat.zero_add]
 exact ⟨by rw [h.cell, List.getElem?_eq_getElem (by omega)]; rfl, h.frozen j⟩
theorem pwF_lt {a b : Nat} (ha : a < 256) (hb : b < 256) (i : Nat) : pwF a b i < 256 := by unfold pwF; split <;> (try split) <;> omega
theorem be_inv : beF (pwF 127 235) 32 = expInv := by decide +kernel
theorem be_8 : beF (pwF 15 254) 32 = exp8 := by decide +kernel
theorem rpowK (x : F) (a b N : Nat) (ha : a < 256) (hb : b < 256) (hN : beF (pwF a b) 32 = N) (w : World) (ge : Nat) (hE : Blk w ge (row 32 (uV (pwF a b))) 5) :
  Calls Tryz.prog 118 #[.agg (row 16 (fV (d16 x.val))).toArray, .slice (some ⟨ge, 0, none⟩) 32 32] w fun e w' => e = .returned (.agg (row 16 (fV (d16 (fpow x N).val))).toArray) ∧ Below w.heap.size w w' := by
 subst hN; exact rpowM x 32 rfl (by omega) w ge _ (pwF_lt ha hb) hE
theorem rpow127 (w : World) : Calls Tryz.prog 119 #[.int .u8 127, .int .u8 235] w fun e w' => e = .returned (.slice (some ⟨w.heap.size, 0, none⟩) 32 32) ∧ Blk w' w.heap.size (row 32 (uV (pwF 127 235))) 5 ∧ Below w.heap.size w w' := rpower_any 127 235 w
theorem rpow15 (w : World) : Calls Tryz.prog 119 #[.int .u8 15, .int .u8 254] w fun e w' => e = .returned (.slice (some ⟨w.heap.size, 0, none⟩) 32 32) ∧ Blk w' w.heap.size (row 32 (uV (pwF 15 254))) 5 ∧ Below w.heap.size w w' := rpower_any 15 254 w
theorem rpow31 (w : World) : Calls Tryz.prog 119 #[.int .u8 31, .int .u8 251] w fun e w' => e = .returned (.slice (some ⟨w.heap.size, 0, none⟩) 32 32) ∧ Blk w' w.heap.size (row 32 (uV (pwF 31 251))) 5 ∧ Below w.heap.size w w' := rpower_any 31 251 w
theorem exec_load16 {ev : Operand → Value} {o : Oper} {W : World} {g E : Nat} {f : Nat → Nat} (x : Operand) (ho : o.op = .load 62 x) (hx : ev x = .pointer (some ⟨g, 0, none⟩)) (h : Blk W g (row 16 (fV f)) E) :
  (execOp ev o).run Tryz.prog W = .ok (.value (.agg (row 16 (fV f)).toArray)) W := by
 have := run_loadAt_mid (P := Tryz.prog) W g 0 62 _ _ h.range Tryz.underlying62 rfl (infoFe f)
 unfold execOp
 simp only [ho, hx]
 simp [this]
theorem step_store16 {ops : Array Oper} {o : Oper} {a : Act} {w : World} {K : Act → World → Prop} {Q : Exit → Act → World → Prop} {E : Prop} (hgd : o.guard = none) (x y : Operand) (ho : o.op = .store 62 x y)
  {g T : Nat} {f : Nat → Nat} {old : List Value} (hx : a.eval x = .pointer (some ⟨g, 0, none⟩)) (hy : a.eval y = .agg (row 16 (fV f)).toArray) (hB : Blk w g old T) (hl : old.length = 16)
  (h : K (a.put o.dst undef) (w.setRow g (row 16 (fV f)).toArray)) : if Region.wanted o (yielded ops a.tmps) = true then Oper.wp Tryz.prog o a w K Q else E := by
 have hw : Region.wanted o (yielded ops a.tmps) = true := by simp [Region.wanted, hgd]
 rw [if_pos hw]
 refine wp_store_mid 62 x y ho g 0 _ hx hy (hB.there (by rw [hl, List.size_toArray, row_len])) (infoFeA f) (all_oneCell_toArray (one_row 16 f)) ?_
 rw [show (row 16 (fV f)).toArray.toList = row 16 (fV f) from rfl, setCells_row hB (by rw [row_len, hl]) (one_row 16 f)]
 exact h
set_option maxHeartbeats 1000000 in
theorem rinv_core (f r : Nat → Nat) (hC : ∀ w ge, Blk w ge (row 32 (uV (pwF 127 235))) 5 → Calls Tryz.prog 118 #[.agg (row 16 (fV f)).toArray, .slice (some ⟨ge, 0, none⟩) 32 32] w fun e w' => e = .returned (.agg (row 16 (fV r)).toArray) ∧ Below w.heap.size w w') (w : World) :
  Calls Tryz.prog 79 #[.agg (row 16 (fV f)).toArray] w fun e w' => e = .returned (.agg (row 16 (fV r)).toArray) ∧ Below w.heap.size w w' := by
 have HC := Lib.hid hC
 clear hC
 go_enter Tryz.func79, Tryz.ntmps79
 go_upto_region 1 with fail
 refine wp_gen (fun W => Blk W w.heap.size (row 16 (fV f)) 62 ∧ (∃ cs : List Value, cs.length = 16 ∧ Blk W (w.heap.size + 1) cs 62) ∧ Below w.heap.size w W) ?_ (fun W0 hW => ?_)
 ·exact ⟨(Blk.new w _ _).alloc _, ⟨_, rfl, Blk.new' (by simp)⟩, belowBy⟩
 have hst := Lib.hid (show ∀ W W' : World, (Blk W w.heap.size (row 16 (fV f)) 62 ∧ (∃ cs : List Value, cs.length = 16 ∧ Blk W (w.heap.size + 1) cs 62) ∧ Below w.heap.size w W) → Below W.heap.size W W' → (Blk W' w.heap.size (row 16 (fV f)) 62 ∧ (∃ cs : List Value, cs.length = 16 ∧ Blk W' (w.heap.size + 1) cs 62) ∧ Below w.heap.size w W') from by
  rintro W W' ⟨h1, ⟨cs, hl, h2⟩, h3⟩ hb
  exact ⟨h1.below' hb, ⟨cs, hl, h2.below' hb⟩, Below.call h3 hb⟩)
 have HS := Lib.hid (hst.out _ _ hW (Below.drew (Below.refl _ _)))
 clear hW
 refine wp_region_held_drew (S := fun W => Blk W w.heap.size (row 16 (fV f)) 62 ∧ (∃ cs : List Value, cs.length = 16 ∧ Blk W (w.heap.size + 1) cs 62) ∧ Below w.heap.size w W) (by kernel_rfl) (by exact HS.out) (fun hHeld => ?_)
 refine wpAnyH_take (i := 0) (oi := _) (v := .agg (row 16 (fV f)).toArray) rfl (by kernel_rfl) (by kernel_rfl) (by kernel_rfl) (fun _ _ _ h => h) (Or.inl ⟨by rfl, fun W hSW => exec_load16 (.tmp 1) (by rfl) (by rfl) hSW.1⟩) (by assumption) ?_
 (try simp only [Act.put, List.setIfInBounds_toArray, List.set_cons_zero, List.set_cons_succ, List.getElem_toArray, List.getElem_cons_zero])
 refine wpAnyH_ready (rs := [1]) (by kernel_rfl) (by simp) ?_
 refine (AllReadyH.cons rfl (fun K hK => ?_) AllReadyH.nil)
 (try simp only [List.getElem_toArray, List.getElem_cons_zero, List.getElem_cons_succ])
 go_simp
 go_at_call 119
 (with_reducible refine (rpow127 _).mono ?_); rintro e w1 ⟨rfl, hP0, hb⟩
 have hP : Blk w1 W0.heap.size (row 32 (uV (pwF 127 235))) 5 := hP0
 refine hK.out _ _ (hst.out _ _ hHeld hb) (fun hHeld' => ?_)
 clear hK K hHeld
 (try simp only [Act.put, List.setIfInBounds_toArray, List.set_cons_zero, List.set_cons_succ, List.getElem_toArray, List.getElem_cons_zero, List.getElem_cons_succ])
 refine wpAnyH_ready (rs := [2]) (by kernel_rfl) (by simp) ?_
 refine (AllReadyH.cons rfl (fun K hK => ?_) AllReadyH.nil)
 (try simp only [List.getElem_toArray, List.getElem_cons_zero, List.getElem_cons_succ])
 go_simp
 go_at_call 118
 (with_reducible refine (HC.out _ _ hP).mono ?_); rintro e w2 ⟨rfl, hb⟩
 refine hK.out _ _ (hst.out _ _ hHeld' hb) (fun hHeld => ?_)
 clear hK K hHeld'
 (try simp only [Act.put, List.setIfInBounds_toArray, List.set_cons_zero, List.set_cons_succ, List.getElem_toArray, List.getElem_cons_zero, List.getElem_cons_succ])
 refine wpAnyH_ready (rs := [3]) (by kernel_rfl) (by simp) ?_
 refine (AllReadyH.cons rfl (fun K hK => ?_) AllReadyH.nil)
 obtain ⟨h1, ⟨cs, hl, h2⟩, h3⟩ := hHeld
 have HB3 := Lib.hid (h2.row (row 16 (fV r)))
 have hbel3 := below_setRow h3 (show w.heap.size ≤ w.heap.size + 1 by omega) (row 16 (fV r)).toArray
 refine step_store16 (by rfl) (.tmp 2) (.tmp 5) (by rfl) (by rfl) (by rfl) h2 hl ?_
 refine hK.out _ _ ⟨h1.rowOther _ (by omega) _, ⟨_, row_len _ _, HB3.out⟩, hbel3⟩ (fun _ => ?_)
 clear hK K h2
 (try simp only [Act.put, List.getElem_toArray, List.getElem_cons_zero, List.getElem_cons_succ])
 refine wpAnyH_done (by kernel_rfl) ?_ _
 generalize w2.setRow (w.heap.size + 1) (row 16 (fV r)).toArray = W3 at *
 go_wp2
 refine bodyPost_ret (v := .agg (row 16 (fV r)).toArray) (results_cell_row Tryz.results79 _ _ (w.heap.size + 1) _ _ _ _ ?_ HB3.out Tryz.underlying62 ?_ (infoFeA _)) ?_ ?_
 ·rfl
 ·rfl
 ·rfl
 ·exact ⟨rfl, hbel3⟩
theorem rinvM (x : F) (w : World) : Calls Tryz.prog 79 #[.agg (row 16 (fV (d16 x.val))).toArray] w fun e w' => e = .returned (.agg (row 16 (fV (d16 (finv x).val))).toArray) ∧ Below w.heap.size w w' :=
 rinv_core (d16 x.val) (d16 (finv x).val) (fun w ge hE => rpowK x 127 235 expInv (by omega) (by omega) be_inv w ge hE) w
theorem row_ints (n : Nat) (f : Nat → Nat) : row n (fV f) = ((List.range n).map fun i => ((f i : Nat) : Int)).map (Value.int .u64) := by
 simp [row, fV, Function.comp_def]
theorem infoU64 : (Tryz.prog.info? 45).map (·.size) = some 1 := by kernel_rfl
theorem size_u64 (w : World) : (sizeOf 45).run Tryz.prog w = .ok 1 w := by
 have h := infoU64
 cases hq : Tryz.prog.info? 45 with
 | none => simp [hq] at h
 | some i =>
  simp [hq] at h
  simp [sizeOf, typeInfo, hq, h]
theorem d16_inj {x y : F} (h : ∀ i, i < 16 → d16 x.val i = d16 y.val i) : x = y := by
 apply F.ext'
 rw [← d16_v x.isLt, ← d16_v y.isLt]
 exact v16_congr 16 h
theorem eq_row (x y : F) (w : World) : (Op.equal 62 (.agg (row 16 (fV (d16 x.val))).toArray) (.agg (row 16 (fV (d16 y.val))).toArray)).run Tryz.prog w = .ok (decide (x = y)) w := by
 rw [row_ints, row_ints]
 have h := eqArr (P := Tryz.prog) w 9998 62 45 16 .u64 Tryz.underlying62 Tryz.underlying45 size_u64 ((List.range 16).map fun i => ((d16 x.val i : Nat) : Int)) ((List.range 16).map fun i => ((d16 y.val i : Nat) : Int)) (by simp) (by simp)
 refine Eq.trans h ?_
 congr 1
 rw [Bool.eq_iff_iff, beq_iff_eq, decide_eq_true_iff]
 constructor
 ·intro e
  apply d16_inj
  intro i hi
  have := congrArg (fun l => l[i]?) e
  simp [hi] at this
  omega
 ·rintro rfl; rfl
theorem exec_neqF {ev : Operand → Value} {o : Oper} {W : World} (x y : F) (a b : Operand) (t : TypeId) (ho : o.op = .binOp .neq 62 a b t) (ha : ev a = .agg (row 16 (fV (d16 x.val))).toArray) (hb : ev b = .agg (row 16 (fV (d16 y.val))).toArray) :
  (execOp ev o).run Tryz.prog W = .ok (.value (.bool (!decide (x = y)))) W := by
 have hg : Tryz.prog.eqGuardType Tryz.prog.depth 62 = false := by kernel_rfl
 unfold execOp
 simp only [ho, ha, hb]
 simp [eqGuard, binOp, hg, eq_row]
theorem be_31 : beF (pwF 31 251) 32 = 14474011154664524427946373126085988481658748083205070504932198000989141204987 := by decide +kernel
theorem two_turn : fpow (fn 2) (beF (pwF 31 251) 32) = sqm1 := by
 rw [be_31]
 apply F.ext'
 rw [fpow_val, show (fn 2).val = 2 from rfl, ← powMod_spec Pq 256 2 14474011154664524427946373126085988481658748083205070504932198000989141204987 (by decide +kernel)]
 decide +kernel
theorem odd16 (v : Nat) : bits BinOp.and IntKind.u64 ((d16 v 0 : Nat) : Int) 1 = ((v % 2 : Nat) : Int) := by
 have h := d16_lt v 0
 rw [show (1 : Int) = ((1 : Nat) : Int) from rfl, u64_and_nat _ 1 (by omega) (by omega), Nat.and_one_is_mod]
 simp only [d16, Nat.pow_zero, Nat.div_one]; omega
end Go.Proofs.YtielgpefoameiaaGreat
namespace Go.Proofs.YtielgpefoameiaaGreat
open Go Go.RowKit
def rR : Rp F where
 n := 16
 rep := fun x cs => cs = row 16 (fV (d16 x.val))
 pos := by omega
 len := fun _ _ h => by rw [h, row_len]
 one := fun _ _ h v hv => by subst h; exact one_row 16 _ v hv
theorem isR (x : F) : IsFs rR (.agg (row 16 (fV (d16 x.val))).toArray) [x] := ⟨_, rfl, Lims.single (R := rR) rfl⟩
theorem of_isR {v : Value} {x : F} (h : IsFs rR v [x]) : v = .agg (row 16 (fV (d16 x.val))).toArray := by
 obtain ⟨cs, rfl, hc⟩ := h
 have := Lims.of_single hc
 rw [show cs = row 16 (fV (d16 x.val)) from this]
theorem kAdd {v v' : Value} {x y : F} (h : IsFs rR v [x]) (h' : IsFs rR v' [y]) (w : World) :
  Calls Tryz.prog 102 #[v, v'] w fun e w' => ∃ r, e = .returned r ∧ IsFs rR r [x + y] ∧ Below w.heap.size w w' := by
 rw [of_isR h, of_isR h']
 exact (raddM x y w).mono fun _ _ ⟨he, hb⟩ => ⟨_, he, isR _, hb⟩
theorem kSub {v v' : Value} {x y : F} (h : IsFs rR v [x]) (h' : IsFs rR v' [y]) (w : World) :
  Calls Tryz.prog 101 #[v, v'] w fun e w' => ∃ r, e = .returned r ∧ IsFs rR r [x - y] ∧ Below w.heap.size w w' := by
 rw [of_isR h, of_isR h']
 exact (rsubM x y w).mono fun _ _ ⟨he, hb⟩ => ⟨_, he, isR _, hb⟩
theorem kMul {v v' : Value} {x y : F} (h : IsFs rR v [x]) (h' : IsFs rR v' [y]) (w : World) :
  Calls Tryz.prog 78 #[v, v'] w fun e w' => ∃ r, e = .returned r ∧ IsFs rR r [x * y] ∧ Below w.heap.size w w' := by
 rw [of_isR h, of_isR h']
 exact (rmulM x y w).mono fun _ _ ⟨he, hb⟩ => ⟨_, he, isR _, hb⟩
theorem kNeg {v : Value} {x : F} (h : IsFs rR v [x]) (w : World) :
  Calls Tryz.prog 104 #[v] w fun e w' => ∃ r, e = .returned r ∧ IsFs rR r [-x] ∧ Below w.heap.size w w' := by
 rw [of_isR h]
 exact (rnegM x w).mono fun _ _ ⟨he, hb⟩ => ⟨_, he, isR _, hb⟩
theorem kInv {v : Value} {x : F} (h : IsFs rR v [x]) (w : World) :
  Calls Tryz.prog 79 #[v] w fun e w' => ∃ r, e = .returned r ∧ IsFs rR r [finv x] ∧ Below w.heap.size w w' := by
 rw [of_isR h]
 exact (rinvM x w).mono fun _ _ ⟨he, hb⟩ => ⟨_, he, isR _, hb⟩
theorem kSmallI {n : Nat} {z : Int} (hz : z = (n : Nat)) (hn : n < 18446744073709551616) (w : World) :
  Calls Tryz.prog 77 #[.int .u64 z] w fun e w' => ∃ r, e = .returned r ∧ IsFs rR r [fn n] ∧ Below w.heap.size w w' := by
 subst hz
 exact (rsmallM n hn w).mono fun _ _ ⟨he, hb⟩ => ⟨_, he, by have := isR (fn n); exact this, hb⟩
theorem kPow {v : Value} {x r : F} (a b N : Nat) (ha : a < 256) (hb : b < 256) (hN : beF (pwF a b) 32 = N) (hr : fpow x N = r) (h : IsFs rR v [x]) {w : World} {ge : Nat} (hE : Blk w ge (row 32 (uV (pwF a b))) 5) :
  Calls Tryz.prog 118 #[v, .slice (some ⟨ge, 0, none⟩) 32 32] w fun e w' => ∃ r', e = .returned r' ∧ IsFs rR r' [r] ∧ Below w.heap.size w w' := by
 rw [of_isR h]
 subst hr
 exact (rpowK x a b N ha hb hN w ge hE).mono fun _ _ ⟨he, hb⟩ => ⟨_, he, isR _, hb⟩
theorem tyFe : TyOk rR 62 1 := ⟨⟨_, Tryz.underlying62, rfl⟩, by kernel_rfl⟩
theorem allocFe (w : World) : (Instr.alloc 62 true (.tuple #[])).run Tryz.prog w = .ok (.pointer (some ⟨w.heap.size, 0, none⟩)) (w.alloc (.cells #[.int .u64 0, .int .u64 0, .int .u64 0, .int .u64 0, .int .u64 0, .int .u64 0, .int .u64 0, .int .u64 0, .int .u64 0, .int .u64 0, .int .u64 0, .int .u64 0, .int .u64 0, .int .u64 0, .int .u64 0, .int .u64 0] 62)) := by kernel_rfl
theorem buildFe0 (w : World) : ∃ r, (Instr.build 62 #[]).run Tryz.prog w = .ok r w ∧ IsFs rR r [0] := by
 have h := isR 0
 rw [show row 16 (fV (d16 (0 : F).val)) = [.int .u64 0, .int .u64 0, .int .u64 0, .int .u64 0, .int .u64 0, .int .u64 0, .int .u64 0, .int .u64 0, .int .u64 0, .int .u64 0, .int .u64 0, .int .u64 0, .int .u64 0, .int .u64 0, .int .u64 0, .int .u64 0] from by kernel_rfl] at h
 exact ⟨_, by kernel_rfl, h⟩
theorem run_neqR {ev : Operand → Value} {o : Oper} {W : World} {x y : F} {a b : Operand} {t : TypeId} (ho : o.op = .binOp .neq 62 a b t) (ha : IsFs rR (ev a) [x]) (hb : IsFs rR (ev b) [y]) :
  (execOp ev o).run Tryz.prog W = .ok (.value (.bool (!decide (x = y)))) W := exec_neqF x y a b t ho (of_isR ha) (of_isR hb)
theorem HasFs.cell0 {w : World} {g : Nat} {x : F} (h : HasFs rR w g 0 [x]) : w.cell? ⟨g, 0, none⟩ = some (.int .u64 (d16 x.val 0 : Nat)) := by
 obtain ⟨cs, hc, hr⟩ := h
 have e : cs = row 16 (fV (d16 x.val)) := Lims.of_single hc
 subst e
 exact hr 0 _ (row_get (by omega))
theorem run_eqlR {ev : Operand → Value} {o : Oper} {W : World} {x y : F} {a b : Operand} {t : TypeId} (ho : o.op = .binOp .eql 62 a b t) (ha : IsFs rR (ev a) [x]) (hb : IsFs rR (ev b) [y]) :
  (execOp ev o).run Tryz.prog W = .ok (.value (.bool (decide (x = y)))) W := by
 have hg : Tryz.prog.eqGuardType Tryz.prog.depth 62 = false := by kernel_rfl
 have h1 := of_isR ha
 have h2 := of_isR hb
 unfold execOp
 simp only [ho, h1, h2]
 simp [eqGuard, binOp, hg, eq_row]
theorem kOf' {a : Option Addr} {n cap : Nat} {l : List UInt8} {x : F} {w : World} (hx : feF l = x) (h : RdB w a n cap l) :
  Calls Tryz.prog 124 #[.slice a n cap] w fun e w' => ∃ r, e = .returned r ∧ IsFs rR r [x] ∧ Below w.heap.size w w' := by
 subst hx
 exact (rofM w h).mono fun _ _ ⟨he, hb⟩ => ⟨_, he, isR _, hb⟩
theorem kBytes {v : Value} {x : F} (h : IsFs rR v [x]) (w : World) :
  Calls Tryz.prog 80 #[v] w fun e w' => ∃ g n cap r, e = .returned (.slice (some ⟨g, 0, none⟩) n cap) ∧ w.heap.size ≤ g ∧ Blk w' g ((leB 32 x.val).map bV ++ r) 5 ∧ (leB 32 x.val).length = n ∧ n ≤ cap ∧ cap ≤ maxLen ∧ Below w.heap.size w w' := by
 rw [of_isR h]
 exact (rbytes_any x.val w).mono fun _ _ ⟨g, cap, r, he, hg, hB, h1, h2, hb⟩ => ⟨g, 32, cap, r, he, hg, hB, leB_len _ _, h1, h2, hb⟩
theorem feOk_len {l : List UInt8} (h : l.length ≠ 32) : feOk l = false := by simp [feOk, h]
theorem feOk_high {l : List UInt8} (h : l.length = 32) (h2 : 127 < (l[31]'(by omega)).toNat) : feOk l = false := by
 have h3 := leN_take l 31 (by omega)
 rw [List.take_of_length_le (by omega)] at h3
 have : Pq ≤ leN l := by
  rw [h3]
  have : Pq ≤ 128 * 256 ^ 31 := by decide +kernel
  refine Nat.le_trans this (Nat.le_trans (Nat.mul_le_mul_right _ ?_) (Nat.le_add_left _ _))
  omega
 simp [feOk]; omega
set_option maxHeartbeats 4000000 in
theorem rstrict_len {a : Option Addr} {n cap : Nat} {l : List UInt8} (w : World) (_ha : RdB w a n cap l) (hn : n ≠ 32) :
  Calls Tryz.prog 100 #[.slice a n cap] w fun e w' => ∃ r, e = .returned (.tuple #[r, .int .i64 2]) ∧ IsFs rR r [0] ∧ Below w.heap.size w w' := by
 have f1 : (((n : Nat) : Int) != 32) = true := by simp; omega
 have F1 := Lib.hid f1
 clear hn f1
 go_enter Tryz.func100, Tryz.ntmps100
 have hbel : Below w.heap.size w w := Below.refl _ _
 have hbel0 := hbel
 go_upto_region 0 with fail
 refine rgT [(2, 0), (0, 1)] [.new 16, .oth (fun v => v = .int .i64 0)] ?_ ?_
 ·intro hs
  refine ⟨?_, ?_, trivial⟩
  ·exact step_alloc hs Wn rfl rfl (by omega) rfl allocFe
  ·exact mvK hs fun _ => rfl
 intro L0 u0 W0 hall hJ hG
 obtain ⟨q2, e2, hq2, _, ht2⟩ := oN 16 hG 0
 have hq2 : w.heap.size ≤ q2 := by have := hbel0.size; omega
 have E2 := Lib.hid e2; clear e2
 have hb := hJ.all rfl
 have hbel := Below.call hbel hb
 have HC3 := oC (.int .i64 0) hG 1
 have hbel0 := hbel
 clear hJ hG hall hb
 go_upto_region 1 with fail
 refine rgM [(4, 0), (0, 1), (0, 2), (0, 3), (0, 4), (0, 5), (0, 6), (0, 7), (0, 8), (0, 9), (0, 10), (0, 11), (0, 12), (0, 13), (0, 14), (0, 15), (0, 16), (0, 17)] [.oth (fun v => v = .slice a n cap), .oth (fun v => v = .int .i64 (n : Nat)), .oth (fun v => v = .bool true), .oth (fun v => v = .bool true), .oth (fun v => v = undef), .oth (fun v => v = undef), .oth (fun v => v = undef), .oth (fun v => v = undef), .oth (fun v => v = .bool true), .oth (fun v => v = .bool true), .oth (fun v => v = undef), .oth (fun v => v = undef), .oth (fun v => v = undef), .oth (fun v => v = undef), .oth (fun v => v = undef), .oth (fun v => v = undef), .oth (fun v => v = undef), .oth (fun v => v = .bool true)] ?_ ?_
 ·intro hs
  refine ⟨?_, ?_, ?_, ?_, ?_, ?_, ?_, ?_, ?_, ?_, ?_, ?_, ?_, ?_, ?_, ?_, ?_, ?_, trivial⟩
  ·exact mvK hs fun _ => rfl
  ·refine step_pureO hs Wn rfl fun L u W hG hdep => ⟨_, ?_, rfl⟩
   have e0 := (oE (.slice a n cap) hG hdep 0)
   go_simp
  ·refine step_pureO hs Wn rfl fun L u W hG hdep => ⟨_, ?_, rfl⟩
   have e0 := (oE (.int .i64 (n : Nat)) hG hdep 1)
   have f1 := F1.out
   go_simp
  ·exact mvO 2 hs
  ·exact step_outU hs (wants_off 3 rfl rfl rfl (by kernel_rfl) (fun _ => rfl)) rfl
  ·exact step_outU hs (wants_off 3 rfl rfl rfl (by kernel_rfl) (fun _ => rfl)) rfl
  ·exact step_outU hs (wants_off 3 rfl rfl rfl (by kernel_rfl) (fun _ => rfl)) rfl
  ·exact step_outU hs (wants_off 3 rfl rfl rfl (by kernel_rfl) (fun _ => rfl)) rfl
  ·exact step_pick true hs Wn rfl rfl (fun L u W hG hdep => (oE (.bool true) hG hdep 3)) (fun L u W hG hdep => rfl)
  ·exact mvO 8 hs
  ·exact step_outU hs (wants_off 9 rfl rfl rfl (by kernel_rfl) (fun _ => rfl)) rfl
  ·exact step_outU hs (wants_off 9 rfl rfl rfl (by kernel_rfl) (fun _ => rfl)) rfl
  ·exact step_outU hs (wants_off 9 rfl rfl rfl (by kernel_rfl) (fun _ => rfl)) rfl
  ·exact step_outU hs (wants_off 9 rfl rfl rfl (by kernel_rfl) (fun _ => rfl)) rfl
  ·exact step_outU hs (wants_off 9 rfl rfl rfl (by kernel_rfl) (fun _ => rfl)) rfl
  ·exact step_outU hs (wants_off 9 rfl rfl rfl (by kernel_rfl) (fun _ => rfl)) rfl
  ·exact step_outU hs (wants_off 9 rfl rfl rfl (by kernel_rfl) (fun _ => rfl)) rfl
  ·exact step_pick true hs Wn rfl rfl (fun L u W hG hdep => (oE (.bool true) hG hdep 9)) (fun L u W hG hdep => rfl)
 intro L1 u1 W1 hall hJ hG
 have hb := hJ.all rfl
 have hbel := Below.call hbel hb
 have ht2 := there_later ht2 hb
 have HC6 := oC (.bool true) hG 2
 have HC7 := oC (.bool true) hG 3
 have HC12 := oC (.bool true) hG 8
 have HC13 := oC (.bool true) hG 9
 have HC21 := oC (.bool true) hG 17
 have hbel0 := hbel
 clear hJ hG hall hb
 have hx : u1 17 = .bool true := HC21.out
 go_wp2_with fail
 rw [hx]
 clear hx
 go_upto_region 2 with fail
 refine rgT [(3, 2), (18, 0)] [.val rR [0], .sto q2 rR [0], .oth (fun v => v = .int .i64 2)] ?_ ?_
 ·intro hs
  refine ⟨?_, ?_, ?_, trivial⟩
  ·exact step_pure hs Wn rfl fun L u W hG hdep => run_build0 rfl (buildFe0 W)
  ·refine step_storeO q2 16 hs Wn rfl rfl (by kernel_rfl) (fun k hk => ?_) (fun _ => E2.out) (there_lt ht2 (by omega)) ht2 (gO 0) tyFe rfl
   rcases k with _ | _ | _ | k
   all_goals first | (exact absurd rfl hk) | (intro e; cases e; done)
  ·exact mvK hs fun _ => rfl
 intro L2 u2 W2 hall hJ hG
 have hb := hJ.beN hbel
 have hbel := hbel.trans hb
 obtain ⟨_, hs2_1t, hs2_1⟩ := oT 16 rR [0] hG 1
 have HC3 := oC (.int .i64 2) hG 2
 have hbel0 := hbel
 clear hJ hG hall hb
 go_wp2
 exact ret_cell_slot (R := rR) Tryz.results100 (by exact E2.out) (by exact HC3.out) hs2_1 tyFe rfl (fun s hs => ⟨s, rfl, hs, hbel⟩)
set_option maxHeartbeats 4000000 in
theorem rstrict_high {a : Option Addr} {n cap : Nat} {l : List UInt8} (w : World) (ha : RdB w a n cap l) (hn : n = 32) (h2 : 127 < (l[31]'(by have := ha.hlen; omega)).toNat) :
  Calls Tryz.prog 100 #[.slice a n cap] w fun e w' => ∃ r, e = .returned (.tuple #[r, .int .i64 2]) ∧ IsFs rR r [0] ∧ Below w.heap.size w w' := by
 subst hn
 obtain ⟨b, o, ho, hc⟩ := ha.get 31 (by have := ha.hlen; omega)
 have hl : l.length = 32 := ha.hlen
 generalize hcc : l[31] = c at *
 subst ho
 have HCL := Lib.hid hc
 have hcl := c.toNat_lt
 clear hc hcc
 have H2 := Lib.hid (show decide ((127 : Int) < (c.toNat : Int)) = true by simp; omega)
 clear h2
 go_enter Tryz.func100, Tryz.ntmps100
 have hbel : Below w.heap.size w w := Below.refl _ _
 have hbel0 := hbel
 go_upto_region 0 with fail
 refine rgT [(2, 0), (0, 1)] [.new 16, .oth (fun v => v = .int .i64 0)] ?_ ?_
 ·intro hs
  refine ⟨?_, ?_, trivial⟩
  ·exact step_alloc hs Wn rfl rfl (by omega) rfl allocFe
  ·exact mvK hs fun _ => rfl
 intro L0 u0 W0 hall hJ hG
 obtain ⟨q2, e2, hq2, _, ht2⟩ := oN 16 hG 0
 have hq2 : w.heap.size ≤ q2 := by have := hbel0.size; omega
 have E2 := Lib.hid e2; clear e2
 have hb := hJ.all rfl
 have hbel := Below.call hbel hb
 have HC3 := oC (.int .i64 0) hG 1
 have hbel0 := hbel
 clear hJ hG hall hb
 go_upto_region 1 with fail
 refine rgM [(4, 0), (0, 1), (0, 2), (0, 3), (0, 4), (0, 5), (0, 6), (0, 7), (0, 8), (0, 9), (0, 10), (0, 11), (0, 12), (0, 13), (0, 14), (0, 15), (0, 16), (0, 17)] [.oth (fun v => v = .slice (some ⟨b, o, none⟩) 32 cap), .oth (fun v => v = .int .i64 32), .oth (fun v => v = .bool false), .oth (fun v => v = .bool false), .oth (fun v => v = .slice (some ⟨b, o, none⟩) 32 cap), .oth (fun v => v = .pointer (some ⟨b, o + 31, none⟩)), .oth (fun v => v = .int .u8 (c.toNat : Int)), .oth (fun v => v = .bool true), .oth (fun v => v = .bool true), .oth (fun v => v = .bool true), .oth (fun v => v = undef), .oth (fun v => v = undef), .oth (fun v => v = undef), .oth (fun v => v = undef), .oth (fun v => v = undef), .oth (fun v => v = undef), .oth (fun v => v = undef), .oth (fun v => v = .bool true)] ?_ ?_
 ·intro hs
  refine ⟨?_, ?_, ?_, ?_, ?_, ?_, ?_, ?_, ?_, ?_, ?_, ?_, ?_, ?_, ?_, ?_, ?_, ?_, trivial⟩
  ·exact mvK hs fun _ => rfl
  ·refine step_pureO hs Wn rfl fun L u W hG hdep => ⟨_, ?_, rfl⟩
   have e0 := (oE (.slice (some ⟨b, o, none⟩) 32 cap) hG hdep 0)
   go_simp
  ·refine step_pureO hs Wn rfl fun L u W hG hdep => ⟨_, ?_, rfl⟩
   have e0 := (oE (.int .i64 32) hG hdep 1)
   go_simp
   try simp [bne]
  ·exact mvO 2 hs
  ·exact step_pureO hs (wants_on 3 rfl rfl (by kernel_rfl) (fun _ => rfl)) rfl fun L u W hG hdep => ⟨_, run_move rfl, rfl⟩
  ·refine step_pureO hs (wants_on 3 rfl rfl (by kernel_rfl) (fun _ => rfl)) rfl fun L u W hG hdep => ⟨_, ?_, rfl⟩
   have e0 := (oE (.slice (some ⟨b, o, none⟩) 32 cap) hG hdep 4)
   have f0 : (31 : Nat) < 32 := by omega
   go_simp
  ·exact step_cell b (o + 31) hs (wants_on 3 rfl rfl (by kernel_rfl) (fun _ => rfl)) rfl rfl (fun _ h => load_u8 h) (fun L u W hG hdep => (oE (.pointer (some ⟨b, o + 31, none⟩)) hG hdep 5)) (cell_keep HCL.out hbel) Na
  ·refine step_pureO hs (wants_on 3 rfl rfl (by kernel_rfl) (fun _ => rfl)) rfl fun L u W hG hdep => ⟨_, ?_, rfl⟩
   have e0 := (oE (.int .u8 (c.toNat : Int)) hG hdep 6)
   have f1 := H2.out
   go_simp
  ·exact step_pick false hs Wn rfl rfl (fun L u W hG hdep => (oE (.bool false) hG hdep 3)) (fun L u W hG hdep => (oE (.bool true) hG hdep 7))
  ·exact mvO 8 hs
  ·exact step_outU hs (wants_off 9 rfl rfl rfl (by kernel_rfl) (fun _ => rfl)) rfl
  ·exact step_outU hs (wants_off 9 rfl rfl rfl (by kernel_rfl) (fun _ => rfl)) rfl
  ·exact step_outU hs (wants_off 9 rfl rfl rfl (by kernel_rfl) (fun _ => rfl)) rfl
  ·exact step_outU hs (wants_off 9 rfl rfl rfl (by kernel_rfl) (fun _ => rfl)) rfl
  ·exact step_outU hs (wants_off 9 rfl rfl rfl (by kernel_rfl) (fun _ => rfl)) rfl
  ·exact step_outU hs (wants_off 9 rfl rfl rfl (by kernel_rfl) (fun _ => rfl)) rfl
  ·exact step_outU hs (wants_off 9 rfl rfl rfl (by kernel_rfl) (fun _ => rfl)) rfl
  ·exact step_pick true hs Wn rfl rfl (fun L u W hG hdep => (oE (.bool true) hG hdep 9)) (fun L u W hG hdep => rfl)
 intro L1 u1 W1 hall hJ hG
 have hb := hJ.all rfl
 have hbel := Below.call hbel hb
 have ht2 := there_later ht2 hb
 have HC6 := oC (.bool false) hG 2
 have HC7 := oC (.bool false) hG 3
 have HC11 := oC (.bool true) hG 7
 have HC12 := oC (.bool true) hG 8
 have HC13 := oC (.bool true) hG 9
 have HC21 := oC (.bool true) hG 17
 have hbel0 := hbel
 clear hJ hG hall hb
 have hx : u1 17 = .bool true := HC21.out
 go_wp2_with fail
 rw [hx]
 clear hx
 go_upto_region 2 with fail
 refine rgT [(3, 2), (18, 0)] [.val rR [0], .sto q2 rR [0], .oth (fun v => v = .int .i64 2)] ?_ ?_
 ·intro hs
  refine ⟨?_, ?_, ?_, trivial⟩
  ·exact step_pure hs Wn rfl fun L u W hG hdep => run_build0 rfl (buildFe0 W)
  ·refine step_storeO q2 16 hs Wn rfl rfl (by kernel_rfl) (fun k hk => ?_) (fun _ => E2.out) (there_lt ht2 (by omega)) ht2 (gO 0) tyFe rfl
   rcases k with _ | _ | _ | k
   all_goals first | (exact absurd rfl hk) | (intro e; cases e; done)
  ·exact mvK hs fun _ => rfl
 intro L2 u2 W2 hall hJ hG
 have hb := hJ.beN hbel
 have hbel := hbel.trans hb
 obtain ⟨_, hs2_1t, hs2_1⟩ := oT 16 rR [0] hG 1
 have HC3 := oC (.int .i64 2) hG 2
 have hbel0 := hbel
 clear hJ hG hall hb
 go_wp2
 exact ret_cell_slot (R := rR) Tryz.results100 (by exact E2.out) (by exact HC3.out) hs2_1 tyFe rfl (fun s hs => ⟨s, rfl, hs, hbel⟩)
set_option maxHeartbeats 4000000 in
theorem rstrict_yes {a : Option Addr} {n cap : Nat} {l : List UInt8} (w : World) (ha : RdB w a n cap l) (hn : n = 32) (h2 : ¬ 127 < (l[31]'(by have := ha.hlen; omega)).toNat) (hok : feOk l = true) :
  Calls Tryz.prog 100 #[.slice a n cap] w fun e w' => ∃ r, e = .returned (.tuple #[r, .int .i64 0]) ∧ IsFs rR r [feF l] ∧ Below w.heap.size w w' := by
 subst hn
 obtain ⟨b, o, ho, hc⟩ := ha.get 31 (by have := ha.hlen; omega)
 have hl : l.length = 32 := ha.hlen
 generalize hcc : l[31] = c at *
 subst ho
 have HCL := Lib.hid hc
 have hcl := c.toNat_lt
 clear hc hcc
 have H2 := Lib.hid (show decide ((127 : Int) < (c.toNat : Int)) = false by simp; omega)
 have HQ := Lib.hid (show decide (leB 32 (feF l).val = l) = true from by rw [feOk_back, hok])
 clear h2 hok
 go_enter Tryz.func100, Tryz.ntmps100
 have hbel : Below w.heap.size w w := Below.refl _ _
 have hbel0 := hbel
 go_upto_region 0 with fail
 refine rgT [(2, 0), (0, 1)] [.new 16, .oth (fun v => v = .int .i64 0)] ?_ ?_
 ·intro hs
  refine ⟨?_, ?_, trivial⟩
  ·exact step_alloc hs Wn rfl rfl (by omega) rfl allocFe
  ·exact mvK hs fun _ => rfl
 intro L0 u0 W0 hall hJ hG
 obtain ⟨q2, e2, hq2, _, ht2⟩ := oN 16 hG 0
 have hq2 : w.heap.size ≤ q2 := by have := hbel0.size; omega
 have E2 := Lib.hid e2; clear e2
 have hb := hJ.all rfl
 have hbel := Below.call hbel hb
 have HC3 := oC (.int .i64 0) hG 1
 have hbel0 := hbel
 clear hJ hG hall hb
 go_upto_region 1 with fail
 refine rgM [(4, 0), (0, 1), (0, 2), (0, 3), (0, 4), (0, 5), (0, 6), (0, 7), (0, 8), (0, 9), (0, 10), (0, 11), (0, 12), (0, 13), (0, 14), (0, 15), (0, 16), (0, 17)] [.oth (fun v => v = .slice (some ⟨b, o, none⟩) 32 cap), .oth (fun v => v = .int .i64 32), .oth (fun v => v = .bool false), .oth (fun v => v = .bool false), .oth (fun v => v = .slice (some ⟨b, o, none⟩) 32 cap), .oth (fun v => v = .pointer (some ⟨b, o + 31, none⟩)), .oth (fun v => v = .int .u8 (c.toNat : Int)), .oth (fun v => v = .bool false), .oth (fun v => v = .bool false), .oth (fun v => v = .bool false), .oth (fun v => v = .slice (some ⟨b, o, none⟩) 32 cap), .val rR [feF l], .rd (leB 32 (feF l).val), .oth (fun v => v = (.string (bs (leB 32 (feF l).val)))), .oth (fun v => v = .slice (some ⟨b, o, none⟩) 32 cap), .oth (fun v => v = (.string (bs l))), .oth (fun v => v = .bool false), .oth (fun v => v = .bool false)] ?_ ?_
 ·intro hs
  refine ⟨?_, ?_, ?_, ?_, ?_, ?_, ?_, ?_, ?_, ?_, ?_, ?_, ?_, ?_, ?_, ?_, ?_, ?_, trivial⟩
  ·exact mvK hs fun _ => rfl
  ·refine step_pureO hs Wn rfl fun L u W hG hdep => ⟨_, ?_, rfl⟩
   have e0 := (oE (.slice (some ⟨b, o, none⟩) 32 cap) hG hdep 0)
   go_simp
  ·refine step_pureO hs Wn rfl fun L u W hG hdep => ⟨_, ?_, rfl⟩
   have e0 := (oE (.int .i64 32) hG hdep 1)
   go_simp
   try simp [bne]
  ·exact mvO 2 hs
  ·exact step_pureO hs (wants_on 3 rfl rfl (by kernel_rfl) (fun _ => rfl)) rfl fun L u W hG hdep => ⟨_, run_move rfl, rfl⟩
  ·refine step_pureO hs (wants_on 3 rfl rfl (by kernel_rfl) (fun _ => rfl)) rfl fun L u W hG hdep => ⟨_, ?_, rfl⟩
   have e0 := (oE (.slice (some ⟨b, o, none⟩) 32 cap) hG hdep 4)
   have f0 : (31 : Nat) < 32 := by omega
   go_simp
  ·exact step_cell b (o + 31) hs (wants_on 3 rfl rfl (by kernel_rfl) (fun _ => rfl)) rfl rfl (fun _ h => load_u8 h) (fun L u W hG hdep => (oE (.pointer (some ⟨b, o + 31, none⟩)) hG hdep 5)) (cell_keep HCL.out hbel) Na
  ·refine step_pureO hs (wants_on 3 rfl rfl (by kernel_rfl) (fun _ => rfl)) rfl fun L u W hG hdep => ⟨_, ?_, rfl⟩
   have e0 := (oE (.int .u8 (c.toNat : Int)) hG hdep 6)
   have f1 := H2.out
   go_simp
  ·exact step_pick false hs Wn rfl rfl (fun L u W hG hdep => (oE (.bool false) hG hdep 3)) (fun L u W hG hdep => (oE (.bool false) hG hdep 7))
  ·exact mvO 8 hs
  ·exact step_pureO hs (wants_on 9 rfl rfl (by kernel_rfl) (fun _ => rfl)) rfl fun L u W hG hdep => ⟨_, run_move rfl, rfl⟩
  ·refine step_call hs (wants_on 9 rfl rfl (by kernel_rfl) (fun _ => rfl)) rfl fun L u W hJ hG hL hdep K hK => ?_
   have x0 := (oE (.slice (some ⟨b, o, none⟩) 32 cap) hG hdep 10)
   have hRB0 := (ha.below hbel).below (hJ.all rfl)
   go_simp
   go_at_call 124
   (with_reducible refine (kOf' rfl hRB0).mono ?_); rintro e w1 ⟨r, rfl, hr, hb⟩
   have hk := hK.out _ _ hr hb
   simp only [x0] at hk
   exact hk
  ·refine step_callB hs (wants_on 9 rfl rfl (by kernel_rfl) (fun _ => rfl)) rfl fun L u W hJ hG hL hdep K hK => ?_
   have a0 := (vE rR [feF l] hG hdep 11)
   go_simp
   go_at_call 80
   (with_reducible refine (kBytes a0 _).mono ?_); rintro e w1 ⟨g, n, cap, r, rfl, h1, h2, h3, h4, h5, hb⟩
   exact hK.out _ _ _ _ _ h1 h2 h3 h4 h5 hb
  ·exact step_conv 12 hs (wants_on 9 rfl rfl (by kernel_rfl) (fun _ => rfl)) rfl rfl rfl (by kernel_rfl) (fun _ => rfl)
  ·exact step_pureO hs (wants_on 9 rfl rfl (by kernel_rfl) (fun _ => rfl)) rfl fun L u W hG hdep => ⟨_, run_move rfl, rfl⟩
  ·exact step_convC hs (wants_on 9 rfl rfl (by kernel_rfl) (fun _ => rfl)) rfl rfl (ha.below hbel) (by kernel_rfl) (fun L u W hG hdep => (oE (.slice (some ⟨b, o, none⟩) 32 cap) hG hdep 14))
  ·exact step_pureO hs (wants_on 9 rfl rfl (by kernel_rfl) (fun _ => rfl)) rfl fun L u W hG hdep => ⟨_, run_neqS rfl (oE ((.string (bs (leB 32 (feF l).val)))) hG hdep 13) (oE ((.string (bs l))) hG hdep 15), by rw [HQ.out]; rfl⟩
  ·exact step_pick false hs Wn rfl rfl (fun L u W hG hdep => (oE (.bool false) hG hdep 9)) (fun L u W hG hdep => (oE (.bool false) hG hdep 16))
 intro L1 u1 W1 hall hJ hG
 have hb := hJ.all rfl
 have hbel := Below.call hbel hb
 have ht2 := there_later ht2 hb
 have HC6 := oC (.bool false) hG 2
 have HC7 := oC (.bool false) hG 3
 have HC11 := oC (.bool false) hG 7
 have HC12 := oC (.bool false) hG 8
 have HC13 := oC (.bool false) hG 9
 have HC20 := oC (.bool false) hG 16
 have HC21 := oC (.bool false) hG 17
 have hbel0 := hbel
 clear hJ hG hall hb
 have hx : u1 17 = .bool false := HC21.out
 go_wp2_with fail
 rw [hx]
 clear hx
 go_upto_region 3 with fail
 refine rgT [(3, 3), (19, 0), (0, 1)] [.oth (fun v => v = .slice (some ⟨b, o, none⟩) 32 cap), .val rR [feF l], .sto q2 rR [feF l], .oth (fun v => v = .int .i64 0)] ?_ ?_
 ·intro hs
  refine ⟨?_, ?_, ?_, ?_, trivial⟩
  ·exact mvK hs fun _ => rfl
  ·refine step_call hs Wn rfl fun L u W hJ hG hL hdep K hK => ?_
   have x0 := (oE (.slice (some ⟨b, o, none⟩) 32 cap) hG hdep 0)
   have hRB0 := (ha.below (hbel.trans (hJ.below (by have := hbel.size; omega) (fun k b hf => by rcases k with _ | _ | _ | _ | k <;> first | (cases hf; done) | (cases hf; omega)))))
   go_simp
   go_at_call 124
   (with_reducible refine (kOf' rfl hRB0).mono ?_); rintro e w1 ⟨r, rfl, hr, hb⟩
   have hk := hK.out _ _ hr hb
   simp only [x0] at hk
   exact hk
  ·refine step_storeO q2 16 hs Wn rfl rfl (by kernel_rfl) (fun k hk => ?_) (fun _ => E2.out) (there_lt ht2 (by omega)) ht2 (gO 1) tyFe rfl
   rcases k with _ | _ | _ | _ | k
   all_goals first | (exact absurd rfl hk) | (intro e; cases e; done)
  ·exact mvK hs fun _ => rfl
 intro L3 u3 W3 hall hJ hG
 have hb := hJ.beN hbel
 have hbel := hbel.trans hb
 obtain ⟨_, hs3_2t, hs3_2⟩ := oT 16 rR [feF l] hG 2
 have HC3 := oC (.int .i64 0) hG 3
 have hbel0 := hbel
 clear hJ hG hall hb
 go_wp2
 exact ret_cell_slot (R := rR) Tryz.results100 (by exact E2.out) (by exact HC3.out) hs3_2 tyFe rfl (fun s hs => ⟨s, rfl, hs, hbel⟩)
set_option maxHeartbeats 4000000 in
theorem rstrict_no {a : Option Addr} {n cap : Nat} {l : List UInt8} (w : World) (ha : RdB w a n cap l) (hn : n = 32) (h2 : ¬ 127 < (l[31]'(by have := ha.hlen; omega)).toNat) (hok : feOk l = false) :
  Calls Tryz.prog 100 #[.slice a n cap] w fun e w' => ∃ r, e = .returned (.tuple #[r, .int .i64 2]) ∧ IsFs rR r [0] ∧ Below w.heap.size w w' := by
 subst hn
 obtain ⟨b, o, ho, hc⟩ := ha.get 31 (by have := ha.hlen; omega)
 have hl : l.length = 32 := ha.hlen
 generalize hcc : l[31] = c at *
 subst ho
 have HCL := Lib.hid hc
 have hcl := c.toNat_lt
 clear hc hcc
 have H2 := Lib.hid (show decide ((127 : Int) < (c.toNat : Int)) = false by simp; omega)
 have HQ := Lib.hid (show decide (leB 32 (feF l).val = l) = false from by rw [feOk_back, hok])
 clear h2 hok
 go_enter Tryz.func100, Tryz.ntmps100
 have hbel : Below w.heap.size w w := Below.refl _ _
 have hbel0 := hbel
 go_upto_region 0 with fail
 refine rgT [(2, 0), (0, 1)] [.new 16, .oth (fun v => v = .int .i64 0)] ?_ ?_
 ·intro hs
  refine ⟨?_, ?_, trivial⟩
  ·exact step_alloc hs Wn rfl rfl (by omega) rfl allocFe
  ·exact mvK hs fun _ => rfl
 intro L0 u0 W0 hall hJ hG
 obtain ⟨q2, e2, hq2, _, ht2⟩ := oN 16 hG 0
 have hq2 : w.heap.size ≤ q2 := by have := hbel0.size; omega
 have E2 := Lib.hid e2; clear e2
 have hb := hJ.all rfl
 have hbel := Below.call hbel hb
 have HC3 := oC (.int .i64 0) hG 1
 have hbel0 := hbel
 clear hJ hG hall hb
 go_upto_region 1 with fail
 refine rgM [(4, 0), (0, 1), (0, 2), (0, 3), (0, 4), (0, 5), (0, 6), (0, 7), (0, 8), (0, 9), (0, 10), (0, 11), (0, 12), (0, 13), (0, 14), (0, 15), (0, 16), (0, 17)] [.oth (fun v => v = .slice (some ⟨b, o, none⟩) 32 cap), .oth (fun v => v = .int .i64 32), .oth (fun v => v = .bool false), .oth (fun v => v = .bool false), .oth (fun v => v = .slice (some ⟨b, o, none⟩) 32 cap), .oth (fun v => v = .pointer (some ⟨b, o + 31, none⟩)), .oth (fun v => v = .int .u8 (c.toNat : Int)), .oth (fun v => v = .bool false), .oth (fun v => v = .bool false), .oth (fun v => v = .bool false), .oth (fun v => v = .slice (some ⟨b, o, none⟩) 32 cap), .val rR [feF l], .rd (leB 32 (feF l).val), .oth (fun v => v = (.string (bs (leB 32 (feF l).val)))), .oth (fun v => v = .slice (some ⟨b, o, none⟩) 32 cap), .oth (fun v => v = (.string (bs l))), .oth (fun v => v = .bool true), .oth (fun v => v = .bool true)] ?_ ?_
 ·intro hs
  refine ⟨?_, ?_, ?_, ?_, ?_, ?_, ?_, ?_, ?_, ?_, ?_, ?_, ?_, ?_, ?_, ?_, ?_, ?_, trivial⟩
  ·exact mvK hs fun _ => rfl
  ·refine step_pureO hs Wn rfl fun L u W hG hdep => ⟨_, ?_, rfl⟩
   have e0 := (oE (.slice (some ⟨b, o, none⟩) 32 cap) hG hdep 0)
   go_simp
  ·refine step_pureO hs Wn rfl fun L u W hG hdep => ⟨_, ?_, rfl⟩
   have e0 := (oE (.int .i64 32) hG hdep 1)
   go_simp
   try simp [bne]
  ·exact mvO 2 hs
  ·exact step_pureO hs (wants_on 3 rfl rfl (by kernel_rfl) (fun _ => rfl)) rfl fun L u W hG hdep => ⟨_, run_move rfl, rfl⟩
  ·refine step_pureO hs (wants_on 3 rfl rfl (by kernel_rfl) (fun _ => rfl)) rfl fun L u W hG hdep => ⟨_, ?_, rfl⟩
   have e0 := (oE (.slice (some ⟨b, o, none⟩) 32 cap) hG hdep 4)
   have f0 : (31 : Nat) < 32 := by omega
   go_simp
  ·exact step_cell b (o + 31) hs (wants_on 3 rfl rfl (by kernel_rfl) (fun _ => rfl)) rfl rfl (fun _ h => load_u8 h) (fun L u W hG hdep => (oE (.pointer (some ⟨b, o + 31, none⟩)) hG hdep 5)) (cell_keep HCL.out hbel) Na
  ·refine step_pureO hs (wants_on 3 rfl rfl (by kernel_rfl) (fun _ => rfl)) rfl fun L u W hG hdep => ⟨_, ?_, rfl⟩
   have e0 := (oE (.int .u8 (c.toNat : Int)) hG hdep 6)
   have f1 := H2.out
   go_simp
  ·exact step_pick false hs Wn rfl rfl (fun L u W hG hdep => (oE (.bool false) hG hdep 3)) (fun L u W hG hdep => (oE (.bool false) hG hdep 7))
  ·exact mvO 8 hs
  ·exact step_pureO hs (wants_on 9 rfl rfl (by kernel_rfl) (fun _ => rfl)) rfl fun L u W hG hdep => ⟨_, run_move rfl, rfl⟩
  ·refine step_call hs (wants_on 9 rfl rfl (by kernel_rfl) (fun _ => rfl)) rfl fun L u W hJ hG hL hdep K hK => ?_
   have x0 := (oE (.slice (some ⟨b, o, none⟩) 32 cap) hG hdep 10)
   have hRB0 := (ha.below hbel).below (hJ.all rfl)
   go_simp
   go_at_call 124
   (with_reducible refine (kOf' rfl hRB0).mono ?_); rintro e w1 ⟨r, rfl, hr, hb⟩
   have hk := hK.out _ _ hr hb
   simp only [x0] at hk
   exact hk
  ·refine step_callB hs (wants_on 9 rfl rfl (by kernel_rfl) (fun _ => rfl)) rfl fun L u W hJ hG hL hdep K hK => ?_
   have a0 := (vE rR [feF l] hG hdep 11)
   go_simp
   go_at_call 80
   (with_reducible refine (kBytes a0 _).mono ?_); rintro e w1 ⟨g, n, cap, r, rfl, h1, h2, h3, h4, h5, hb⟩
   exact hK.out _ _ _ _ _ h1 h2 h3 h4 h5 hb
  ·exact step_conv 12 hs (wants_on 9 rfl rfl (by kernel_rfl) (fun _ => rfl)) rfl rfl rfl (by kernel_rfl) (fun _ => rfl)
  ·exact step_pureO hs (wants_on 9 rfl rfl (by kernel_rfl) (fun _ => rfl)) rfl fun L u W hG hdep => ⟨_, run_move rfl, rfl⟩
  ·exact step_convC hs (wants_on 9 rfl rfl (by kernel_rfl) (fun _ => rfl)) rfl rfl (ha.below hbel) (by kernel_rfl) (fun L u W hG hdep => (oE (.slice (some ⟨b, o, none⟩) 32 cap) hG hdep 14))
  ·exact step_pureO hs (wants_on 9 rfl rfl (by kernel_rfl) (fun _ => rfl)) rfl fun L u W hG hdep => ⟨_, run_neqS rfl (oE ((.string (bs (leB 32 (feF l).val)))) hG hdep 13) (oE ((.string (bs l))) hG hdep 15), by rw [HQ.out]; rfl⟩
  ·exact step_pick false hs Wn rfl rfl (fun L u W hG hdep => (oE (.bool false) hG hdep 9)) (fun L u W hG hdep => (oE (.bool true) hG hdep 16))
 intro L1 u1 W1 hall hJ hG
 have hb := hJ.all rfl
 have hbel := Below.call hbel hb
 have ht2 := there_later ht2 hb
 have HC6 := oC (.bool false) hG 2
 have HC7 := oC (.bool false) hG 3
 have HC11 := oC (.bool false) hG 7
 have HC12 := oC (.bool false) hG 8
 have HC13 := oC (.bool false) hG 9
 have HC20 := oC (.bool true) hG 16
 have HC21 := oC (.bool true) hG 17
 have hbel0 := hbel
 clear hJ hG hall hb
 have hx : u1 17 = .bool true := HC21.out
 go_wp2_with fail
 rw [hx]
 clear hx
 go_upto_region 2 with fail
 refine rgT [(3, 2), (18, 0)] [.val rR [0], .sto q2 rR [0], .oth (fun v => v = .int .i64 2)] ?_ ?_
 ·intro hs
  refine ⟨?_, ?_, ?_, trivial⟩
  ·exact step_pure hs Wn rfl fun L u W hG hdep => run_build0 rfl (buildFe0 W)
  ·refine step_storeO q2 16 hs Wn rfl rfl (by kernel_rfl) (fun k hk => ?_) (fun _ => E2.out) (there_lt ht2 (by omega)) ht2 (gO 0) tyFe rfl
   rcases k with _ | _ | _ | k
   all_goals first | (exact absurd rfl hk) | (intro e; cases e; done)
  ·exact mvK hs fun _ => rfl
 intro L2 u2 W2 hall hJ hG
 have hb := hJ.beN hbel
 have hbel := hbel.trans hb
 obtain ⟨_, hs2_1t, hs2_1⟩ := oT 16 rR [0] hG 1
 have HC3 := oC (.int .i64 2) hG 2
 have hbel0 := hbel
 clear hJ hG hall hb
 go_wp2
 exact ret_cell_slot (R := rR) Tryz.results100 (by exact E2.out) (by exact HC3.out) hs2_1 tyFe rfl (fun s hs => ⟨s, rfl, hs, hbel⟩)
theorem kStrict' {a : Option Addr} {n cap : Nat} {l : List UInt8} {x : F} {c : Int} {w : World} (hx : stV l = x) (hc : stC l = c) (h : RdB w a n cap l) :
  Calls Tryz.prog 100 #[.slice a n cap] w fun e w' => ∃ r, e = .returned (.tuple #[r, .int .i64 c]) ∧ IsFs rR r [x] ∧ Below w.heap.size w w' := by
 subst hx hc
 have hlen := h.hlen
 by_cases hn : n = 32
 ·by_cases h2 : 127 < (l[31]'(by omega)).toNat
  ·have e := feOk_high (by omega) h2
   rw [stV, stC, e]
   exact rstrict_high w h hn h2
  ·cases e : feOk l
   ·rw [stV, stC, e]
    exact rstrict_no w h hn h2 e
   ·rw [stV, stC, e]
    exact rstrict_yes w h hn h2 e
 ·have e := feOk_len (l := l) (by omega)
  rw [stV, stC, e]
  exact rstrict_len w h hn
theorem root_odd {x r : F} (hc : cand x = r) (h : r * r = x) (hp : r.val % 2 = 1) : rootV x = -r := by unfold rootV; rw [hc, if_pos h, if_pos hp]
theorem root_even {x r : F} (hc : cand x = r) (h : r * r = x) (hp : ¬ r.val % 2 = 1) : rootV x = r := by unfold rootV; rw [hc, if_pos h, if_neg hp]
theorem root_c0 {x r : F} (hc : cand x = r) (h : r * r = x) : rootC x = 0 := by unfold rootC; rw [hc, if_pos h]
theorem root_no {x r : F} (hc : cand x = r) (h : ¬ r * r = x) : rootV x = 0 ∧ rootC x = 7 := by unfold rootV rootC; rw [hc, if_neg h, if_neg h]; exact ⟨rfl, rfl⟩
set_option maxHeartbeats 4000000 in
theorem rroot_core (x r t : F) (hr : fpow x exp8 = r) (ht : fpow (fn 2) (beF (pwF 31 251) 32) = t) (hcd : cand x = if r * r = x then r else r * t) {v0 : Value} (h0 : IsFs rR v0 [x]) (w : World) :
  Calls Tryz.prog 103 #[v0] w fun e w' => ∃ s, e = .returned (.tuple #[s, .int .i64 (rootC x)]) ∧ IsFs rR s [rootV x] ∧ Below w.heap.size w w' := by
 have HR := Lib.hid hr
 have HT := Lib.hid ht
 have HCD := Lib.hid hcd
 clear hr ht hcd
 go_enter Tryz.func103, Tryz.ntmps103
 have hbel : Below w.heap.size w w := Below.refl _ _
 have hbel0 := hbel
 go_upto_region 0 with fail
 refine rgT [(1, 0), (0, 1), (0, 2)] [.box rR [x], .new 16, .oth (fun v => v = .int .i64 0)] ?_ ?_
 ·intro hs
  refine ⟨?_, ?_, ?_, trivial⟩
  ·exact step_box hs Wn rfl rfl (gives_c h0 (fun _ => rfl))
  ·exact step_alloc hs Wn rfl rfl (by omega) rfl allocFe
  ·exact mvK hs fun _ => rfl
 intro L0 u0 W0 hall hJ hG
 obtain ⟨q1, e1, ⟨hq1, _⟩, ht1, hm1⟩ := oB 16 rR [x] hG 0
 have hq1 : w.heap.size ≤ q1 := by have := hbel0.size; omega
 have E1 := Lib.hid e1; clear e1
 obtain ⟨q2, e2, hq2, _, ht2⟩ := oN 16 hG 1
 have hq2 : w.heap.size ≤ q2 := by have := hbel0.size; omega
 have E2 := Lib.hid e2; clear e2
 have hb := hJ.all rfl
 have hbel := Below.call hbel hb
 have HN1_2 := Lib.hid (show q1 ≠ q2 from fun e => hJ.apart 0 1 _ (by omega) (hall _ (by simp)) (hall _ (by simp)) rfl rfl (E1.out.trans (by rw [e])) E2.out)
 have hbel0 := hbel
 clear hJ hG hall hb
 go_upto_region 1 with fail
 refine rgM [(4, 3), (0, 0), (0, 1), (0, 2)] [.val rR [x], .tmp 32 (row 32 (uV (pwF 15 254))) 2, .val rR [r], .new 16, .st 3 rR [r]] ?_ ?_
 ·intro hs
  refine ⟨?_, ?_, ?_, ?_, ?_, trivial⟩
  ·exact step_load q1 0 hs Wn rfl rfl tyFe (fun _ => E1.out) hm1.lt hm1 Na
  ·refine step_callT hs Wn rfl fun L u W hJ hG hL hdep K hK => ?_
   go_simp
   go_at_call 119
   (with_reducible refine (rpow15 _).mono ?_); rintro e w1 ⟨rfl, h1, hb⟩
   exact hK.out _ _ h1 hb
  ·refine step_call hs Wn rfl fun L u W hJ hG hL hdep K hK => ?_
   have a0 := (vE rR [x] hG hdep 0)
   obtain ⟨gT, x0, hT⟩ := (show ∃ g, u 1 = .slice (some ⟨g, 0, none⟩) 32 32 ∧ (L 2 = false → Blk W g (row 32 (uV (pwF 15 254))) 5) from hG 1 (hdep 1 (by kernel_rfl)))
   have hT := hT hL
   go_simp
   go_at_call 118
   (with_reducible refine (kPow 15 254 exp8 (by omega) (by omega) be_8 HR.out a0 hT).mono ?_); rintro e w1 ⟨r, rfl, hr, hb⟩
   have hk := hK.out _ _ hr hb
   simp only [x0] at hk
   exact hk
  ·exact step_alloc hs Wn rfl rfl (by omega) rfl allocFe
  ·exact step_store 3 hs (by kernel_rfl) Wn rfl rfl rfl (by kernel_rfl) (by kernel_rfl) (by kernel_rfl) (by kernel_rfl) (fun _ => rfl) (gO 2) tyFe rfl
 intro L1 u1 W1 hall hJ hG
 obtain ⟨q4, e4, hq4, _, ht4⟩ := oN 16 hG 3
 have hm4 := oS rR [r] hG 4 e4
 have HD4_q1 := Lib.hid (show q1 ≠ q4 by have := there_lt ht1 (by omega); omega)
 have HD4_q2 := Lib.hid (show q2 ≠ q4 by have := there_lt ht2 (by omega); omega)
 have hq4 : w.heap.size ≤ q4 := by have := hbel0.size; omega
 have E4 := Lib.hid e4; clear e4
 have hb := hJ.all rfl
 have hbel := Below.call hbel hb
 have hm1 := hm1.later hb
 have ht1 := there_later ht1 hb
 have ht2 := there_later ht2 hb
 have hbel0 := hbel
 clear hJ hG hall hb
 go_upto_region 2 with fail
 refine rgM [(8, 0), (0, 1), (0, 2), (0, 3), (0, 4)] [.val rR [r], .val rR [r], .val rR [r * r], .val rR [x], .oth (fun v => v = .bool (!decide (r * r = x)))] ?_ ?_
 ·intro hs
  refine ⟨?_, ?_, ?_, ?_, ?_, trivial⟩
  ·exact step_load q4 0 hs Wn rfl rfl tyFe (fun _ => E4.out) hm4.lt hm4 Na
  ·exact step_load q4 0 hs Wn rfl rfl tyFe (fun _ => E4.out) hm4.lt hm4 Na
  ·refine step_call hs Wn rfl fun L u W hJ hG hL hdep K hK => ?_
   have a0 := (vE rR [r] hG hdep 0)
   have a1 := (vE rR [r] hG hdep 1)
   go_simp
   go_at_call 78
   (with_reducible refine (kMul a0 a1 _).mono ?_); rintro e w1 ⟨r, rfl, hr, hb⟩
   exact hK.out _ _ hr hb
  ·exact step_load q1 0 hs Wn rfl rfl tyFe (fun _ => E1.out) hm1.lt hm1 Na
  ·exact step_pureO hs Wn rfl fun L u W hG hdep => ⟨_, run_neqR rfl (vE rR [r * r] hG hdep 2) (vE rR [x] hG hdep 3), rfl⟩
 intro L2 u2 W2 hall hJ hG
 have hb := hJ.all rfl
 have hbel := Below.call hbel hb
 have hm1 := hm1.later hb
 have hm4 := hm4.later hb
 have ht1 := there_later ht1 hb
 have ht2 := there_later ht2 hb
 have ht4 := there_later ht4 hb
 have HC12 := oC (.bool (!decide (r * r = x))) hG 4
 have hbel0 := hbel
 clear hJ hG hall hb
 by_cases hq : r * r = x
 ·have HQ := Lib.hid hq
  have HC : Hid (cand x = r) := Lib.hid (by rw [HCD.out, if_pos hq])
  clear hq
  have hx : u2 4 = .bool false := by rw [HC12.out, decide_eq_true HQ.out]; rfl
  go_wp2_with fail
  rw [hx]
  clear hx
  go_upto_region 4 with fail
  refine rgM [(18, 0), (0, 1), (0, 2), (0, 3), (0, 4)] [.val rR [r], .val rR [r], .val rR [r * r], .val rR [x], .oth (fun v => v = .bool (!decide (r * r = x)))] ?_ ?_
  ·intro hs
   refine ⟨?_, ?_, ?_, ?_, ?_, trivial⟩
   ·exact step_load q4 0 hs Wn rfl rfl tyFe (fun _ => E4.out) hm4.lt hm4 Na
   ·exact step_load q4 0 hs Wn rfl rfl tyFe (fun _ => E4.out) hm4.lt hm4 Na
   ·refine step_call hs Wn rfl fun L u W hJ hG hL hdep K hK => ?_
    have a0 := (vE rR [r] hG hdep 0)
    have a1 := (vE rR [r] hG hdep 1)
    go_simp
    go_at_call 78
    (with_reducible refine (kMul a0 a1 _).mono ?_); rintro e w1 ⟨r, rfl, hr, hb⟩
    exact hK.out _ _ hr hb
   ·exact step_load q1 0 hs Wn rfl rfl tyFe (fun _ => E1.out) hm1.lt hm1 Na
   ·exact step_pureO hs Wn rfl fun L u W hG hdep => ⟨_, run_neqR rfl (vE rR [r * r] hG hdep 2) (vE rR [x] hG hdep 3), rfl⟩
  intro L4 u4 W4 hall hJ hG
  have hb := hJ.all rfl
  have hbel := Below.call hbel hb
  have hm1 := hm1.later hb
  have hm4 := hm4.later hb
  have ht1 := there_later ht1 hb
  have ht2 := there_later ht2 hb
  have ht4 := there_later ht4 hb
  have HC22 := oC (.bool (!decide (r * r = x))) hG 4
  have hbel0 := hbel
  clear hJ hG hall hb
  have hx : u4 4 = .bool false := by rw [HC22.out, decide_eq_true HQ.out]; rfl
  go_wp2_with fail
  rw [hx]
  clear hx
  have e4 := E4.out
  have hc0 := hm4.cell0
  by_cases hp : (r).val % 2 = 1
  ·have ho : (bits BinOp.and IntKind.u64 ((d16 (r).val 0 : Nat) : Int) 1 == 1) = true := by rw [odd16, hp]; rfl
   have HP := Lib.hid hp
   clear hp
   generalize hdd : d16 (r).val 0 = dd at *
   clear hdd
   go_upto_region 7 with fail
   clear e4 hc0 ho
   refine rgT [(28, 0), (0, 1)] [.val rR [r], .val rR [-r], .sto q4 rR [-r]] ?_ ?_
   ·intro hs
    refine ⟨?_, ?_, ?_, trivial⟩
    ·exact step_load q4 0 hs Wn rfl rfl tyFe (fun _ => E4.out) hm4.lt hm4 Na
    ·refine step_call hs Wn rfl fun L u W hJ hG hL hdep K hK => ?_
     have a0 := (vE rR [r] hG hdep 0)
     go_simp
     go_at_call 104
     (with_reducible refine (kNeg a0 _).mono ?_); rintro e w1 ⟨r, rfl, hr, hb⟩
     exact hK.out _ _ hr hb
    ·refine step_storeO q4 16 hs Wn rfl rfl (by kernel_rfl) (fun k hk => ?_) (fun _ => E4.out) (there_lt ht4 (by omega)) ht4 (gO 1) tyFe rfl
     rcases k with _ | _ | _ | k
     all_goals first | (exact absurd rfl hk) | (intro e; cases e; done)
   intro L7 u7 W7 hall hJ hG
   have hb := hJ.beN hbel
   have hbel := hbel.trans hb
   have hm1 := kC hm1 hJ HD4_q1.out
   have ht1 := tC ht1 hJ HD4_q1.out
   have ht2 := tC ht2 hJ HD4_q2.out
   obtain ⟨_, hs7_2t, hs7_2⟩ := oT 16 rR [-r] hG 2
   have hbel0 := hbel
   clear hJ hG hall hb
   go_upto_region 8 with fail
   refine rgT [(3, 2), (26, 0)] [.val rR [-r], .sto q2 rR [-r], .oth (fun v => v = .int .i64 0)] ?_ ?_
   ·intro hs
    refine ⟨?_, ?_, ?_, trivial⟩
    ·exact step_load q4 0 hs Wn rfl rfl tyFe (fun _ => E4.out) hs7_2.lt hs7_2 (apN HD4_q2.out)
    ·refine step_storeO q2 16 hs Wn rfl rfl (by kernel_rfl) (fun k hk => ?_) (fun _ => E2.out) (there_lt ht2 (by omega)) ht2 (gO 0) tyFe rfl
     rcases k with _ | _ | _ | k
     all_goals first | (exact absurd rfl hk) | (intro e; cases e; done)
    ·exact mvK hs fun _ => rfl
   intro L8 u8 W8 hall hJ hG
   have hb := hJ.beN hbel
   have hbel := hbel.trans hb
   have hm1 := kC hm1 hJ HN1_2.out
   have hs7_2 := kB hs7_2 hJ HD4_q2.out
   have ht1 := tC ht1 hJ HN1_2.out
   have hs7_2t := tB hs7_2t hJ HD4_q2.out
   obtain ⟨_, hs8_1t, hs8_1⟩ := oT 16 rR [-r] hG 1
   have HC3 := oC (.int .i64 0) hG 2
   have hbel0 := hbel
   clear hJ hG hall hb
   go_wp2
   exact ret_cell_slot (R := rR) Tryz.results103 (by exact E2.out) (by exact HC3.out) hs8_1 tyFe rfl (fun s hs => ⟨s, by rw [root_c0 HC.out HQ.out], by rw [root_odd HC.out HQ.out HP.out]; exact hs, hbel⟩)
  ·have ho : (bits BinOp.and IntKind.u64 ((d16 (r).val 0 : Nat) : Int) 1 == 1) = false := by rw [odd16, show (r).val % 2 = 0 by omega]; rfl
   have HP := Lib.hid hp
   clear hp
   generalize hdd : d16 (r).val 0 = dd at *
   clear hdd
   go_upto_region 8 with fail
   clear e4 hc0 ho
   refine rgT [(3, 2), (26, 0)] [.val rR [r], .sto q2 rR [r], .oth (fun v => v = .int .i64 0)] ?_ ?_
   ·intro hs
    refine ⟨?_, ?_, ?_, trivial⟩
    ·exact step_load q4 0 hs Wn rfl rfl tyFe (fun _ => E4.out) hm4.lt hm4 (apN HD4_q2.out)
    ·refine step_storeO q2 16 hs Wn rfl rfl (by kernel_rfl) (fun k hk => ?_) (fun _ => E2.out) (there_lt ht2 (by omega)) ht2 (gO 0) tyFe rfl
     rcases k with _ | _ | _ | k
     all_goals first | (exact absurd rfl hk) | (intro e; cases e; done)
    ·exact mvK hs fun _ => rfl
   intro L8 u8 W8 hall hJ hG
   have hb := hJ.beN hbel
   have hbel := hbel.trans hb
   have hm1 := kC hm1 hJ HN1_2.out
   have hm4 := kB hm4 hJ HD4_q2.out
   have ht1 := tC ht1 hJ HN1_2.out
   have ht4 := tB ht4 hJ HD4_q2.out
   obtain ⟨_, hs8_1t, hs8_1⟩ := oT 16 rR [r] hG 1
   have HC3 := oC (.int .i64 0) hG 2
   have hbel0 := hbel
   clear hJ hG hall hb
   go_wp2
   exact ret_cell_slot (R := rR) Tryz.results103 (by exact E2.out) (by exact HC3.out) hs8_1 tyFe rfl (fun s hs => ⟨s, by rw [root_c0 HC.out HQ.out], by rw [root_even HC.out HQ.out HP.out]; exact hs, hbel⟩)
 ·have HQ := Lib.hid hq
  have HC : Hid (cand x = r * t) := Lib.hid (by rw [HCD.out, if_neg hq])
  clear hq
  have hx : u2 4 = .bool true := by rw [HC12.out, decide_eq_false HQ.out]; rfl
  go_wp2_with fail
  rw [hx]
  clear hx
  go_upto_region 3 with fail
  refine rgM [(13, 0), (0, 1), (0, 2), (0, 3), (0, 4)] [.val rR [r], .val rR [fn 2], .tmp 32 (row 32 (uV (pwF 31 251))) 3, .val rR [t], .val rR [r * t], .sto q4 rR [r * t]] ?_ ?_
  ·intro hs
   refine ⟨?_, ?_, ?_, ?_, ?_, ?_, trivial⟩
   ·exact step_load q4 0 hs Wn rfl rfl tyFe (fun _ => E4.out) hm4.lt hm4 Na
   ·refine step_call hs Wn rfl fun L u W hJ hG hL hdep K hK => ?_
    go_simp
    go_at_call 77
    (with_reducible refine (kSmallI (n := 2) (z := 2) rfl (by omega) _).mono ?_); rintro e w1 ⟨r, rfl, hr, hb⟩
    exact hK.out _ _ hr hb
   ·refine step_callT hs Wn rfl fun L u W hJ hG hL hdep K hK => ?_
    go_simp
    go_at_call 119
    (with_reducible refine (rpow31 _).mono ?_); rintro e w1 ⟨rfl, h1, hb⟩
    exact hK.out _ _ h1 hb
   ·refine step_call hs Wn rfl fun L u W hJ hG hL hdep K hK => ?_
    have a0 := (vE rR [fn 2] hG hdep 1)
    obtain ⟨gT, x0, hT⟩ := (show ∃ g, u 2 = .slice (some ⟨g, 0, none⟩) 32 32 ∧ (L 3 = false → Blk W g (row 32 (uV (pwF 31 251))) 5) from hG 2 (hdep 2 (by kernel_rfl)))
    have hT := hT hL
    go_simp
    go_at_call 118
    (with_reducible refine (kPow 31 251 _ (by omega) (by omega) rfl HT.out a0 hT).mono ?_); rintro e w1 ⟨r, rfl, hr, hb⟩
    have hk := hK.out _ _ hr hb
    simp only [x0] at hk
    exact hk
   ·refine step_call hs Wn rfl fun L u W hJ hG hL hdep K hK => ?_
    have a0 := (vE rR [r] hG hdep 0)
    have a1 := (vE rR [t] hG hdep 3)
    go_simp
    go_at_call 78
    (with_reducible refine (kMul a0 a1 _).mono ?_); rintro e w1 ⟨r, rfl, hr, hb⟩
    exact hK.out _ _ hr hb
   ·refine step_storeO q4 16 hs Wn rfl rfl (by kernel_rfl) (fun k hk => ?_) (fun _ => E4.out) (there_lt ht4 (by omega)) ht4 (gO 4) tyFe rfl
    rcases k with _ | _ | _ | _ | _ | _ | k
    all_goals first | (exact absurd rfl hk) | (intro e; cases e; done)
  intro L3 u3 W3 hall hJ hG
  have hb := hJ.beN hbel
  have hbel := hbel.trans hb
  have hm1 := kC hm1 hJ HD4_q1.out
  have ht1 := tC ht1 hJ HD4_q1.out
  have ht2 := tC ht2 hJ HD4_q2.out
  obtain ⟨_, hs3_5t, hs3_5⟩ := oT 16 rR [r * t] hG 5
  have hbel0 := hbel
  clear hJ hG hall hb
  go_upto_region 4 with fail
  refine rgM [(18, 0), (0, 1), (0, 2), (0, 3), (0, 4)] [.val rR [r * t], .val rR [r * t], .val rR [(r * t) * (r * t)], .val rR [x], .oth (fun v => v = .bool (!decide ((r * t) * (r * t) = x)))] ?_ ?_
  ·intro hs
   refine ⟨?_, ?_, ?_, ?_, ?_, trivial⟩
   ·exact step_load q4 0 hs Wn rfl rfl tyFe (fun _ => E4.out) hs3_5.lt hs3_5 Na
   ·exact step_load q4 0 hs Wn rfl rfl tyFe (fun _ => E4.out) hs3_5.lt hs3_5 Na
   ·refine step_call hs Wn rfl fun L u W hJ hG hL hdep K hK => ?_
    have a0 := (vE rR [r * t] hG hdep 0)
    have a1 := (vE rR [r * t] hG hdep 1)
    go_simp
    go_at_call 78
    (with_reducible refine (kMul a0 a1 _).mono ?_); rintro e w1 ⟨r, rfl, hr, hb⟩
    exact hK.out _ _ hr hb
   ·exact step_load q1 0 hs Wn rfl rfl tyFe (fun _ => E1.out) hm1.lt hm1 Na
   ·exact step_pureO hs Wn rfl fun L u W hG hdep => ⟨_, run_neqR rfl (vE rR [(r * t) * (r * t)] hG hdep 2) (vE rR [x] hG hdep 3), rfl⟩
  intro L4 u4 W4 hall hJ hG
  have hb := hJ.all rfl
  have hbel := Below.call hbel hb
  have hm1 := hm1.later hb
  have hs3_5 := hs3_5.later hb
  have ht1 := there_later ht1 hb
  have ht2 := there_later ht2 hb
  have hs3_5t := there_later hs3_5t hb
  have HC22 := oC (.bool (!decide ((r * t) * (r * t) = x))) hG 4
  have hbel0 := hbel
  clear hJ hG hall hb
  by_cases hq2 : r * t * (r * t) = x
  ·have HQ2 := Lib.hid hq2
   clear hq2
   have hx : u4 4 = .bool false := by rw [HC22.out, decide_eq_true HQ2.out]; rfl
   go_wp2_with fail
   rw [hx]
   clear hx
   have e4 := E4.out
   have hc0 := hs3_5.cell0
   by_cases hp : (r * t).val % 2 = 1
   ·have ho : (bits BinOp.and IntKind.u64 ((d16 (r * t).val 0 : Nat) : Int) 1 == 1) = true := by rw [odd16, hp]; rfl
    have HP := Lib.hid hp
    clear hp
    generalize hdd : d16 (r * t).val 0 = dd at *
    clear hdd
    go_upto_region 7 with fail
    clear e4 hc0 ho
    refine rgT [(28, 0), (0, 1)] [.val rR [r * t], .val rR [-(r * t)], .sto q4 rR [-(r * t)]] ?_ ?_
    ·intro hs
     refine ⟨?_, ?_, ?_, trivial⟩
     ·exact step_load q4 0 hs Wn rfl rfl tyFe (fun _ => E4.out) hs3_5.lt hs3_5 Na
     ·refine step_call hs Wn rfl fun L u W hJ hG hL hdep K hK => ?_
      have a0 := (vE rR [r * t] hG hdep 0)
      go_simp
      go_at_call 104
      (with_reducible refine (kNeg a0 _).mono ?_); rintro e w1 ⟨r, rfl, hr, hb⟩
      exact hK.out _ _ hr hb
     ·refine step_storeO q4 16 hs Wn rfl rfl (by kernel_rfl) (fun k hk => ?_) (fun _ => E4.out) (there_lt hs3_5t (by omega)) hs3_5t (gO 1) tyFe rfl
      rcases k with _ | _ | _ | k
      all_goals first | (exact absurd rfl hk) | (intro e; cases e; done)
    intro L7 u7 W7 hall hJ hG
    have hb := hJ.beN hbel
    have hbel := hbel.trans hb
    have hm1 := kC hm1 hJ HD4_q1.out
    have ht1 := tC ht1 hJ HD4_q1.out
    have ht2 := tC ht2 hJ HD4_q2.out
    obtain ⟨_, hs7_2t, hs7_2⟩ := oT 16 rR [-(r * t)] hG 2
    have hbel0 := hbel
    clear hJ hG hall hb
    go_upto_region 8 with fail
    refine rgT [(3, 2), (26, 0)] [.val rR [-(r * t)], .sto q2 rR [-(r * t)], .oth (fun v => v = .int .i64 0)] ?_ ?_
    ·intro hs
     refine ⟨?_, ?_, ?_, trivial⟩
     ·exact step_load q4 0 hs Wn rfl rfl tyFe (fun _ => E4.out) hs7_2.lt hs7_2 (apN HD4_q2.out)
     ·refine step_storeO q2 16 hs Wn rfl rfl (by kernel_rfl) (fun k hk => ?_) (fun _ => E2.out) (there_lt ht2 (by omega)) ht2 (gO 0) tyFe rfl
      rcases k with _ | _ | _ | k
      all_goals first | (exact absurd rfl hk) | (intro e; cases e; done)
     ·exact mvK hs fun _ => rfl
    intro L8 u8 W8 hall hJ hG
    have hb := hJ.beN hbel
    have hbel := hbel.trans hb
    have hm1 := kC hm1 hJ HN1_2.out
    have hs7_2 := kB hs7_2 hJ HD4_q2.out
    have ht1 := tC ht1 hJ HN1_2.out
    have hs7_2t := tB hs7_2t hJ HD4_q2.out
    obtain ⟨_, hs8_1t, hs8_1⟩ := oT 16 rR [-(r * t)] hG 1
    have HC3 := oC (.int .i64 0) hG 2
    have hbel0 := hbel
    clear hJ hG hall hb
    go_wp2
    exact ret_cell_slot (R := rR) Tryz.results103 (by exact E2.out) (by exact HC3.out) hs8_1 tyFe rfl (fun s hs => ⟨s, by rw [root_c0 HC.out HQ2.out], by rw [root_odd HC.out HQ2.out HP.out]; exact hs, hbel⟩)
   ·have ho : (bits BinOp.and IntKind.u64 ((d16 (r * t).val 0 : Nat) : Int) 1 == 1) = false := by rw [odd16, show (r * t).val % 2 = 0 by omega]; rfl
    have HP := Lib.hid hp
    clear hp
    generalize hdd : d16 (r * t).val 0 = dd at *
    clear hdd
    go_upto_region 8 with fail
    clear e4 hc0 ho
    refine rgT [(3, 2), (26, 0)] [.val rR [r * t], .sto q2 rR [r * t], .oth (fun v => v = .int .i64 0)] ?_ ?_
    ·intro hs
     refine ⟨?_, ?_, ?_, trivial⟩
     ·exact step_load q4 0 hs Wn rfl rfl tyFe (fun _ => E4.out) hs3_5.lt hs3_5 (apN HD4_q2.out)
     ·refine step_storeO q2 16 hs Wn rfl rfl (by kernel_rfl) (fun k hk => ?_) (fun _ => E2.out) (there_lt ht2 (by omega)) ht2 (gO 0) tyFe rfl
      rcases k with _ | _ | _ | k
      all_goals first | (exact absurd rfl hk) | (intro e; cases e; done)
     ·exact mvK hs fun _ => rfl
    intro L8 u8 W8 hall hJ hG
    have hb := hJ.beN hbel
    have hbel := hbel.trans hb
    have hm1 := kC hm1 hJ HN1_2.out
    have hs3_5 := kB hs3_5 hJ HD4_q2.out
    have ht1 := tC ht1 hJ HN1_2.out
    have hs3_5t := tB hs3_5t hJ HD4_q2.out
    obtain ⟨_, hs8_1t, hs8_1⟩ := oT 16 rR [r * t] hG 1
    have HC3 := oC (.int .i64 0) hG 2
    have hbel0 := hbel
    clear hJ hG hall hb
    go_wp2
    exact ret_cell_slot (R := rR) Tryz.results103 (by exact E2.out) (by exact HC3.out) hs8_1 tyFe rfl (fun s hs => ⟨s, by rw [root_c0 HC.out HQ2.out], by rw [root_even HC.out HQ2.out HP.out]; exact hs, hbel⟩)
  ·have HQ2 := Lib.hid hq2
   clear hq2
   have hx : u4 4 = .bool true := by rw [HC22.out, decide_eq_false HQ2.out]; rfl
   go_wp2_with fail
   rw [hx]
   clear hx
   go_upto_region 5 with fail
   refine rgT [(3, 2), (19, 0)] [.val rR [0], .sto q2 rR [0], .oth (fun v => v = .int .i64 7)] ?_ ?_
   ·intro hs
    refine ⟨?_, ?_, ?_, trivial⟩
    ·exact step_pure hs Wn rfl fun L u W hG hdep => run_build0 rfl (buildFe0 W)
    ·refine step_storeO q2 16 hs Wn rfl rfl (by kernel_rfl) (fun k hk => ?_) (fun _ => E2.out) (there_lt ht2 (by omega)) ht2 (gO 0) tyFe rfl
     rcases k with _ | _ | _ | k
     all_goals first | (exact absurd rfl hk) | (intro e; cases e; done)
    ·exact mvK hs fun _ => rfl
   intro L5 u5 W5 hall hJ hG
   have hb := hJ.beN hbel
   have hbel := hbel.trans hb
   have hm1 := kC hm1 hJ HN1_2.out
   have hs3_5 := kB hs3_5 hJ HD4_q2.out
   have ht1 := tC ht1 hJ HN1_2.out
   have hs3_5t := tB hs3_5t hJ HD4_q2.out
   obtain ⟨_, hs5_1t, hs5_1⟩ := oT 16 rR [0] hG 1
   have HC3 := oC (.int .i64 7) hG 2
   have hbel0 := hbel
   clear hJ hG hall hb
   go_wp2
   exact ret_cell_slot (R := rR) Tryz.results103 (by exact E2.out) (by exact HC3.out) hs5_1 tyFe rfl (fun s hs => ⟨s, by rw [(root_no HC.out HQ2.out).2], by rw [(root_no HC.out HQ2.out).1]; exact hs, hbel⟩)
theorem rrootM {v : Value} {x : F} (h : IsFs rR v [x]) (w : World) :
  Calls Tryz.prog 103 #[v] w fun e w' => ∃ s, e = .returned (.tuple #[s, .int .i64 (rootC x)]) ∧ IsFs rR s [rootV x] ∧ Below w.heap.size w w' :=
 rroot_core x _ sqm1 rfl two_turn rfl h w
def rPr : Rp EP where
 n := 20
 rep := fun P cs => ∃ x y z t, Lims rE [x, y, z, t] cs ∧ Pext P x y z t
 pos := by omega
 len := fun _ _ ⟨_, _, _, _, h, _⟩ => h.len
 one := fun _ _ ⟨_, _, _, _, h, _⟩ => h.one
def rP : Rp EP where
 n := 20
 rep := fun P cs => ∃ x y z t, Lims rE [x, y, z, t] cs ∧ (Pext P x y z t ∨ (z = 0 ∧ P = Cp.zero))
 pos := by omega
 len := fun _ _ ⟨_, _, _, _, h, _⟩ => h.len
 one := fun _ _ ⟨_, _, _, _, h, _⟩ => h.one
theorem isPr {v : Value} {P : EP} {x y z t : F} (h : IsFs rE v [x, y, z, t]) (hp : Pext P x y z t) : IsFs rPr v [P] := by
 obtain ⟨cs, rfl, hc⟩ := h
 exact ⟨cs, rfl, Lims.single (R := rPr) ⟨x, y, z, t, hc, hp⟩⟩
theorem of_isPr {v : Value} {P : EP} (h : IsFs rPr v [P]) : ∃ x y z t, IsFs rE v [x, y, z, t] ∧ Pext P x y z t := by
 obtain ⟨cs, rfl, hc⟩ := h
 obtain ⟨x, y, z, t, h, hp⟩ := Lims.of_single hc
 exact ⟨x, y, z, t, ⟨cs, rfl, h⟩, hp⟩
theorem of_hasPr {w : World} {g : Nat} {P : EP} (h : HasFs rPr w g 0 [P]) : ∃ x y z t, HasFs rE w g 0 [x, y, z, t] ∧ Pext P x y z t := by
 obtain ⟨cs, hc, hr⟩ := h
 obtain ⟨x, y, z, t, h, hp⟩ := Lims.of_single hc
 exact ⟨x, y, z, t, ⟨cs, h, hr⟩, hp⟩
theorem of_isP {v : Value} {P : EP} (h : IsFs rP v [P]) : ∃ x y z t, IsFs rE v [x, y, z, t] ∧ (Pext P x y z t ∨ (z = 0 ∧ P = Cp.zero)) := by
 obtain ⟨cs, rfl, hc⟩ := h
 obtain ⟨x, y, z, t, h, hp⟩ := Lims.of_single hc
 exact ⟨x, y, z, t, ⟨cs, rfl, h⟩, hp⟩
theorem toP {v : Value} {P : EP} (h : IsFs rPr v [P]) : IsFs rP v [P] := by
 obtain ⟨cs, rfl, hc⟩ := h
 obtain ⟨x, y, z, t, h, hp⟩ := Lims.of_single hc
 exact ⟨cs, rfl, Lims.single (R := rP) ⟨x, y, z, t, h, .inl hp⟩⟩
theorem isZ {v : Value} {x y t : F} (h : IsFs rE v [x, y, 0, t]) : IsFs rP v [Cp.zero] := by
 obtain ⟨cs, rfl, hc⟩ := h
 exact ⟨cs, rfl, Lims.single (R := rP) ⟨x, y, 0, t, hc, .inr ⟨rfl, rfl⟩⟩⟩
theorem tyP4 : TyOk rE 54 4 := ⟨⟨_, Tryz.underlying54, rfl⟩, by kernel_rfl⟩
theorem tyP : TyOk rP 54 1 := ⟨⟨_, Tryz.underlying54, rfl⟩, by kernel_rfl⟩
theorem tyPr : TyOk rPr 54 1 := ⟨⟨_, Tryz.underlying54, rfl⟩, by kernel_rfl⟩
theorem allocP (w : World) : (Instr.alloc 54 true (.tuple #[])).run Tryz.prog w = .ok (.pointer (some ⟨w.heap.size, 0, none⟩)) (w.alloc (.cells #[.int .u64 0,.int .u64 0,.int .u64 0,.int .u64 0,.int .u64 0,.int .u64 0,.int .u64 0,.int .u64 0,.int .u64 0,.int .u64 0,.int .u64 0,.int .u64 0,.int .u64 0,.int .u64 0,.int .u64 0,.int .u64 0,.int .u64 0,.int .u64 0,.int .u64 0,.int .u64 0] 54)) := by kernel_rfl
theorem field_P0 (b : Nat) (w : World) : (Instr.fieldAt 54 (.pointer (some ⟨b, 0, none⟩)) 0).run Tryz.prog w = .ok (.pointer (some ⟨b, 0, none⟩)) w := by kernel_rfl
theorem field_P1 (b : Nat) (w : World) : (Instr.fieldAt 54 (.pointer (some ⟨b, 0, none⟩)) 1).run Tryz.prog w = .ok (.pointer (some ⟨b, 5, none⟩)) w := by kernel_rfl
theorem field_P2 (b : Nat) (w : World) : (Instr.fieldAt 54 (.pointer (some ⟨b, 0, none⟩)) 2).run Tryz.prog w = .ok (.pointer (some ⟨b, 10, none⟩)) w := by kernel_rfl
theorem field_P3 (b : Nat) (w : World) : (Instr.fieldAt 54 (.pointer (some ⟨b, 0, none⟩)) 3).run Tryz.prog w = .ok (.pointer (some ⟨b, 15, none⟩)) w := by kernel_rfl
theorem build_P {u0 u1 u2 u3 : Value} {x y z t : F} (h0 : IsFs rE u0 [x]) (h1 : IsFs rE u1 [y]) (h2 : IsFs rE u2 [z]) (h3 : IsFs rE u3 [t]) (w : World) :
  ∃ r, (Instr.build 54 #[(0, u0), (1, u1), (2, u2), (3, u3)]).run Tryz.prog w = .ok r w ∧ IsFs rE r [x, y, z, t] := by
 obtain ⟨f, rfl, hf⟩ := of_isE h0; obtain ⟨g, rfl, hg⟩ := of_isE h1; obtain ⟨p, rfl, hp⟩ := of_isE h2; obtain ⟨q, rfl, hq⟩ := of_isE h3
 exact ⟨.agg #[.int .u64 (f 0 : Nat),.int .u64 (f 1 : Nat),.int .u64 (f 2 : Nat),.int .u64 (f 3 : Nat),.int .u64 (f 4 : Nat), .int .u64 (g 0 : Nat),.int .u64 (g 1 : Nat),.int .u64 (g 2 : Nat),.int .u64 (g 3 : Nat),.int .u64 (g 4 : Nat), .int .u64 (p 0 : Nat),.int .u64 (p 1 : Nat),.int .u64 (p 2 : Nat),.int .u64 (p 3 : Nat),.int .u64 (p 4 : Nat), .int .u64 (q 0 : Nat),.int .u64 (q 1 : Nat),.int .u64 (q 2 : Nat),.int .u64 (q 3 : Nat),.int .u64 (q 4 : Nat)], by kernel_rfl, _, rfl, _, _, ⟨f, hf, rfl⟩, rfl, _, _, ⟨g, hg, rfl⟩, rfl, _, _, ⟨p, hp, rfl⟩, rfl, _, _, ⟨q, hq, rfl⟩, rfl, rfl⟩
theorem zero_lims : Lims rE [0, 0, 0, 0] [.int .u64 0,.int .u64 0,.int .u64 0,.int .u64 0,.int .u64 0,.int .u64 0,.int .u64 0,.int .u64 0,.int .u64 0,.int .u64 0,.int .u64 0,.int .u64 0,.int .u64 0,.int .u64 0,.int .u64 0,.int .u64 0,.int .u64 0,.int .u64 0,.int .u64 0,.int .u64 0] :=
 ⟨_, _, ⟨fun _ => 0, FF.zero, rfl⟩, rfl, _, _, ⟨fun _ => 0, FF.zero, rfl⟩, rfl, _, _, ⟨fun _ => 0, FF.zero, rfl⟩, rfl, _, _, ⟨fun _ => 0, FF.zero, rfl⟩, rfl, rfl⟩
theorem build_P0 (w : World) : ∃ r, (Instr.build 54 #[]).run Tryz.prog w = .ok r w ∧ IsFs rP r [Cp.zero] :=
 ⟨.agg #[.int .u64 0,.int .u64 0,.int .u64 0,.int .u64 0,.int .u64 0,.int .u64 0,.int .u64 0,.int .u64 0,.int .u64 0,.int .u64 0,.int .u64 0,.int .u64 0,.int .u64 0,.int .u64 0,.int .u64 0,.int .u64 0,.int .u64 0,.int .u64 0,.int .u64 0,.int .u64 0], by kernel_rfl, isZ (x := 0) (y := 0) (t := 0) ⟨_, rfl, zero_lims⟩⟩
def rB32 : Rp (List UInt8) where
 n := 32
 rep := fun l cs => l.length = 32 ∧ cs = l.map bV
 pos := by omega
 len := fun l _ ⟨h, e⟩ => by rw [e, List.length_map, h]
 one := fun l _ ⟨_, e⟩ v hv => by
  rw [e, List.mem_map] at hv
  obtain ⟨c, _, rfl⟩ := hv
  rfl
theorem HasFs.rdb {w : World} {g : Nat} {l : List UInt8} (h : HasFs rB32 w g 0 [l]) : RdB w (some ⟨g, 0, none⟩) 32 32 l := by
 obtain ⟨cs, hc, hr⟩ := h
 obtain ⟨hl, rfl⟩ := Lims.of_single hc
 refine ⟨hl, Nat.le_refl _, by unfold maxLen; omega, fun i hi => ⟨g, 0, rfl, ?_⟩, fun h => by cases h⟩
 have := hr i (bV l[i]) (by simp [List.getElem?_map, List.getElem?_eq_getElem hi])
 exact this
theorem tya32 : TyOk rB32 67 1 := ⟨⟨_, Tryz.underlying67, rfl⟩, by kernel_rfl⟩
theorem alloca32 (w : World) : (Instr.alloc 67 true (.tuple #[])).run Tryz.prog w = .ok (.pointer (some ⟨w.heap.size, 0, none⟩)) (w.alloc (.cells #[.int .u8 0,.int .u8 0,.int .u8 0,.int .u8 0,.int .u8 0,.int .u8 0,.int .u8 0,.int .u8 0,.int .u8 0,.int .u8 0,.int .u8 0,.int .u8 0,.int .u8 0,.int .u8 0,.int .u8 0,.int .u8 0,.int .u8 0,.int .u8 0,.int .u8 0,.int .u8 0,.int .u8 0,.int .u8 0,.int .u8 0,.int .u8 0,.int .u8 0,.int .u8 0,.int .u8 0,.int .u8 0,.int .u8 0,.int .u8 0,.int .u8 0,.int .u8 0] 67)) := by kernel_rfl
def rQ : Rp EP where
 n := 48
 rep := fun P cs => ∃ x y z, Lims rR [x, y, z] cs ∧ Prep P x y z
 pos := by omega
 len := fun _ _ ⟨_, _, _, h, _⟩ => h.len
 one := fun _ _ ⟨_, _, _, h, _⟩ => h.one
theorem isQ {v : Value} {P : EP} {x y z : F} (h : IsFs rR v [x, y, z]) (hp : Prep P x y z) : IsFs rQ v [P] := by
 obtain ⟨cs, rfl, hc⟩ := h
 exact ⟨cs, rfl, Lims.single (R := rQ) ⟨x, y, z, hc, hp⟩⟩
theorem of_isQ {v : Value} {P : EP} (h : IsFs rQ v [P]) : ∃ x y z, IsFs rR v [x, y, z] ∧ Prep P x y z := by
 obtain ⟨cs, rfl, hc⟩ := h
 obtain ⟨x, y, z, h, hp⟩ := Lims.of_single hc
 exact ⟨x, y, z, ⟨cs, rfl, h⟩, hp⟩
theorem tyPt3 : TyOk rR 64 3 := ⟨⟨_, Tryz.underlying64, rfl⟩, by kernel_rfl⟩
theorem tyPt : TyOk rQ 64 1 := ⟨⟨_, Tryz.underlying64, rfl⟩, by kernel_rfl⟩
theorem allocPt (w : World) : (Instr.alloc 64 true (.tuple #[])).run Tryz.prog w = .ok (.pointer (some ⟨w.heap.size, 0, none⟩)) (w.alloc (.cells #[.int .u64 0,.int .u64 0,.int .u64 0,.int .u64 0,.int .u64 0,.int .u64 0,.int .u64 0,.int .u64 0,.int .u64 0,.int .u64 0,.int .u64 0,.int .u64 0,.int .u64 0,.int .u64 0,.int .u64 0,.int .u64 0,.int .u64 0,.int .u64 0,.int .u64 0,.int .u64 0,.int .u64 0,.int .u64 0,.int .u64 0,.int .u64 0,.int .u64 0,.int .u64 0,.int .u64 0,.int .u64 0,.int .u64 0,.int .u64 0,.int .u64 0,.int .u64 0,.int .u64 0,.int .u64 0,.int .u64 0,.int .u64 0,.int .u64 0,.int .u64 0,.int .u64 0,.int .u64 0,.int .u64 0,.int .u64 0,.int .u64 0,.int .u64 0,.int .u64 0,.int .u64 0,.int .u64 0,.int .u64 0] 64)) := by kernel_rfl
theorem field_Pt0 (b : Nat) (w : World) : (Instr.fieldAt 64 (.pointer (some ⟨b, 0, none⟩)) 0).run Tryz.prog w = .ok (.pointer (some ⟨b, 0, none⟩)) w := by kernel_rfl
theorem field_Pt1 (b : Nat) (w : World) : (Instr.fieldAt 64 (.pointer (some ⟨b, 0, none⟩)) 1).run Tryz.prog w = .ok (.pointer (some ⟨b, 16, none⟩)) w := by kernel_rfl
theorem field_Pt2 (b : Nat) (w : World) : (Instr.fieldAt 64 (.pointer (some ⟨b, 0, none⟩)) 2).run Tryz.prog w = .ok (.pointer (some ⟨b, 32, none⟩)) w := by kernel_rfl
theorem buildPt_run (a b c : Nat → Nat) (w : World) : (Instr.build 64 #[(0, .agg (row 16 (fV a)).toArray), (1, .agg (row 16 (fV b)).toArray), (2, .agg (row 16 (fV c)).toArray)]).run Tryz.prog w = .ok (.agg (row 16 (fV a) ++ (row 16 (fV b) ++ row 16 (fV c))).toArray) w := by kernel_rfl
theorem buildPt_run12 (b c : Nat → Nat) (w : World) : (Instr.build 64 #[(1, .agg (row 16 (fV b)).toArray), (2, .agg (row 16 (fV c)).toArray)]).run Tryz.prog w = .ok (.agg (row 16 (fV (fun _ => 0)) ++ (row 16 (fV b) ++ row 16 (fV c))).toArray) w := by kernel_rfl
theorem lims3 (x y z : F) : Lims rR [x, y, z] (row 16 (fV (d16 x.val)) ++ (row 16 (fV (d16 y.val)) ++ row 16 (fV (d16 z.val)))) := ⟨_, _, rfl, rfl, _, _, rfl, rfl, Lims.single (R := rR) rfl⟩
theorem build_Pt {u0 u1 u2 : Value} {x y z : F} (h0 : IsFs rR u0 [x]) (h1 : IsFs rR u1 [y]) (h2 : IsFs rR u2 [z]) (w : World) :
  ∃ r, (Instr.build 64 #[(0, u0), (1, u1), (2, u2)]).run Tryz.prog w = .ok r w ∧ IsFs rR r [x, y, z] := by
 rw [of_isR h0, of_isR h1, of_isR h2]
 exact ⟨_, buildPt_run _ _ _ w, _, rfl, lims3 x y z⟩
theorem d16_0 : d16 (0 : F).val = fun _ => 0 := by funext i; unfold d16; simp
theorem build_Pt12 {u1 u2 : Value} {y z : F} (h1 : IsFs rR u1 [y]) (h2 : IsFs rR u2 [z]) (w : World) :
  ∃ r, (Instr.build 64 #[(1, u1), (2, u2)]).run Tryz.prog w = .ok r w ∧ IsFs rR r [0, y, z] := by
 rw [of_isR h1, of_isR h2]
 refine ⟨_, buildPt_run12 _ _ w, _, rfl, ?_⟩
 have := lims3 0 y z
 rw [d16_0] at this
 exact this
theorem run_build12 {ev : Operand → Value} {o : Oper} {t : TypeId} {x y : Operand} {r : Value} {w : World} (ho : o.op = .build t #[(1, x), (2, y)]) (h : (Instr.build t #[(1, ev x), (2, ev y)]).run Tryz.prog w = .ok r w) :
  (execOp ev o).run Tryz.prog w = .ok (.value r) w := by
 unfold execOp
 simp only [ho]
 simp [h]
def rWm (m : Nat) (hm : 0 < m) : Rp (List UInt64) where
 n := m
 rep := fun l cs => l.length = m ∧ cs = l.map uI
 pos := hm
 len := fun l _ ⟨h, e⟩ => by rw [e, List.length_map, h]
 one := fun l _ ⟨_, e⟩ v hv => by
  rw [e, List.mem_map] at hv
  obtain ⟨c, _, rfl⟩ := hv
  rfl
def rW8 : Rp (List UInt64) := rWm 8 (by omega)
def rW80 : Rp (List UInt64) := rWm 80 (by omega)
theorem at0_get {l : List UInt64} {k : Nat} (h : k < l.length) : l[k]? = some (at0 l k) := by
 unfold at0; rw [List.getD_eq_getElem?_getD, List.getElem?_eq_getElem h]; rfl
theorem HasFs.cellW {m : Nat} {hm : 0 < m} {w : World} {g k : Nat} {l : List UInt64} {x : UInt64} (h : HasFs (rWm m hm) w g 0 [l]) (hk : k < m) (hx : at0 l k = x) : w.cell? ⟨g, k, none⟩ = some (.int .u64 (x.toNat : Int)) := by
 obtain ⟨cs, hc, hr⟩ := h
 obtain ⟨hl, rfl⟩ := Lims.of_single hc
 have := hr k (uI x) (by rw [List.getElem?_map, at0_get (by omega), hx]; rfl)
 rw [Nat.zero_add] at this
 exact this
theorem HasFs.lenW {m : Nat} {hm : 0 < m} {w : World} {g : Nat} {l : List UInt64} (h : HasFs (rWm m hm) w g 0 [l]) : l.length = m := by
 obtain ⟨cs, hc, hr⟩ := h
 exact (Lims.of_single hc).1
theorem there_frozen {w : World} {g n k : Nat} (h : w.there g 0 n) (hk : k < n) : w.frozen? ⟨g, k, none⟩ = false := by
 have := (h k hk).2
 rw [Nat.zero_add] at this
 exact this
theorem cell_setCell {w : World} {p : Addr} (v : Value) (h : (w.cell? p).isSome = true) : (w.setCell p v).cell? p = some v := by
 obtain ⟨u, hu⟩ := Option.isSome_iff_exists.1 h
 exact World.cell?_setCell_same _ _ _ hu
theorem there_set {w : World} {g b k n : Nat} {v : Value} (h : w.there g 0 n) : (w.setCell ⟨b, k, none⟩ v).there g 0 n := fun j hj => by
 obtain ⟨h1, h2⟩ := h j hj
 by_cases e : (⟨g, 0 + j, none⟩ : Addr) = ⟨b, k, none⟩
 ·rw [← e]
  exact ⟨by rw [cell_setCell v h1]; rfl, by simpa using h2⟩
 ·rw [World.cell?_setCell_other _ _ _ _ (fun h => e h.symm)]
  exact ⟨h1, by simpa using h2⟩
theorem HasFs.setW {m : Nat} {hm : 0 < m} {w : World} {g k : Nat} {l : List UInt64} (h : HasFs (rWm m hm) w g 0 [l]) (ht : w.there g 0 m) (hk : k < m) (x : UInt64) : HasFs (rWm m hm) (w.setCell ⟨g, k, none⟩ (uI x)) g 0 [l.set k x] := by
 obtain ⟨cs, hc, hr⟩ := h
 obtain ⟨hl, rfl⟩ := Lims.of_single hc
 refine ⟨(l.set k x).map uI, Lims.single (R := rWm m hm) ⟨by rw [List.length_set, hl], rfl⟩, fun j v hv => ?_⟩
 rw [List.map_set] at hv
 rw [List.getElem?_set] at hv
 by_cases e : k = j
 ·subst e
  rw [if_pos rfl, if_pos (by rw [List.length_map]; omega)] at hv
  cases hv
  have := cell_setCell (uI x) (ht k hk).1
  rw [Nat.zero_add] at this
  rw [Nat.zero_add]
  exact this
 ·rw [if_neg e] at hv
  rw [World.cell?_setCell_other _ _ _ _ (fun h => e (by cases h; omega))]
  exact hr j v hv
theorem tya8 : TyOk rW8 84 1 := ⟨⟨_, Tryz.underlying84, rfl⟩, by kernel_rfl⟩
theorem tya80 : TyOk rW80 99 1 := ⟨⟨_, Tryz.underlying99, rfl⟩, by kernel_rfl⟩
theorem alloca8 (w : World) : (Instr.alloc 84 true (.tuple #[])).run Tryz.prog w = .ok (.pointer (some ⟨w.heap.size, 0, none⟩)) (w.alloc (.cells #[.int .u64 0,.int .u64 0,.int .u64 0,.int .u64 0,.int .u64 0,.int .u64 0,.int .u64 0,.int .u64 0] 84)) := by kernel_rfl
theorem alloca80 (w : World) : (Instr.alloc 99 true (.tuple #[])).run Tryz.prog w = .ok (.pointer (some ⟨w.heap.size, 0, none⟩)) (w.alloc (.cells #[.int .u64 0,.int .u64 0,.int .u64 0,.int .u64 0,.int .u64 0,.int .u64 0,.int .u64 0,.int .u64 0,.int .u64 0,.int .u64 0,.int .u64 0,.int .u64 0,.int .u64 0,.int .u64 0,.int .u64 0,.int .u64 0,.int .u64 0,.int .u64 0,.int .u64 0,.int .u64 0,.int .u64 0,.int .u64 0,.int .u64 0,.int .u64 0,.int .u64 0,.int .u64 0,.int .u64 0,.int .u64 0,.int .u64 0,.int .u64 0,.int .u64 0,.int .u64 0,.int .u64 0,.int .u64 0,.int .u64 0,.int .u64 0,.int .u64 0,.int .u64 0,.int .u64 0,.int .u64 0,.int .u64 0,.int .u64 0,.int .u64 0,.int .u64 0,.int .u64 0,.int .u64 0,.int .u64 0,.int .u64 0,.int .u64 0,.int .u64 0,.int .u64 0,.int .u64 0,.int .u64 0,.int .u64 0,.int .u64 0,.int .u64 0,.int .u64 0,.int .u64 0,.int .u64 0,.int .u64 0,.int .u64 0,.int .u64 0,.int .u64 0,.int .u64 0,.int .u64 0,.int .u64 0,.int .u64 0,.int .u64 0,.int .u64 0,.int .u64 0,.int .u64 0,.int .u64 0,.int .u64 0,.int .u64 0,.int .u64 0,.int .u64 0,.int .u64 0,.int .u64 0,.int .u64 0,.int .u64 0] 99)) := by kernel_rfl
theorem zero80 : Lims rW80 [List.replicate 80 0] [.int .u64 0,.int .u64 0,.int .u64 0,.int .u64 0,.int .u64 0,.int .u64 0,.int .u64 0,.int .u64 0,.int .u64 0,.int .u64 0,.int .u64 0,.int .u64 0,.int .u64 0,.int .u64 0,.int .u64 0,.int .u64 0,.int .u64 0,.int .u64 0,.int .u64 0,.int .u64 0,.int .u64 0,.int .u64 0,.int .u64 0,.int .u64 0,.int .u64 0,.int .u64 0,.int .u64 0,.int .u64 0,.int .u64 0,.int .u64 0,.int .u64 0,.int .u64 0,.int .u64 0,.int .u64 0,.int .u64 0,.int .u64 0,.int .u64 0,.int .u64 0,.int .u64 0,.int .u64 0,.int .u64 0,.int .u64 0,.int .u64 0,.int .u64 0,.int .u64 0,.int .u64 0,.int .u64 0,.int .u64 0,.int .u64 0,.int .u64 0,.int .u64 0,.int .u64 0,.int .u64 0,.int .u64 0,.int .u64 0,.int .u64 0,.int .u64 0,.int .u64 0,.int .u64 0,.int .u64 0,.int .u64 0,.int .u64 0,.int .u64 0,.int .u64 0,.int .u64 0,.int .u64 0,.int .u64 0,.int .u64 0,.int .u64 0,.int .u64 0,.int .u64 0,.int .u64 0,.int .u64 0,.int .u64 0,.int .u64 0,.int .u64 0,.int .u64 0,.int .u64 0,.int .u64 0,.int .u64 0] := Lims.single (R := rW80) ⟨rfl, by kernel_rfl⟩
theorem kt_cells : [.int .u64 4794697086780616226, .int .u64 8158064640168781261, .int .u64 13096744586834688815, .int .u64 16840607885511220156, .int .u64 4131703408338449720, .int .u64 6480981068601479193, .int .u64 10538285296894168987, .int .u64 12329834152419229976, .int .u64 15566598209576043074, .int .u64 1334009975649890238, .int .u64 2608012711638119052, .int .u64 6128411473006802146, .int .u64 8268148722764581231, .int .u64 9286055187155687089, .int .u64 11230858885718282805, .int .u64 13951009754708518548, .int .u64 16472876342353939154, .int .u64 17275323862435702243, .int .u64 1135362057144423861, .int .u64 2597628984639134821, .int .u64 3308224258029322869, .int .u64 5365058923640841347, .int .u64 6679025012923562964, .int .u64 8573033837759648693, .int .u64 10970295158949994411, .int .u64 12119686244451234320, .int .u64 12683024718118986047, .int .u64 13788192230050041572, .int .u64 14330467153632333762, .int .u64 15395433587784984357, .int .u64 489312712824947311, .int .u64 1452737877330783856, .int .u64 2861767655752347644, .int .u64 3322285676063803686, .int .u64 5560940570517711597, .int .u64 5996557281743188959, .int .u64 7280758554555802590, .int .u64 8532644243296465576, .int .u64 9350256976987008742, .int .u64 10552545826968843579, .int .u64 11727347734174303076, .int .u64 12113106623233404929, .int .u64 14000437183269869457, .int .u64 14369950271660146224, .int .u64 15101387698204529176, .int .u64 15463397548674623760, .int .u64 17586052441742319658, .int .u64 1182934255886127544, .int .u64 1847814050463011016, .int .u64 2177327727835720531, .int .u64 2830643537854262169, .int .u64 3796741975233480872, .int .u64 4115178125766777443, .int .u64 5681478168544905931, .int .u64 6601373596472566643, .int .u64 7507060721942968483, .int .u64 8399075790359081724, .int .u64 8693463985226723168, .int .u64 9568029438360202098, .int .u64 10144078919501101548, .int .u64 10430055236837252648, .int .u64 11840083180663258601, .int .u64 13761210420658862357, .int .u64 14299343276471374635, .int .u64 14566680578165727644, .int .u64 15097957966210449927, .int .u64 16922976911328602910, .int .u64 17689382322260857208, .int .u64 500013540394364858, .int .u64 748580250866718886, .int .u64 1242879168328830382, .int .u64 1977374033974150939, .int .u64 2944078676154940804, .int .u64 3659926193048069267, .int .u64 4368137639120453308, .int .u64 4836135668995329356, .int .u64 5532061633213252278, .int .u64 6448918945643986474, .int .u64 6902733635092675308, .int .u64 7801388544844847127] = kTab.map uI := by kernel_rfl
theorem kt_run (w : World) : (Instr.build 99 #[(0, .int .u64 4794697086780616226), (1, .int .u64 8158064640168781261), (2, .int .u64 13096744586834688815), (3, .int .u64 16840607885511220156), (4, .int .u64 4131703408338449720), (5, .int .u64 6480981068601479193), (6, .int .u64 10538285296894168987), (7, .int .u64 12329834152419229976), (8, .int .u64 15566598209576043074), (9, .int .u64 1334009975649890238), (10, .int .u64 2608012711638119052), (11, .int .u64 6128411473006802146), (12, .int .u64 8268148722764581231), (13, .int .u64 9286055187155687089), (14, .int .u64 11230858885718282805), (15, .int .u64 13951009754708518548), (16, .int .u64 16472876342353939154), (17, .int .u64 17275323862435702243), (18, .int .u64 1135362057144423861), (19, .int .u64 2597628984639134821), (20, .int .u64 3308224258029322869), (21, .int .u64 5365058923640841347), (22, .int .u64 6679025012923562964), (23, .int .u64 8573033837759648693), (24, .int .u64 10970295158949994411), (25, .int .u64 12119686244451234320), (26, .int .u64 12683024718118986047), (27, .int .u64 13788192230050041572), (28, .int .u64 14330467153632333762), (29, .int .u64 15395433587784984357), (30, .int .u64 489312712824947311), (31, .int .u64 1452737877330783856), (32, .int .u64 2861767655752347644), (33, .int .u64 3322285676063803686), (34, .int .u64 5560940570517711597), (35, .int .u64 5996557281743188959), (36, .int .u64 7280758554555802590), (37, .int .u64 8532644243296465576), (38, .int .u64 9350256976987008742), (39, .int .u64 10552545826968843579), (40, .int .u64 11727347734174303076), (41, .int .u64 12113106623233404929), (42, .int .u64 14000437183269869457), (43, .int .u64 14369950271660146224), (44, .int .u64 15101387698204529176), (45, .int .u64 15463397548674623760), (46, .int .u64 17586052441742319658), (47, .int .u64 1182934255886127544), (48, .int .u64 1847814050463011016), (49, .int .u64 2177327727835720531), (50, .int .u64 2830643537854262169), (51, .int .u64 3796741975233480872), (52, .int .u64 4115178125766777443), (53, .int .u64 5681478168544905931), (54, .int .u64 6601373596472566643), (55, .int .u64 7507060721942968483), (56, .int .u64 8399075790359081724), (57, .int .u64 8693463985226723168), (58, .int .u64 9568029438360202098), (59, .int .u64 10144078919501101548), (60, .int .u64 10430055236837252648), (61, .int .u64 11840083180663258601), (62, .int .u64 13761210420658862357), (63, .int .u64 14299343276471374635), (64, .int .u64 14566680578165727644), (65, .int .u64 15097957966210449927), (66, .int .u64 16922976911328602910), (67, .int .u64 17689382322260857208), (68, .int .u64 500013540394364858), (69, .int .u64 748580250866718886), (70, .int .u64 1242879168328830382), (71, .int .u64 1977374033974150939), (72, .int .u64 2944078676154940804), (73, .int .u64 3659926193048069267), (74, .int .u64 4368137639120453308), (75, .int .u64 4836135668995329356), (76, .int .u64 5532061633213252278), (77, .int .u64 6448918945643986474), (78, .int .u64 6902733635092675308), (79, .int .u64 7801388544844847127)]).run Tryz.prog w = .ok (.agg #[.int .u64 4794697086780616226, .int .u64 8158064640168781261, .int .u64 13096744586834688815, .int .u64 16840607885511220156, .int .u64 4131703408338449720, .int .u64 6480981068601479193, .int .u64 10538285296894168987, .int .u64 12329834152419229976, .int .u64 15566598209576043074, .int .u64 1334009975649890238, .int .u64 2608012711638119052, .int .u64 6128411473006802146, .int .u64 8268148722764581231, .int .u64 9286055187155687089, .int .u64 11230858885718282805, .int .u64 13951009754708518548, .int .u64 16472876342353939154, .int .u64 17275323862435702243, .int .u64 1135362057144423861, .int .u64 2597628984639134821, .int .u64 3308224258029322869, .int .u64 5365058923640841347, .int .u64 6679025012923562964, .int .u64 8573033837759648693, .int .u64 10970295158949994411, .int .u64 12119686244451234320, .int .u64 12683024718118986047, .int .u64 13788192230050041572, .int .u64 14330467153632333762, .int .u64 15395433587784984357, .int .u64 489312712824947311, .int .u64 1452737877330783856, .int .u64 2861767655752347644, .int .u64 3322285676063803686, .int .u64 5560940570517711597, .int .u64 5996557281743188959, .int .u64 7280758554555802590, .int .u64 8532644243296465576, .int .u64 9350256976987008742, .int .u64 10552545826968843579, .int .u64 11727347734174303076, .int .u64 12113106623233404929, .int .u64 14000437183269869457, .int .u64 14369950271660146224, .int .u64 15101387698204529176, .int .u64 15463397548674623760, .int .u64 17586052441742319658, .int .u64 1182934255886127544, .int .u64 1847814050463011016, .int .u64 2177327727835720531, .int .u64 2830643537854262169, .int .u64 3796741975233480872, .int .u64 4115178125766777443, .int .u64 5681478168544905931, .int .u64 6601373596472566643, .int .u64 7507060721942968483, .int .u64 8399075790359081724, .int .u64 8693463985226723168, .int .u64 9568029438360202098, .int .u64 10144078919501101548, .int .u64 10430055236837252648, .int .u64 11840083180663258601, .int .u64 13761210420658862357, .int .u64 14299343276471374635, .int .u64 14566680578165727644, .int .u64 15097957966210449927, .int .u64 16922976911328602910, .int .u64 17689382322260857208, .int .u64 500013540394364858, .int .u64 748580250866718886, .int .u64 1242879168328830382, .int .u64 1977374033974150939, .int .u64 2944078676154940804, .int .u64 3659926193048069267, .int .u64 4368137639120453308, .int .u64 4836135668995329356, .int .u64 5532061633213252278, .int .u64 6448918945643986474, .int .u64 6902733635092675308, .int .u64 7801388544844847127]) w := by kernel_rfl
theorem kt_build {a : Act} {o : Oper} {w : World} (ho : o.op = .build 99 ((0, .const (.int .u64 4794697086780616226)) :: (1, .const (.int .u64 8158064640168781261)) :: (2, .const (.int .u64 13096744586834688815)) :: (3, .const (.int .u64 16840607885511220156)) :: (4, .const (.int .u64 4131703408338449720)) :: (5, .const (.int .u64 6480981068601479193)) :: (6, .const (.int .u64 10538285296894168987)) :: (7, .const (.int .u64 12329834152419229976)) :: (8, .const (.int .u64 15566598209576043074)) :: (9, .const (.int .u64 1334009975649890238)) :: (10, .const (.int .u64 2608012711638119052)) :: (11, .const (.int .u64 6128411473006802146)) :: (12, .const (.int .u64 8268148722764581231)) :: (13, .const (.int .u64 9286055187155687089)) :: (14, .const (.int .u64 11230858885718282805)) :: (15, .const (.int .u64 13951009754708518548)) :: (16, .const (.int .u64 16472876342353939154)) :: (17, .const (.int .u64 17275323862435702243)) :: (18, .const (.int .u64 1135362057144423861)) :: (19, .const (.int .u64 2597628984639134821)) :: (20, .const (.int .u64 3308224258029322869)) :: (21, .const (.int .u64 5365058923640841347)) :: (22, .const (.int .u64 6679025012923562964)) :: (23, .const (.int .u64 8573033837759648693)) :: (24, .const (.int .u64 10970295158949994411)) :: (25, .const (.int .u64 12119686244451234320)) :: (26, .const (.int .u64 12683024718118986047)) :: (27, .const (.int .u64 13788192230050041572)) :: (28, .const (.int .u64 14330467153632333762)) :: (29, .const (.int .u64 15395433587784984357)) :: (30, .const (.int .u64 489312712824947311)) :: (31, .const (.int .u64 1452737877330783856)) :: (32, .const (.int .u64 2861767655752347644)) :: (33, .const (.int .u64 3322285676063803686)) :: (34, .const (.int .u64 5560940570517711597)) :: (35, .const (.int .u64 5996557281743188959)) :: (36, .const (.int .u64 7280758554555802590)) :: (37, .const (.int .u64 8532644243296465576)) :: (38, .const (.int .u64 9350256976987008742)) :: (39, .const (.int .u64 10552545826968843579)) :: (40, .const (.int .u64 11727347734174303076)) :: (41, .const (.int .u64 12113106623233404929)) :: (42, .const (.int .u64 14000437183269869457)) :: (43, .const (.int .u64 14369950271660146224)) :: (44, .const (.int .u64 15101387698204529176)) :: (45, .const (.int .u64 15463397548674623760)) :: (46, .const (.int .u64 17586052441742319658)) :: (47, .const (.int .u64 1182934255886127544)) :: (48, .const (.int .u64 1847814050463011016)) :: (49, .const (.int .u64 2177327727835720531)) :: (50, .const (.int .u64 2830643537854262169)) :: (51, .const (.int .u64 3796741975233480872)) :: (52, .const (.int .u64 4115178125766777443)) :: (53, .const (.int .u64 5681478168544905931)) :: (54, .const (.int .u64 6601373596472566643)) :: (55, .const (.int .u64 7507060721942968483)) :: (56, .const (.int .u64 8399075790359081724)) :: (57, .const (.int .u64 8693463985226723168)) :: (58, .const (.int .u64 9568029438360202098)) :: (59, .const (.int .u64 10144078919501101548)) :: (60, .const (.int .u64 10430055236837252648)) :: (61, .const (.int .u64 11840083180663258601)) :: (62, .const (.int .u64 13761210420658862357)) :: (63, .const (.int .u64 14299343276471374635)) :: (64, .const (.int .u64 14566680578165727644)) :: (65, .const (.int .u64 15097957966210449927)) :: (66, .const (.int .u64 16922976911328602910)) :: (67, .const (.int .u64 17689382322260857208)) :: (68, .const (.int .u64 500013540394364858)) :: (69, .const (.int .u64 748580250866718886)) :: (70, .const (.int .u64 1242879168328830382)) :: (71, .const (.int .u64 1977374033974150939)) :: (72, .const (.int .u64 2944078676154940804)) :: (73, .const (.int .u64 3659926193048069267)) :: (74, .const (.int .u64 4368137639120453308)) :: (75, .const (.int .u64 4836135668995329356)) :: (76, .const (.int .u64 5532061633213252278)) :: (77, .const (.int .u64 6448918945643986474)) :: (78, .const (.int .u64 6902733635092675308)) :: (79, .const (.int .u64 7801388544844847127)) ::  [] : List (Nat × Operand)).toArray) : ∃ v, (execOp a.eval o).run Tryz.prog w = .ok (.value v) w ∧ IsFs rW80 v [kTab] := by
 refine ⟨.agg #[.int .u64 4794697086780616226, .int .u64 8158064640168781261, .int .u64 13096744586834688815, .int .u64 16840607885511220156, .int .u64 4131703408338449720, .int .u64 6480981068601479193, .int .u64 10538285296894168987, .int .u64 12329834152419229976, .int .u64 15566598209576043074, .int .u64 1334009975649890238, .int .u64 2608012711638119052, .int .u64 6128411473006802146, .int .u64 8268148722764581231, .int .u64 9286055187155687089, .int .u64 11230858885718282805, .int .u64 13951009754708518548, .int .u64 16472876342353939154, .int .u64 17275323862435702243, .int .u64 1135362057144423861, .int .u64 2597628984639134821, .int .u64 3308224258029322869, .int .u64 5365058923640841347, .int .u64 6679025012923562964, .int .u64 8573033837759648693, .int .u64 10970295158949994411, .int .u64 12119686244451234320, .int .u64 12683024718118986047, .int .u64 13788192230050041572, .int .u64 14330467153632333762, .int .u64 15395433587784984357, .int .u64 489312712824947311, .int .u64 1452737877330783856, .int .u64 2861767655752347644, .int .u64 3322285676063803686, .int .u64 5560940570517711597, .int .u64 5996557281743188959, .int .u64 7280758554555802590, .int .u64 8532644243296465576, .int .u64 9350256976987008742, .int .u64 10552545826968843579, .int .u64 11727347734174303076, .int .u64 12113106623233404929, .int .u64 14000437183269869457, .int .u64 14369950271660146224, .int .u64 15101387698204529176, .int .u64 15463397548674623760, .int .u64 17586052441742319658, .int .u64 1182934255886127544, .int .u64 1847814050463011016, .int .u64 2177327727835720531, .int .u64 2830643537854262169, .int .u64 3796741975233480872, .int .u64 4115178125766777443, .int .u64 5681478168544905931, .int .u64 6601373596472566643, .int .u64 7507060721942968483, .int .u64 8399075790359081724, .int .u64 8693463985226723168, .int .u64 9568029438360202098, .int .u64 10144078919501101548, .int .u64 10430055236837252648, .int .u64 11840083180663258601, .int .u64 13761210420658862357, .int .u64 14299343276471374635, .int .u64 14566680578165727644, .int .u64 15097957966210449927, .int .u64 16922976911328602910, .int .u64 17689382322260857208, .int .u64 500013540394364858, .int .u64 748580250866718886, .int .u64 1242879168328830382, .int .u64 1977374033974150939, .int .u64 2944078676154940804, .int .u64 3659926193048069267, .int .u64 4368137639120453308, .int .u64 4836135668995329356, .int .u64 5532061633213252278, .int .u64 6448918945643986474, .int .u64 6902733635092675308, .int .u64 7801388544844847127], ?_, _, rfl, Lims.single (R := rW80) ⟨kTab_len, kt_cells⟩⟩
 unfold execOp
 simp only [ho]
 simp [Act.eval, kt_run]
theorem ht_cells : [.int .u64 7640891576956012808, .int .u64 13503953896175478587, .int .u64 4354685564936845355, .int .u64 11912009170470909681, .int .u64 5840696475078001361, .int .u64 11170449401992604703, .int .u64 2270897969802886507, .int .u64 6620516959819538809] = hTab.map uI := by kernel_rfl
theorem ht_run (w : World) : (Instr.build 84 #[(0, .int .u64 7640891576956012808), (1, .int .u64 13503953896175478587), (2, .int .u64 4354685564936845355), (3, .int .u64 11912009170470909681), (4, .int .u64 5840696475078001361), (5, .int .u64 11170449401992604703), (6, .int .u64 2270897969802886507), (7, .int .u64 6620516959819538809)]).run Tryz.prog w = .ok (.agg #[.int .u64 7640891576956012808, .int .u64 13503953896175478587, .int .u64 4354685564936845355, .int .u64 11912009170470909681, .int .u64 5840696475078001361, .int .u64 11170449401992604703, .int .u64 2270897969802886507, .int .u64 6620516959819538809]) w := by kernel_rfl
theorem ht_build {a : Act} {o : Oper} {w : World} (ho : o.op = .build 84 ((0, .const (.int .u64 7640891576956012808)) :: (1, .const (.int .u64 13503953896175478587)) :: (2, .const (.int .u64 4354685564936845355)) :: (3, .const (.int .u64 11912009170470909681)) :: (4, .const (.int .u64 5840696475078001361)) :: (5, .const (.int .u64 11170449401992604703)) :: (6, .const (.int .u64 2270897969802886507)) :: (7, .const (.int .u64 6620516959819538809)) ::  [] : List (Nat × Operand)).toArray) : ∃ v, (execOp a.eval o).run Tryz.prog w = .ok (.value v) w ∧ IsFs rW8 v [hTab] := by
 refine ⟨.agg #[.int .u64 7640891576956012808, .int .u64 13503953896175478587, .int .u64 4354685564936845355, .int .u64 11912009170470909681, .int .u64 5840696475078001361, .int .u64 11170449401992604703, .int .u64 2270897969802886507, .int .u64 6620516959819538809], ?_, _, rfl, Lims.single (R := rW8) ⟨hTab_len, ht_cells⟩⟩
 unfold execOp
 simp only [ho]
 simp [Act.eval, ht_run]
section
variable {ev : Operand → Value} {o : Oper} {x y : Operand} {t : TypeId} {w : World} {a b : UInt64}
theorem run_un (ho : o.op = .unOp .xor 45 x) (hx : ev x = uI a) : (execOp ev o).run Tryz.prog w = .ok (.value (uI (un a))) w := by
 have e : (18446744073709551615 : UInt64) ^^^ a = ~~~a := by
  apply UInt64.toBitVec_inj.1
  show (18446744073709551615#64) ^^^ a.toBitVec = ~~~a.toBitVec
  exact BitVec.allOnes_xor
 have h := ux_int 18446744073709551615 a
 unfold ux at h
 rw [e] at h
 unfold execOp; simp only [ho, hx]; unfold uI; go_simp
 exact h
theorem run_ush6 (ho : o.op = .binOp .shr 45 x y t) (hy : ev y = .int .u64 6) (hx : ev x = uI a) : (execOp ev o).run Tryz.prog w = .ok (.value (uI (ush a 6))) w := by
 have h := ush_int a 6
 unfold execOp; simp only [ho, hx, hy]; unfold uI; go_simp
 exact h
theorem run_ush7 (ho : o.op = .binOp .shr 45 x y t) (hy : ev y = .int .u64 7) (hx : ev x = uI a) : (execOp ev o).run Tryz.prog w = .ok (.value (uI (ush a 7))) w := by
 have h := ush_int a 7
 unfold execOp; simp only [ho, hx, hy]; unfold uI; go_simp
 exact h
theorem run_build8W {a0 a1 a2 a3 a4 a5 a6 a7 : UInt64} {x0 x1 x2 x3 x4 x5 x6 x7 : Operand} {A : Act} (ho : o.op = .build 84 #[(0, x0), (1, x1), (2, x2), (3, x3), (4, x4), (5, x5), (6, x6), (7, x7)])
  (h0 : A.eval x0 = uI a0) (h1 : A.eval x1 = uI a1) (h2 : A.eval x2 = uI a2) (h3 : A.eval x3 = uI a3) (h4 : A.eval x4 = uI a4) (h5 : A.eval x5 = uI a5) (h6 : A.eval x6 = uI a6) (h7 : A.eval x7 = uI a7) :
  ∃ v, (execOp A.eval o).run Tryz.prog w = .ok (.value v) w ∧ IsFs rW8 v [[a0, a1, a2, a3, a4, a5, a6, a7]] := by
 refine ⟨.agg #[uI a0, uI a1, uI a2, uI a3, uI a4, uI a5, uI a6, uI a7], ?_, _, rfl, Lims.single (R := rW8) ⟨rfl, rfl⟩⟩
 have hr : (Instr.build 84 #[(0, uI a0), (1, uI a1), (2, uI a2), (3, uI a3), (4, uI a4), (5, uI a5), (6, uI a6), (7, uI a7)]).run Tryz.prog w = .ok (.agg #[uI a0, uI a1, uI a2, uI a3, uI a4, uI a5, uI a6, uI a7]) w := by unfold uI; kernel_rfl
 unfold execOp
 simp only [ho]
 simp [h0, h1, h2, h3, h4, h5, h6, h7, hr]
end
def wP (b : List UInt64) (t : Nat) : List UInt64 := wL b t ++ List.replicate (80 - t) 0
theorem wP_zero (b : List UInt64) : wP b 0 = List.replicate 80 0 := rfl
theorem wP_full (b : List UInt64) : wP b 80 = wL b 80 := by unfold wP; rw [Nat.sub_self]; simp
theorem wP_at {b : List UInt64} {t k : Nat} (h : k < t) : at0 (wP b t) k = at0 (wL b t) k := by
 unfold at0 wP
 rw [List.getD_eq_getElem?_getD, List.getElem?_append_left (by rw [wL_len]; exact h), ← List.getD_eq_getElem?_getD]
theorem wP_set {b : List UInt64} {t : Nat} (h : t < 80) {x : UInt64} (hx : (if t < 16 then at0 b t else wNext (wL b t) t) = x) : (wP b t).set t x = wP b (t + 1) := by
 unfold wP
 rw [List.set_append_right _ _ (by rw [wL_len]; omega), wL_len, Nat.sub_self, show 80 - t = (80 - (t + 1)) + 1 by omega, List.replicate_succ, List.set_cons_zero, wL, hx, List.append_assoc]
 rfl
def hP (h v : List UInt64) (i : Nat) : List UInt64 := (List.range 8).map fun j => if j < i then up (at0 h j) (at0 v j) else at0 h j
theorem at0_map {f : Nat → UInt64} {k n : Nat} (h : k < n) : at0 ((List.range n).map f) k = f k := by
 unfold at0; rw [List.getD_eq_getElem?_getD]; simp [h]
theorem hP_zero {h : List UInt64} (v : List UInt64) (hl : h.length = 8) : hP h v 0 = h := by
 apply List.ext_getElem
 ·simp [hP, hl]
 ·intro i h1 h2
  simp [hP, at0, List.getD_eq_getElem?_getD, List.getElem?_eq_getElem h2]
theorem hP_full (h v : List UInt64) : hP h v 8 = (List.range 8).map fun i => up (at0 h i) (at0 v i) := by
 unfold hP; apply List.map_congr_left; intro i hi; rw [if_pos (by simpa using hi)]
theorem hP_at {h v : List UInt64} {i : Nat} (hi : i < 8) : at0 (hP h v i) i = at0 h i := by
 unfold hP; rw [at0_map hi, if_neg (by omega)]
theorem hP_set {h v : List UInt64} {i : Nat} : (hP h v i).set i (up (at0 h i) (at0 v i)) = hP h v (i + 1) := by
 apply List.ext_getElem
 ·simp [hP]
 ·intro k h1 h2
  have hk : k < 8 := by simpa [hP] using h2
  rw [List.getElem_set]
  by_cases e : i = k
  ·subst e; rw [if_pos rfl]; simp [hP]
  ·rw [if_neg e]
   simp only [hP, List.getElem_map, List.getElem_range]
   by_cases h3 : k < i
   ·rw [if_pos h3, if_pos (by omega)]
   ·rw [if_neg h3, if_neg (by omega)]
theorem rotB_1 {x : UInt64} (w : World) : Calls Tryz.prog 107 #[.int .u64 (x.toNat : Int), .int .i64 (-1)] w fun e w' => e = .returned (.int .u64 ((rotr x 1).toNat : Int)) ∧ Below w.heap.size w w' := (rotl_1 x w).mono fun _ _ ⟨he, hw⟩ => ⟨he, by rw [← hw]; exact Below.refl _ _⟩
theorem rotB_8 {x : UInt64} (w : World) : Calls Tryz.prog 107 #[.int .u64 (x.toNat : Int), .int .i64 (-8)] w fun e w' => e = .returned (.int .u64 ((rotr x 8).toNat : Int)) ∧ Below w.heap.size w w' := (rotl_8 x w).mono fun _ _ ⟨he, hw⟩ => ⟨he, by rw [← hw]; exact Below.refl _ _⟩
theorem rotB_19 {x : UInt64} (w : World) : Calls Tryz.prog 107 #[.int .u64 (x.toNat : Int), .int .i64 (-19)] w fun e w' => e = .returned (.int .u64 ((rotr x 19).toNat : Int)) ∧ Below w.heap.size w w' := (rotl_19 x w).mono fun _ _ ⟨he, hw⟩ => ⟨he, by rw [← hw]; exact Below.refl _ _⟩
theorem rotB_61 {x : UInt64} (w : World) : Calls Tryz.prog 107 #[.int .u64 (x.toNat : Int), .int .i64 (-61)] w fun e w' => e = .returned (.int .u64 ((rotr x 61).toNat : Int)) ∧ Below w.heap.size w w' := (rotl_61 x w).mono fun _ _ ⟨he, hw⟩ => ⟨he, by rw [← hw]; exact Below.refl _ _⟩
theorem rotB_14 {x : UInt64} (w : World) : Calls Tryz.prog 107 #[.int .u64 (x.toNat : Int), .int .i64 (-14)] w fun e w' => e = .returned (.int .u64 ((rotr x 14).toNat : Int)) ∧ Below w.heap.size w w' := (rotl_14 x w).mono fun _ _ ⟨he, hw⟩ => ⟨he, by rw [← hw]; exact Below.refl _ _⟩
theorem rotB_18 {x : UInt64} (w : World) : Calls Tryz.prog 107 #[.int .u64 (x.toNat : Int), .int .i64 (-18)] w fun e w' => e = .returned (.int .u64 ((rotr x 18).toNat : Int)) ∧ Below w.heap.size w w' := (rotl_18 x w).mono fun _ _ ⟨he, hw⟩ => ⟨he, by rw [← hw]; exact Below.refl _ _⟩
theorem rotB_41 {x : UInt64} (w : World) : Calls Tryz.prog 107 #[.int .u64 (x.toNat : Int), .int .i64 (-41)] w fun e w' => e = .returned (.int .u64 ((rotr x 41).toNat : Int)) ∧ Below w.heap.size w w' := (rotl_41 x w).mono fun _ _ ⟨he, hw⟩ => ⟨he, by rw [← hw]; exact Below.refl _ _⟩
theorem rotB_28 {x : UInt64} (w : World) : Calls Tryz.prog 107 #[.int .u64 (x.toNat : Int), .int .i64 (-28)] w fun e w' => e = .returned (.int .u64 ((rotr x 28).toNat : Int)) ∧ Below w.heap.size w w' := (rotl_28 x w).mono fun _ _ ⟨he, hw⟩ => ⟨he, by rw [← hw]; exact Below.refl _ _⟩
theorem rotB_34 {x : UInt64} (w : World) : Calls Tryz.prog 107 #[.int .u64 (x.toNat : Int), .int .i64 (-34)] w fun e w' => e = .returned (.int .u64 ((rotr x 34).toNat : Int)) ∧ Below w.heap.size w w' := (rotl_34 x w).mono fun _ _ ⟨he, hw⟩ => ⟨he, by rw [← hw]; exact Below.refl _ _⟩
theorem rotB_39 {x : UInt64} (w : World) : Calls Tryz.prog 107 #[.int .u64 (x.toNat : Int), .int .i64 (-39)] w fun e w' => e = .returned (.int .u64 ((rotr x 39).toNat : Int)) ∧ Below w.heap.size w w' := (rotl_39 x w).mono fun _ _ ⟨he, hw⟩ => ⟨he, by rw [← hw]; exact Below.refl _ _⟩
set_option maxHeartbeats 4000000 in
theorem rounds_any (w : World) :
  Calls Tryz.prog 105 #[] w fun e w' => ∃ r, e = .returned r ∧ IsFs rW80 r [kTab] ∧ Below w.heap.size w w' := by
 go_enter Tryz.func105, Tryz.ntmps105
 have hbel : Below w.heap.size w w := Below.refl _ _
 have hbel0 := hbel
 go_upto_region 0 with fail
 refine rgT [(0, 0)] [.new 80] ?_ ?_
 ·intro hs
  refine ⟨?_, trivial⟩
  ·exact step_alloc hs Wn rfl rfl (by omega) rfl alloca80
 intro L0 u0 W0 hall hJ hG
 obtain ⟨q0, e0, hq0, _, ht0⟩ := oN 80 hG 0
 have hq0 : w.heap.size ≤ q0 := by have := hbel0.size; omega
 have E0 := Lib.hid e0; clear e0
 have hb := hJ.all rfl
 have hbel := Below.call hbel hb
 have hbel0 := hbel
 clear hJ hG hall hb
 go_upto_region 1 with fail
 refine rgT [(1, 0)] [.val rW80 [kTab], .sto q0 rW80 [kTab]] ?_ ?_
 ·intro hs
  refine ⟨?_, ?_, trivial⟩
  ·exact step_pure hs Wn rfl fun L u W hG hdep => kt_build rfl
  ·refine step_storeO q0 80 hs Wn rfl rfl (by kernel_rfl) (fun k hk => ?_) (fun _ => E0.out) (there_lt ht0 (by omega)) ht0 (gO 0) tya80 rfl
   rcases k with _ | _ | k
   all_goals first | (exact absurd rfl hk) | (intro e; cases e; done)
 intro L1 u1 W1 hall hJ hG
 have hb := hJ.beN hbel
 have hbel := hbel.trans hb
 obtain ⟨_, hs1_1t, hs1_1⟩ := oT 80 rW80 [kTab] hG 1
 have hbel0 := hbel
 clear hJ hG hall hb
 go_wp2
 exact ret_cell1 (R := rW80) Tryz.results105 (by exact E0.out) hs1_1 tya80 rfl (fun r hr => ⟨r, rfl, hr, hbel⟩)
set_option maxHeartbeats 4000000 in
theorem start_any (w : World) :
  Calls Tryz.prog 51 #[] w fun e w' => ∃ r, e = .returned r ∧ IsFs rW8 r [hTab] ∧ Below w.heap.size w w' := by
 go_enter Tryz.func51, Tryz.ntmps51
 have hbel : Below w.heap.size w w := Below.refl _ _
 have hbel0 := hbel
 go_upto_region 0 with fail
 refine rgT [(0, 0)] [.new 8] ?_ ?_
 ·intro hs
  refine ⟨?_, trivial⟩
  ·exact step_alloc hs Wn rfl rfl (by omega) rfl alloca8
 intro L0 u0 W0 hall hJ hG
 obtain ⟨q0, e0, hq0, _, ht0⟩ := oN 8 hG 0
 have hq0 : w.heap.size ≤ q0 := by have := hbel0.size; omega
 have E0 := Lib.hid e0; clear e0
 have hb := hJ.all rfl
 have hbel := Below.call hbel hb
 have hbel0 := hbel
 clear hJ hG hall hb
 go_upto_region 1 with fail
 refine rgT [(1, 0)] [.val rW8 [hTab], .sto q0 rW8 [hTab]] ?_ ?_
 ·intro hs
  refine ⟨?_, ?_, trivial⟩
  ·exact step_pure hs Wn rfl fun L u W hG hdep => ht_build rfl
  ·refine step_storeO q0 8 hs Wn rfl rfl (by kernel_rfl) (fun k hk => ?_) (fun _ => E0.out) (there_lt ht0 (by omega)) ht0 (gO 0) tya8 rfl
   rcases k with _ | _ | k
   all_goals first | (exact absurd rfl hk) | (intro e; cases e; done)
 intro L1 u1 W1 hall hJ hG
 have hb := hJ.beN hbel
 have hbel := hbel.trans hb
 obtain ⟨_, hs1_1t, hs1_1⟩ := oT 8 rW8 [hTab] hG 1
 have hbel0 := hbel
 clear hJ hG hall hb
 go_wp2
 exact ret_cell1 (R := rW8) Tryz.results51 (by exact E0.out) hs1_1 tya8 rfl (fun r hr => ⟨r, rfl, hr, hbel⟩)
theorem rd_drop {w : World} {b q n cap k : Nat} {l : List UInt8} (hk : k ≤ n) (h : RdB w (some ⟨b, q, none⟩) n cap l) : RdB w (some ⟨b, q + k, none⟩) (n - k) (cap - k) (l.drop k) := by
 have h1 := h.hlen; have h2 := h.hcap; have h3 := h.hmax
 refine ⟨by rw [List.length_drop]; omega, by omega, by omega, fun i hi => ?_, fun h => by cases h⟩
 obtain ⟨b', o', e, hc⟩ := h.get (k + i) (by rw [List.length_drop] at hi; omega)
 cases e
 exact ⟨b, q + k, rfl, by rw [Nat.add_assoc, List.getElem_drop]; exact hc⟩
theorem first_take {l : List UInt8} {k : Nat} (h : k ≤ l.length) : first l k = l.take k := by
 unfold first; rw [show k - l.length = 0 by omega]; simp
theorem get64B {a : Option Addr} {n cap : Nat} {l : List UInt8} {x : UInt64} {w : World} (h : RdB w a n cap l) (hx : beW (first l 8) = x) :
  Calls Tryz.prog 106 #[.slice a n cap] w fun e w' => e = .returned (.int .u64 (x.toNat : Int)) ∧ Below w.heap.size w w' :=
 (get64_any w h).mono fun _ _ ⟨he, hw⟩ => ⟨by rw [he, hx], by rw [← hw]; exact Below.refl _ _⟩
theorem store_u64 {w : World} {p : Addr} {c : Int} {v : Value} (h : w.cell? p = some v) (hf : w.frozen? p = false) : (Instr.storeAt 45 (.pointer (some p)) (.int .u64 c)).run Tryz.prog w = .ok () (w.setCell p (.int .u64 c)) := by go_simp
set_option maxHeartbeats 8000000 in
theorem turn_any {v0 : Value} {bb q n cap : Nat} {h : List UInt64} {l : List UInt8} {w : World} (h0 : IsFs rW8 v0 [h]) (hr : RdB w (some ⟨bb, q, none⟩) n cap l) (hn : 128 ≤ n) :
  Calls Tryz.prog 53 #[v0, .slice (some ⟨bb, q, none⟩) n cap] w fun e w' => ∃ r, e = .returned r ∧ IsFs rW8 r [turn h (words l)] ∧ Below w.heap.size w w' := by
 have HR := Lib.hid hr
 have HN := Lib.hid hn
 clear hr hn
 go_enter Tryz.func53, Tryz.ntmps53
 have hbel : Below w.heap.size w w := Below.refl _ _
 have hbel0 := hbel
 go_upto_region 0 with fail
 refine rgT [(2, 0), (1, 1)] [.box rW8 [h], .new 8] ?_ ?_
 ·intro hs
  refine ⟨?_, ?_, trivial⟩
  ·exact step_box hs Wn rfl rfl (gives_c h0 (fun _ => rfl))
  ·exact step_alloc hs Wn rfl rfl (by omega) rfl alloca8
 intro L0 u0z W0z hall hJ hG
 obtain ⟨q2, e2, ⟨hq2, _⟩, ht2, hm2⟩ := oB 8 rW8 [h] hG 0
 have hq2 : w.heap.size ≤ q2 := by have := hbel0.size; omega
 have E2 := Lib.hid e2; clear e2
 obtain ⟨q4, e4, hq4, _, ht4⟩ := oN 8 hG 1
 have hq4 : w.heap.size ≤ q4 := by have := hbel0.size; omega
 have E4 := Lib.hid e4; clear e4
 have hb := hJ.all rfl
 have hbel := Below.call hbel hb
 have HN2_4 := Lib.hid (show q2 ≠ q4 from fun e => hJ.apart 0 1 _ (by omega) (hall _ (by simp)) (hall _ (by simp)) rfl rfl (E2.out.trans (by rw [e])) E4.out)
 have hbel0 := hbel
 clear hJ hG hall hb
 go_upto_region 1 with fail
 refine rgT [(5, 0)] [.box rW80 [(List.replicate 80 0)]] ?_ ?_
 ·intro hs
  refine ⟨?_, trivial⟩
  ·exact step_allocZ hs Wn rfl rfl zero80 alloca80
 intro L1 u1z W1z hall hJ hG
 obtain ⟨q5, e5, ⟨hq5, _⟩, ht5, hm5⟩ := oB 80 rW80 [(List.replicate 80 0)] hG 0
 have HD5_q2 := Lib.hid (show q2 ≠ q5 by have := there_lt ht2 (by omega); omega)
 have HD5_q4 := Lib.hid (show q4 ≠ q5 by have := there_lt ht4 (by omega); omega)
 have hq5 : w.heap.size ≤ q5 := by have := hbel0.size; omega
 have E5 := Lib.hid e5; clear e5
 have hb := hJ.all rfl
 have hbel := Below.call hbel hb
 have hm2 := hm2.later hb
 have ht2 := there_later ht2 hb
 have ht4 := there_later ht4 hb
 have hbel0 := hbel
 clear hJ hG hall hb
 go_upto_region 2 with fail
 refine rgT [(6, 1), (14, 0)] [.val rW80 [kTab], .new 80, .st 1 rW80 [kTab]] ?_ ?_
 ·intro hs
  refine ⟨?_, ?_, ?_, trivial⟩
  ·refine step_call hs Wn rfl fun L u W hJ hG hL hdep K hK => ?_
   go_simp
   go_at_call 105
   (with_reducible refine (rounds_any _).mono ?_); rintro e w1 ⟨r, rfl, hr, hb⟩
   exact hK.out _ _ hr hb
  ·exact step_alloc hs Wn rfl rfl (by omega) rfl alloca80
  ·exact step_store 1 hs (by kernel_rfl) Wn rfl rfl rfl (by kernel_rfl) (by kernel_rfl) (by kernel_rfl) (by kernel_rfl) (fun _ => rfl) (gO 0) tya80 rfl
 intro L2 u2z W2z hall hJ hG
 obtain ⟨q6, e6, hq6, _, ht6⟩ := oN 80 hG 1
 have hm6 := oS rW80 [kTab] hG 2 e6
 have HD6_q2 := Lib.hid (show q2 ≠ q6 by have := there_lt ht2 (by omega); omega)
 have HD6_q4 := Lib.hid (show q4 ≠ q6 by have := there_lt ht4 (by omega); omega)
 have HD6_q5 := Lib.hid (show q5 ≠ q6 by have := there_lt ht5 (by omega); omega)
 have hq6 : w.heap.size ≤ q6 := by have := hbel0.size; omega
 have E6 := Lib.hid e6; clear e6
 have hb := hJ.all rfl
 have hbel := Below.call hbel hb
 have hm2 := hm2.later hb
 have hm5 := hm5.later hb
 have ht2 := there_later ht2 hb
 have ht4 := there_later ht4 hb
 have ht5 := there_later ht5 hb
 have hbel0 := hbel
 clear hJ hG hall hb
 go_wp2_with fail
 go_loopw [22] (fun sk wr => ∃ t : Nat, t ≤ 80 ∧ sk = .int .i64 (t : Int) ∧ HasFs rW8 wr q2 0 [h] ∧ wr.there q2 0 8 ∧ wr.there q4 0 8 ∧ HasFs rW80 wr q5 0 [wP (words l) t] ∧ wr.there q5 0 80 ∧ HasFs rW80 wr q6 0 [kTab] ∧ wr.there q6 0 80 ∧ Below w.heap.size w wr) (fun x _ => 80 - (intOf x).toNat)
 case atStart => exact ⟨0, by omega, rfl, hm2, ht2, ht4, (by rw [wP_zero]; exact hm5), ht5, hm6, ht6, hbel⟩
 case round =>
  obtain ⟨t, ht, rfl, hmL2, htL2, htL4, hmL5, htL5, hmL6, htL6, hbel'⟩ := hrel
  clear hm2 hm5 hm6 ht2 ht4 ht5 ht6 hbel hbel0
  have hbel := hbel'
  have hbel0 := hbel'
  by_cases hlt : t < 80
  ·have hd1 : decide ((t : Int) < 80) = true := decide_eq_true (by omega)
   have HLT := Lib.hid hlt
   by_cases h16 : t < 16
   ·have hd2 : decide ((t : Int) < 16) = true := decide_eq_true (by omega)
    have hsl : (8 * t : Nat) ≤ n := by have := HN.out; omega
    have hcap0 := HR.out.hcap
    have hmax0 := HR.out.hmax
    unfold maxLen at hmax0
    have hn0 := HN.out
    have HSL := Lib.hid hsl
    obtain ⟨x, hx⟩ : ∃ x, beW (first (l.drop (8 * t)) 8) = x := ⟨_, rfl⟩
    have HX := Lib.hid hx
    have HXS : Hid ((if t < 16 then at0 (words l) t else wNext (wL (words l) t) t) = x) := Lib.hid (by rw [if_pos h16]; unfold words; rw [at0_map h16, ← hx, first_take (by rw [List.length_drop, HR.out.hlen]; omega)])
    clear hx hlt
    go_upto_region 7 with fail
    clear hd1 hd2
    refine rgT [(27, 0), (0, 1), (0, 2), (0, 3), (0, 4), (0, 5), (0, 6)] [.oth (fun v => v = .int .i64 (t : Int)), .oth (fun v => v = .slice (some ⟨bb, q, none⟩) n cap), .oth (fun v => v = .int .i64 (t : Int)), .oth (fun v => v = .int .i64 ((8 * t : Nat) : Int)), .oth (fun v => v = .slice (some ⟨bb, q + 8 * t, none⟩) (n - 8 * t) (cap - 8 * t)), .oth (fun v => v = .int .u64 ((x).toNat : Int)), .oth (fun v => v = .pointer (some ⟨q5, t, none⟩)), .cst q5 t (.int .u64 ((x).toNat : Int))] ?_ ?_
    ·intro hs
     refine ⟨?_, ?_, ?_, ?_, ?_, ?_, ?_, ?_, trivial⟩
     ·exact mvK hs fun _ => rfl
     ·exact mvK hs fun _ => rfl
     ·exact mvK hs fun _ => rfl
     ·refine step_pureO hs Wn rfl fun L u W hG hdep => ⟨_, ?_, rfl⟩
      have e0 := (oE (.int .i64 (t : Int)) hG hdep 2)
      go_simp
      try (rw [IntKind.wrap_i64]; omega)
     ·refine step_pureO hs Wn rfl fun L u W hG hdep => ⟨_, ?_, rfl⟩
      have e0 := (oE (.slice (some ⟨bb, q, none⟩) n cap) hG hdep 1)
      have e1 := (oE (.int .i64 ((8 * t : Nat) : Int)) hG hdep 3)
      go_simp
      try rw [if_pos (by omega)]
      try rw [if_neg (by omega)]
      try (simp; omega)
     ·refine step_callO hs Wn rfl fun L u W hJ hG hL hdep K hK => ?_
      have x0 := (oE (.slice (some ⟨bb, q + 8 * t, none⟩) (n - 8 * t) (cap - 8 * t)) hG hdep 4)
      have hRB0 := (rd_drop HSL.out (HR.out.below (hbel.trans (hJ.below (by have := hbel.size; omega) (fun k b hf => by rcases k with _ | _ | _ | _ | _ | _ | _ | _ | k <;> first | (cases hf; done) | (cases hf; omega))))))
      go_simp
      go_at_call 106
      (with_reducible refine (get64B hRB0 HX.out).mono ?_); rintro e w1 ⟨rfl, hb⟩
      have hk := hK.out _ _ rfl hb
      simp only [x0] at hk
      exact hk
     ·refine step_pureO hs Wn rfl fun L u W hG hdep => ⟨_, ?_, rfl⟩
      have e0 := E5.out
      have e1 := (oE (.int .i64 (t : Int)) hG hdep 0)
      have hltx := HLT.out
      go_simp
      try rw [if_pos (by omega)]
      try rw [show ((t : Nat) : Int).toNat = t by omega]
      try omega
     ·refine step_cst (old := .int .u64 ((at0 (wP (words l) t) t).toNat : Int)) q5 t hs Wn rfl rfl (by kernel_rfl) (fun k hk => ?_) (fun _ h1 h2 => store_u64 h1 h2) (fun L u W hG hdep => (oE (.pointer (some ⟨q5, t, none⟩)) hG hdep 6)) (fun L u W hG hdep => (oE (.int .u64 ((x).toNat : Int)) hG hdep 5)) (HasFs.cellW hmL5 HLT.out rfl) (there_frozen htL5 HLT.out)
      rcases k with _ | _ | _ | _ | _ | _ | _ | _ | k
      all_goals first | (exact absurd rfl hk) | (intro e; cases e; done)
    intro L7 u7z W7z hall hJ hG
    have hb := hJ.beN hbel
    have hbel := hbel.trans hb
    have hmL2 := kC hmL2 hJ HD5_q2.out
    have hmL5 : HasFs rW80 W7z q5 0 [wP (words l) (t + 1)] := by
     have z := (hmL5.setW htL5 HLT.out x).blk (show _ ∧ W7z.heap[q5]? = (wr.setCell ⟨q5, t, none⟩ (.int .u64 ((x).toNat : Int))).heap[q5]? from hG 7 (by simp)).2
     rw [wP_set HLT.out HXS.out] at z
     exact z
    have hmL6 := kB hmL6 hJ HD6_q5.out
    have htL2 := tC htL2 hJ HD5_q2.out
    have htL4 := tC htL4 hJ HD5_q4.out
    have htL5 := there_blk (there_set (b := q5) (k := t) (v := .int .u64 ((x).toNat : Int)) htL5) (show _ ∧ W7z.heap[q5]? = (wr.setCell ⟨q5, t, none⟩ (.int .u64 ((x).toNat : Int))).heap[q5]? from hG 7 (by simp)).2
    have htL6 := tB htL6 hJ HD6_q5.out
    have hbel0 := hbel
    clear hJ hG hall hb
    have hlt := HLT.out
    go_wp2_with fail
    go_roundw
    case rel => exact ⟨t + 1, by omega, by go_num, hmL2, htL2, htL4, hmL5, htL5, hmL6, htL6, hbel⟩
    case measure => simp [intOf]; omega
   ·have hd2 : decide ((t : Int) < 16) = false := decide_eq_false (by omega)
    have hge : 16 ≤ t := by omega
    obtain ⟨x15, hx15⟩ : ∃ x, at0 (wP (words l) t) (t - 15) = x := ⟨_, rfl⟩
    obtain ⟨x2, hx2⟩ : ∃ x, at0 (wP (words l) t) (t - 2) = x := ⟨_, rfl⟩
    obtain ⟨x16, hx16⟩ : ∃ x, at0 (wP (words l) t) (t - 16) = x := ⟨_, rfl⟩
    obtain ⟨x7, hx7⟩ : ∃ x, at0 (wP (words l) t) (t - 7) = x := ⟨_, rfl⟩
    have HXS : Hid ((if t < 16 then at0 (words l) t else wNext (wL (words l) t) t) = up (up (up x16 (sg0 x15)) x7) (sg1 x2)) := Lib.hid (by
     rw [if_neg (by omega), ← hx15, ← hx2, ← hx16, ← hx7, wP_at (by omega), wP_at (by omega), wP_at (by omega), wP_at (by omega)]; rfl)
    have HX15 := Lib.hid hx15; have HX2 := Lib.hid hx2; have HX16 := Lib.hid hx16; have HX7 := Lib.hid hx7
    clear hx15 hx2 hx16 hx7
    go_upto_region 8 with fail
    clear hd1 hd2
    refine rgM [(8, 8), (0, 9), (24, 0), (0, 1), (0, 2), (0, 3), (0, 4), (0, 5), (0, 6), (0, 7)] [.oth (fun v => v = .int .i64 (t : Int)), .oth (fun v => v = .int .i64 ((t - 15 : Nat) : Int)), .oth (fun v => v = .pointer (some ⟨q5, t - 15, none⟩)), .oth (fun v => v = .int .u64 ((x15).toNat : Int)), .oth (fun v => v = .int .i64 (t : Int)), .oth (fun v => v = .int .i64 ((t - 2 : Nat) : Int)), .oth (fun v => v = .pointer (some ⟨q5, t - 2, none⟩)), .oth (fun v => v = .int .u64 ((x2).toNat : Int)), .oth (fun v => v = .int .u64 ((x15).toNat : Int)), .oth (fun v => v = .int .u64 ((x2).toNat : Int))] ?_ ?_
    ·intro hs
     refine ⟨?_, ?_, ?_, ?_, ?_, ?_, ?_, ?_, ?_, ?_, trivial⟩
     ·exact mvK hs fun _ => rfl
     ·refine step_pureO hs Wn rfl fun L u W hG hdep => ⟨_, ?_, rfl⟩
      have e0 := (oE (.int .i64 (t : Int)) hG hdep 0)
      go_simp
      try (rw [IntKind.wrap_i64]; omega)
     ·refine step_pureO hs Wn rfl fun L u W hG hdep => ⟨_, ?_, rfl⟩
      have e0 := E5.out
      have e1 := (oE (.int .i64 ((t - 15 : Nat) : Int)) hG hdep 1)
      have hltx := HLT.out
      go_simp
      try rw [if_pos (by omega)]
      try rw [show ((t - 15 : Nat) : Int).toNat = t - 15 by omega]
      try omega
     ·exact step_cell q5 (t - 15) hs Wn rfl rfl (fun _ h => load_u64 h) (fun L u W hG hdep => (oE (.pointer (some ⟨q5, t - 15, none⟩)) hG hdep 2)) (HasFs.cellW hmL5 (by omega) HX15.out) Na
     ·exact mvK hs fun _ => rfl
     ·refine step_pureO hs Wn rfl fun L u W hG hdep => ⟨_, ?_, rfl⟩
      have e0 := (oE (.int .i64 (t : Int)) hG hdep 4)
      go_simp
      try (rw [IntKind.wrap_i64]; omega)
     ·refine step_pureO hs Wn rfl fun L u W hG hdep => ⟨_, ?_, rfl⟩
      have e0 := E5.out
      have e1 := (oE (.int .i64 ((t - 2 : Nat) : Int)) hG hdep 5)
      have hltx := HLT.out
      go_simp
      try rw [if_pos (by omega)]
      try rw [show ((t - 2 : Nat) : Int).toNat = t - 2 by omega]
      try omega
     ·exact step_cell q5 (t - 2) hs Wn rfl rfl (fun _ h => load_u64 h) (fun L u W hG hdep => (oE (.pointer (some ⟨q5, t - 2, none⟩)) hG hdep 6)) (HasFs.cellW hmL5 (by omega) HX2.out) Na
     ·exact mvO 3 hs
     ·exact mvO 7 hs
    intro L8 u8z W8z hall hJ hG
    have hb := hJ.all rfl
    have hbel := Below.call hbel hb
    have hmL2 := hmL2.later hb
    have hmL5 := hmL5.later hb
    have hmL6 := hmL6.later hb
    have htL2 := there_later htL2 hb
    have htL4 := there_later htL4 hb
    have htL5 := there_later htL5 hb
    have htL6 := there_later htL6 hb
    have HC8 := oC (.int .u64 ((x15).toNat : Int)) hG 8
    have HC9 := oC (.int .u64 ((x2).toNat : Int)) hG 9
    have hbel0 := hbel
    clear hJ hG hall hb
    go_upto_region 9 with fail
    refine rgT [(10, 8), (31, 0), (0, 1), (0, 2), (0, 3), (0, 4), (0, 5), (0, 6), (0, 7)] [.oth (fun v => v = .int .u64 ((x15).toNat : Int)), .oth (fun v => v = .int .u64 ((rotr x15 1).toNat : Int)), .oth (fun v => v = .int .u64 ((x15).toNat : Int)), .oth (fun v => v = .int .u64 ((rotr x15 8).toNat : Int)), .oth (fun v => v = .int .u64 ((ux (rotr x15 1) (rotr x15 8)).toNat : Int)), .oth (fun v => v = .int .u64 ((x15).toNat : Int)), .oth (fun v => v = .int .u64 ((ush x15 7).toNat : Int)), .oth (fun v => v = .int .u64 ((ux (ux (rotr x15 1) (rotr x15 8)) (ush x15 7)).toNat : Int)), .oth (fun v => v = .int .u64 ((ux (ux (rotr x15 1) (rotr x15 8)) (ush x15 7)).toNat : Int))] ?_ ?_
    ·intro hs
     refine ⟨?_, ?_, ?_, ?_, ?_, ?_, ?_, ?_, ?_, trivial⟩
     ·exact mvK hs fun _ => HC8.out
     ·refine step_callO hs Wn rfl fun L u W hJ hG hL hdep K hK => ?_
      have x0 := (oE (.int .u64 ((x15).toNat : Int)) hG hdep 0)
      go_simp
      go_at_call 107
      (with_reducible refine (rotB_1 (x := x15) _).mono ?_); rintro e w1 ⟨rfl, hb⟩
      have hk := hK.out _ _ rfl hb
      simp only [x0] at hk
      exact hk
     ·exact mvK hs fun _ => HC8.out
     ·refine step_callO hs Wn rfl fun L u W hJ hG hL hdep K hK => ?_
      have x0 := (oE (.int .u64 ((x15).toNat : Int)) hG hdep 2)
      go_simp
      go_at_call 107
      (with_reducible refine (rotB_8 (x := x15) _).mono ?_); rintro e w1 ⟨rfl, hb⟩
      have hk := hK.out _ _ rfl hb
      simp only [x0] at hk
      exact hk
     ·refine step_pureO hs Wn rfl fun L u W hG hdep => ⟨_, ?_, rfl⟩
      have e0 := (oE (.int .u64 ((rotr x15 1).toNat : Int)) hG hdep 1)
      have e1 := (oE (.int .u64 ((rotr x15 8).toNat : Int)) hG hdep 3)
      exact run_ux rfl ((oE (.int .u64 ((rotr x15 1).toNat : Int)) hG hdep 1)) ((oE (.int .u64 ((rotr x15 8).toNat : Int)) hG hdep 3))
     ·exact mvK hs fun _ => HC8.out
     ·refine step_pureO hs Wn rfl fun L u W hG hdep => ⟨_, ?_, rfl⟩
      have e0 := (oE (.int .u64 ((x15).toNat : Int)) hG hdep 5)
      exact run_ush7 rfl rfl ((oE (.int .u64 ((x15).toNat : Int)) hG hdep 5))
     ·refine step_pureO hs Wn rfl fun L u W hG hdep => ⟨_, ?_, rfl⟩
      have e0 := (oE (.int .u64 ((ux (rotr x15 1) (rotr x15 8)).toNat : Int)) hG hdep 4)
      have e1 := (oE (.int .u64 ((ush x15 7).toNat : Int)) hG hdep 6)
      exact run_ux rfl ((oE (.int .u64 ((ux (rotr x15 1) (rotr x15 8)).toNat : Int)) hG hdep 4)) ((oE (.int .u64 ((ush x15 7).toNat : Int)) hG hdep 6))
     ·exact mvO 7 hs
    intro L9 u9z W9z hall hJ hG
    have hb := hJ.all rfl
    have hbel := Below.call hbel hb
    have hmL2 := hmL2.later hb
    have hmL5 := hmL5.later hb
    have hmL6 := hmL6.later hb
    have htL2 := there_later htL2 hb
    have htL4 := there_later htL4 hb
    have htL5 := there_later htL5 hb
    have htL6 := there_later htL6 hb
    have HC10 := oC (.int .u64 ((ux (ux (rotr x15 1) (rotr x15 8)) (ush x15 7)).toNat : Int)) hG 8
    have hbel0 := hbel
    clear hJ hG hall hb
    go_upto_region 10 with fail
    refine rgT [(11, 8), (38, 0), (0, 1), (0, 2), (0, 3), (0, 4), (0, 5), (0, 6), (0, 7)] [.oth (fun v => v = .int .u64 ((x2).toNat : Int)), .oth (fun v => v = .int .u64 ((rotr x2 19).toNat : Int)), .oth (fun v => v = .int .u64 ((x2).toNat : Int)), .oth (fun v => v = .int .u64 ((rotr x2 61).toNat : Int)), .oth (fun v => v = .int .u64 ((ux (rotr x2 19) (rotr x2 61)).toNat : Int)), .oth (fun v => v = .int .u64 ((x2).toNat : Int)), .oth (fun v => v = .int .u64 ((ush x2 6).toNat : Int)), .oth (fun v => v = .int .u64 ((ux (ux (rotr x2 19) (rotr x2 61)) (ush x2 6)).toNat : Int)), .oth (fun v => v = .int .u64 ((ux (ux (rotr x2 19) (rotr x2 61)) (ush x2 6)).toNat : Int))] ?_ ?_
    ·intro hs
     refine ⟨?_, ?_, ?_, ?_, ?_, ?_, ?_, ?_, ?_, trivial⟩
     ·exact mvK hs fun _ => HC9.out
     ·refine step_callO hs Wn rfl fun L u W hJ hG hL hdep K hK => ?_
      have x0 := (oE (.int .u64 ((x2).toNat : Int)) hG hdep 0)
      go_simp
      go_at_call 107
      (with_reducible refine (rotB_19 (x := x2) _).mono ?_); rintro e w1 ⟨rfl, hb⟩
      have hk := hK.out _ _ rfl hb
      simp only [x0] at hk
      exact hk
     ·exact mvK hs fun _ => HC9.out
     ·refine step_callO hs Wn rfl fun L u W hJ hG hL hdep K hK => ?_
      have x0 := (oE (.int .u64 ((x2).toNat : Int)) hG hdep 2)
      go_simp
      go_at_call 107
      (with_reducible refine (rotB_61 (x := x2) _).mono ?_); rintro e w1 ⟨rfl, hb⟩
      have hk := hK.out _ _ rfl hb
      simp only [x0] at hk
      exact hk
     ·refine step_pureO hs Wn rfl fun L u W hG hdep => ⟨_, ?_, rfl⟩
      have e0 := (oE (.int .u64 ((rotr x2 19).toNat : Int)) hG hdep 1)
      have e1 := (oE (.int .u64 ((rotr x2 61).toNat : Int)) hG hdep 3)
      exact run_ux rfl ((oE (.int .u64 ((rotr x2 19).toNat : Int)) hG hdep 1)) ((oE (.int .u64 ((rotr x2 61).toNat : Int)) hG hdep 3))
     ·exact mvK hs fun _ => HC9.out
     ·refine step_pureO hs Wn rfl fun L u W hG hdep => ⟨_, ?_, rfl⟩
      have e0 := (oE (.int .u64 ((x2).toNat : Int)) hG hdep 5)
      exact run_ush6 rfl rfl ((oE (.int .u64 ((x2).toNat : Int)) hG hdep 5))
     ·refine step_pureO hs Wn rfl fun L u W hG hdep => ⟨_, ?_, rfl⟩
      have e0 := (oE (.int .u64 ((ux (rotr x2 19) (rotr x2 61)).toNat : Int)) hG hdep 4)
      have e1 := (oE (.int .u64 ((ush x2 6).toNat : Int)) hG hdep 6)
      exact run_ux rfl ((oE (.int .u64 ((ux (rotr x2 19) (rotr x2 61)).toNat : Int)) hG hdep 4)) ((oE (.int .u64 ((ush x2 6).toNat : Int)) hG hdep 6))
     ·exact mvO 7 hs
    intro L10 u10z W10z hall hJ hG
    have hb := hJ.all rfl
    have hbel := Below.call hbel hb
    have hmL2 := hmL2.later hb
    have hmL5 := hmL5.later hb
    have hmL6 := hmL6.later hb
    have htL2 := there_later htL2 hb
    have htL4 := there_later htL4 hb
    have htL5 := there_later htL5 hb
    have htL6 := there_later htL6 hb
    have HC11 := oC (.int .u64 ((ux (ux (rotr x2 19) (rotr x2 61)) (ush x2 6)).toNat : Int)) hG 8
    have hbel0 := hbel
    clear hJ hG hall hb
    go_upto_region 11 with fail
    refine rgM [(58, 0), (0, 1), (0, 2), (0, 3), (0, 4), (0, 5), (0, 6), (0, 7), (0, 8), (0, 9), (0, 10), (0, 11), (0, 12), (0, 13), (0, 14)] [.oth (fun v => v = .int .i64 (t : Int)), .oth (fun v => v = .int .i64 (t : Int)), .oth (fun v => v = .int .i64 ((t - 16 : Nat) : Int)), .oth (fun v => v = .pointer (some ⟨q5, t - 16, none⟩)), .oth (fun v => v = .int .u64 ((x16).toNat : Int)), .oth (fun v => v = .int .u64 ((ux (ux (rotr x15 1) (rotr x15 8)) (ush x15 7)).toNat : Int)), .oth (fun v => v = .int .u64 ((up x16 (ux (ux (rotr x15 1) (rotr x15 8)) (ush x15 7))).toNat : Int)), .oth (fun v => v = .int .i64 (t : Int)), .oth (fun v => v = .int .i64 ((t - 7 : Nat) : Int)), .oth (fun v => v = .pointer (some ⟨q5, t - 7, none⟩)), .oth (fun v => v = .int .u64 ((x7).toNat : Int)), .oth (fun v => v = .int .u64 ((up (up x16 (ux (ux (rotr x15 1) (rotr x15 8)) (ush x15 7))) x7).toNat : Int)), .oth (fun v => v = .int .u64 ((ux (ux (rotr x2 19) (rotr x2 61)) (ush x2 6)).toNat : Int)), .oth (fun v => v = .int .u64 ((up (up (up x16 (ux (ux (rotr x15 1) (rotr x15 8)) (ush x15 7))) x7) (ux (ux (rotr x2 19) (rotr x2 61)) (ush x2 6))).toNat : Int)), .oth (fun v => v = .pointer (some ⟨q5, t, none⟩)), .cst q5 t (.int .u64 ((up (up (up x16 (ux (ux (rotr x15 1) (rotr x15 8)) (ush x15 7))) x7) (ux (ux (rotr x2 19) (rotr x2 61)) (ush x2 6))).toNat : Int))] ?_ ?_
    ·intro hs
     refine ⟨?_, ?_, ?_, ?_, ?_, ?_, ?_, ?_, ?_, ?_, ?_, ?_, ?_, ?_, ?_, ?_, trivial⟩
     ·exact mvK hs fun _ => rfl
     ·exact mvK hs fun _ => rfl
     ·refine step_pureO hs Wn rfl fun L u W hG hdep => ⟨_, ?_, rfl⟩
      have e0 := (oE (.int .i64 (t : Int)) hG hdep 1)
      go_simp
      try (rw [IntKind.wrap_i64]; omega)
     ·refine step_pureO hs Wn rfl fun L u W hG hdep => ⟨_, ?_, rfl⟩
      have e0 := E5.out
      have e1 := (oE (.int .i64 ((t - 16 : Nat) : Int)) hG hdep 2)
      have hltx := HLT.out
      go_simp
      try rw [if_pos (by omega)]
      try rw [show ((t - 16 : Nat) : Int).toNat = t - 16 by omega]
      try omega
     ·exact step_cell q5 (t - 16) hs Wn rfl rfl (fun _ h => load_u64 h) (fun L u W hG hdep => (oE (.pointer (some ⟨q5, t - 16, none⟩)) hG hdep 3)) (HasFs.cellW hmL5 (by omega) HX16.out) Na
     ·exact mvK hs fun _ => HC10.out
     ·refine step_pureO hs Wn rfl fun L u W hG hdep => ⟨_, ?_, rfl⟩
      have e0 := (oE (.int .u64 ((x16).toNat : Int)) hG hdep 4)
      have e1 := (oE (.int .u64 ((ux (ux (rotr x15 1) (rotr x15 8)) (ush x15 7)).toNat : Int)) hG hdep 5)
      exact run_up rfl ((oE (.int .u64 ((x16).toNat : Int)) hG hdep 4)) ((oE (.int .u64 ((ux (ux (rotr x15 1) (rotr x15 8)) (ush x15 7)).toNat : Int)) hG hdep 5))
     ·exact mvK hs fun _ => rfl
     ·refine step_pureO hs Wn rfl fun L u W hG hdep => ⟨_, ?_, rfl⟩
      have e0 := (oE (.int .i64 (t : Int)) hG hdep 7)
      go_simp
      try (rw [IntKind.wrap_i64]; omega)
     ·refine step_pureO hs Wn rfl fun L u W hG hdep => ⟨_, ?_, rfl⟩
      have e0 := E5.out
      have e1 := (oE (.int .i64 ((t - 7 : Nat) : Int)) hG hdep 8)
      have hltx := HLT.out
      go_simp
      try rw [if_pos (by omega)]
      try rw [show ((t - 7 : Nat) : Int).toNat = t - 7 by omega]
      try omega
     ·exact step_cell q5 (t - 7) hs Wn rfl rfl (fun _ h => load_u64 h) (fun L u W hG hdep => (oE (.pointer (some ⟨q5, t - 7, none⟩)) hG hdep 9)) (HasFs.cellW hmL5 (by omega) HX7.out) Na
     ·refine step_pureO hs Wn rfl fun L u W hG hdep => ⟨_, ?_, rfl⟩
      have e0 := (oE (.int .u64 ((up x16 (ux (ux (rotr x15 1) (rotr x15 8)) (ush x15 7))).toNat : Int)) hG hdep 6)
      have e1 := (oE (.int .u64 ((x7).toNat : Int)) hG hdep 10)
      exact run_up rfl ((oE (.int .u64 ((up x16 (ux (ux (rotr x15 1) (rotr x15 8)) (ush x15 7))).toNat : Int)) hG hdep 6)) ((oE (.int .u64 ((x7).toNat : Int)) hG hdep 10))
     ·exact mvK hs fun _ => HC11.out
     ·refine step_pureO hs Wn rfl fun L u W hG hdep => ⟨_, ?_, rfl⟩
      have e0 := (oE (.int .u64 ((up (up x16 (ux (ux (rotr x15 1) (rotr x15 8)) (ush x15 7))) x7).toNat : Int)) hG hdep 11)
      have e1 := (oE (.int .u64 ((ux (ux (rotr x2 19) (rotr x2 61)) (ush x2 6)).toNat : Int)) hG hdep 12)
      exact run_up rfl ((oE (.int .u64 ((up (up x16 (ux (ux (rotr x15 1) (rotr x15 8)) (ush x15 7))) x7).toNat : Int)) hG hdep 11)) ((oE (.int .u64 ((ux (ux (rotr x2 19) (rotr x2 61)) (ush x2 6)).toNat : Int)) hG hdep 12))
     ·refine step_pureO hs Wn rfl fun L u W hG hdep => ⟨_, ?_, rfl⟩
      have e0 := E5.out
      have e1 := (oE (.int .i64 (t : Int)) hG hdep 0)
      have hltx := HLT.out
      go_simp
      try rw [if_pos (by omega)]
      try rw [show ((t : Nat) : Int).toNat = t by omega]
      try omega
     ·refine step_cst (old := .int .u64 ((at0 (wP (words l) t) t).toNat : Int)) q5 t hs Wn rfl rfl (by kernel_rfl) (fun k hk => ?_) (fun _ h1 h2 => store_u64 h1 h2) (fun L u W hG hdep => (oE (.pointer (some ⟨q5, t, none⟩)) hG hdep 14)) (fun L u W hG hdep => (oE (.int .u64 ((up (up (up x16 (ux (ux (rotr x15 1) (rotr x15 8)) (ush x15 7))) x7) (ux (ux (rotr x2 19) (rotr x2 61)) (ush x2 6))).toNat : Int)) hG hdep 13)) (HasFs.cellW hmL5 HLT.out rfl) (there_frozen htL5 HLT.out)
      rcases k with _ | _ | _ | _ | _ | _ | _ | _ | _ | _ | _ | _ | _ | _ | _ | _ | k
      all_goals first | (exact absurd rfl hk) | (intro e; cases e; done)
    intro L11 u11z W11z hall hJ hG
    have hb := hJ.beN hbel
    have hbel := hbel.trans hb
    have hmL2 := kC hmL2 hJ HD5_q2.out
    have hmL5 : HasFs rW80 W11z q5 0 [wP (words l) (t + 1)] := by
     have z := (hmL5.setW htL5 HLT.out (up (up (up x16 (ux (ux (rotr x15 1) (rotr x15 8)) (ush x15 7))) x7) (ux (ux (rotr x2 19) (rotr x2 61)) (ush x2 6)))).blk (show _ ∧ W11z.heap[q5]? = (W10z.setCell ⟨q5, t, none⟩ (.int .u64 ((up (up (up x16 (ux (ux (rotr x15 1) (rotr x15 8)) (ush x15 7))) x7) (ux (ux (rotr x2 19) (rotr x2 61)) (ush x2 6))).toNat : Int))).heap[q5]? from hG 15 (by simp)).2
     rw [(show (wP (words l) t).set t (up (up (up x16 (ux (ux (rotr x15 1) (rotr x15 8)) (ush x15 7))) x7) (ux (ux (rotr x2 19) (rotr x2 61)) (ush x2 6))) = wP (words l) (t + 1) from wP_set HLT.out HXS.out)] at z
     exact z
    have hmL6 := kB hmL6 hJ HD6_q5.out
    have htL2 := tC htL2 hJ HD5_q2.out
    have htL4 := tC htL4 hJ HD5_q4.out
    have htL5 := there_blk (there_set (b := q5) (k := t) (v := .int .u64 ((up (up (up x16 (ux (ux (rotr x15 1) (rotr x15 8)) (ush x15 7))) x7) (ux (ux (rotr x2 19) (rotr x2 61)) (ush x2 6))).toNat : Int)) htL5) (show _ ∧ W11z.heap[q5]? = (W10z.setCell ⟨q5, t, none⟩ (.int .u64 ((up (up (up x16 (ux (ux (rotr x15 1) (rotr x15 8)) (ush x15 7))) x7) (ux (ux (rotr x2 19) (rotr x2 61)) (ush x2 6))).toNat : Int))).heap[q5]? from hG 15 (by simp)).2
    have htL6 := tB htL6 hJ HD6_q5.out
    have hbel0 := hbel
    clear hJ hG hall hb
    have hlt := HLT.out
    go_wp2_with fail
    go_roundw
    case rel => exact ⟨t + 1, by omega, by go_num, hmL2, htL2, htL4, hmL5, htL5, hmL6, htL6, hbel⟩
    case measure => simp [intOf]; omega
  ·obtain rfl : t = 80 := by omega
   have hd1 : decide (((80 : Nat) : Int) < 80) = false := by decide
   rw [wP_full] at hmL5
   obtain ⟨Wd, hWd⟩ : ∃ W, W = wL (words l) 80 := ⟨_, rfl⟩
   rw [← hWd] at hmL5
   have HWD := Lib.hid hWd
   clear hWd ht
   go_upto_region 13 with fail
   clear hd1
   refine rgT [(12, 1), (61, 0)] [.val rW8 [h], .new 8, .st 1 rW8 [h]] ?_ ?_
   ·intro hs
    refine ⟨?_, ?_, ?_, trivial⟩
    ·exact step_load q2 0 hs Wn rfl rfl tya8 (fun _ => E2.out) hmL2.lt hmL2 Na
    ·exact step_alloc hs Wn rfl rfl (by omega) rfl alloca8
    ·exact step_store 1 hs (by kernel_rfl) Wn rfl rfl rfl (by kernel_rfl) (by kernel_rfl) (by kernel_rfl) (by kernel_rfl) (fun _ => rfl) (gO 0) tya8 rfl
   intro L13 u13z W13z hall hJ hG
   obtain ⟨q12, e12, hq12, _, ht12⟩ := oN 8 hG 1
   have hm12 := oS rW8 [h] hG 2 e12
   have HD12_q2 := Lib.hid (show q2 ≠ q12 by have := there_lt htL2 (by omega); omega)
   have HD12_q4 := Lib.hid (show q4 ≠ q12 by have := there_lt htL4 (by omega); omega)
   have HD12_q5 := Lib.hid (show q5 ≠ q12 by have := there_lt htL5 (by omega); omega)
   have HD12_q6 := Lib.hid (show q6 ≠ q12 by have := there_lt htL6 (by omega); omega)
   have hq12 : w.heap.size ≤ q12 := by have := hbel0.size; omega
   have E12 := Lib.hid e12; clear e12
   have hb := hJ.all rfl
   have hbel := Below.call hbel hb
   have hmL2 := hmL2.later hb
   have hmL5 := hmL5.later hb
   have hmL6 := hmL6.later hb
   have htL2 := there_later htL2 hb
   have htL4 := there_later htL4 hb
   have htL5 := there_later htL5 hb
   have htL6 := there_later htL6 hb
   have hbel0 := hbel
   clear hJ hG hall hb
   go_wp2_with fail
   go_loopw [75] (fun sk wr => ∃ t : Nat, t ≤ 80 ∧ sk = .int .i64 (t : Int) ∧ HasFs rW8 wr q2 0 [h] ∧ wr.there q2 0 8 ∧ wr.there q4 0 8 ∧ HasFs rW80 wr q5 0 [Wd] ∧ wr.there q5 0 80 ∧ HasFs rW80 wr q6 0 [kTab] ∧ wr.there q6 0 80 ∧ HasFs rW8 wr q12 0 [rL h Wd t] ∧ wr.there q12 0 8 ∧ Below w.heap.size w wr) (fun x _ => 80 - (intOf x).toNat)
   case atStart => exact ⟨0, by omega, rfl, hmL2, htL2, htL4, hmL5, htL5, hmL6, htL6, hm12, ht12, hbel⟩
   case round =>
    obtain ⟨t, ht, rfl, hmM2, htM2, htM4, hmM5, htM5, hmM6, htM6, hmM12, htM12, hbel'⟩ := hrel
    clear hm12 hmL2 hmL5 hmL6 ht12 htL2 htL4 htL5 htL6 hbel hbel0
    have hbel := hbel'
    have hbel0 := hbel'
    by_cases hlt : t < 80
    ·have hd1 : decide ((t : Int) < 80) = true := decide_eq_true (by omega)
     have HLT := Lib.hid hlt
     obtain ⟨V, hV⟩ : ∃ V, V = rL h Wd t := ⟨_, rfl⟩
     rw [← hV] at hmM12
     have HV := Lib.hid hV
     clear hV hlt
     go_upto_region 17 with fail
     clear hd1
     refine rgM [(14, 4), (0, 5), (62, 0), (0, 1), (0, 2), (0, 3)] [.oth (fun v => v = .pointer (some ⟨q12, 0, none⟩)), .oth (fun v => v = .int .u64 ((at0 V 0).toNat : Int)), .oth (fun v => v = .pointer (some ⟨q12, 4, none⟩)), .oth (fun v => v = .int .u64 ((at0 V 4).toNat : Int)), .oth (fun v => v = .int .u64 ((at0 V 0).toNat : Int)), .oth (fun v => v = .int .u64 ((at0 V 4).toNat : Int))] ?_ ?_
     ·intro hs
      refine ⟨?_, ?_, ?_, ?_, ?_, ?_, trivial⟩
      ·refine step_pureO hs Wn rfl fun L u W hG hdep => ⟨_, ?_, rfl⟩
       have e0 := E12.out
       go_simp
       try rw [if_pos (by omega)]
       try rw [show ((0 : Nat) : Int).toNat = 0 by omega]
       try omega
      ·exact step_cell q12 0 hs Wn rfl rfl (fun _ h => load_u64 h) (fun L u W hG hdep => (oE (.pointer (some ⟨q12, 0, none⟩)) hG hdep 0)) (HasFs.cellW hmM12 (by omega) rfl) Na
      ·refine step_pureO hs Wn rfl fun L u W hG hdep => ⟨_, ?_, rfl⟩
       have e0 := E12.out
       go_simp
       try rw [if_pos (by omega)]
       try rw [show ((4 : Nat) : Int).toNat = 4 by omega]
       try omega
      ·exact step_cell q12 4 hs Wn rfl rfl (fun _ h => load_u64 h) (fun L u W hG hdep => (oE (.pointer (some ⟨q12, 4, none⟩)) hG hdep 2)) (HasFs.cellW hmM12 (by omega) rfl) Na
      ·exact mvO 1 hs
      ·exact mvO 3 hs
     intro L17 u17z W17z hall hJ hG
     have hb := hJ.all rfl
     have hbel := Below.call hbel hb
     have hmM2 := hmM2.later hb
     have hmM5 := hmM5.later hb
     have hmM6 := hmM6.later hb
     have hmM12 := hmM12.later hb
     have htM2 := there_later htM2 hb
     have htM4 := there_later htM4 hb
     have htM5 := there_later htM5 hb
     have htM6 := there_later htM6 hb
     have htM12 := there_later htM12 hb
     have HC14 := oC (.int .u64 ((at0 V 0).toNat : Int)) hG 4
     have HC15 := oC (.int .u64 ((at0 V 4).toNat : Int)) hG 5
     have hbel0 := hbel
     clear hJ hG hall hb
     go_upto_region 18 with fail
     refine rgT [(16, 8), (65, 0), (0, 1), (0, 2), (0, 3), (0, 4), (0, 5), (0, 6), (0, 7)] [.oth (fun v => v = .int .u64 ((at0 V 4).toNat : Int)), .oth (fun v => v = .int .u64 ((rotr (at0 V 4) 14).toNat : Int)), .oth (fun v => v = .int .u64 ((at0 V 4).toNat : Int)), .oth (fun v => v = .int .u64 ((rotr (at0 V 4) 18).toNat : Int)), .oth (fun v => v = .int .u64 ((ux (rotr (at0 V 4) 14) (rotr (at0 V 4) 18)).toNat : Int)), .oth (fun v => v = .int .u64 ((at0 V 4).toNat : Int)), .oth (fun v => v = .int .u64 ((rotr (at0 V 4) 41).toNat : Int)), .oth (fun v => v = .int .u64 ((ux (ux (rotr (at0 V 4) 14) (rotr (at0 V 4) 18)) (rotr (at0 V 4) 41)).toNat : Int)), .oth (fun v => v = .int .u64 ((ux (ux (rotr (at0 V 4) 14) (rotr (at0 V 4) 18)) (rotr (at0 V 4) 41)).toNat : Int))] ?_ ?_
     ·intro hs
      refine ⟨?_, ?_, ?_, ?_, ?_, ?_, ?_, ?_, ?_, trivial⟩
      ·exact mvK hs fun _ => HC15.out
      ·refine step_callO hs Wn rfl fun L u W hJ hG hL hdep K hK => ?_
       have x0 := (oE (.int .u64 ((at0 V 4).toNat : Int)) hG hdep 0)
       go_simp
       go_at_call 107
       (with_reducible refine (rotB_14 (x := at0 V 4) _).mono ?_); rintro e w1 ⟨rfl, hb⟩
       have hk := hK.out _ _ rfl hb
       simp only [x0] at hk
       exact hk
      ·exact mvK hs fun _ => HC15.out
      ·refine step_callO hs Wn rfl fun L u W hJ hG hL hdep K hK => ?_
       have x0 := (oE (.int .u64 ((at0 V 4).toNat : Int)) hG hdep 2)
       go_simp
       go_at_call 107
       (with_reducible refine (rotB_18 (x := at0 V 4) _).mono ?_); rintro e w1 ⟨rfl, hb⟩
       have hk := hK.out _ _ rfl hb
       simp only [x0] at hk
       exact hk
      ·refine step_pureO hs Wn rfl fun L u W hG hdep => ⟨_, ?_, rfl⟩
       have e0 := (oE (.int .u64 ((rotr (at0 V 4) 14).toNat : Int)) hG hdep 1)
       have e1 := (oE (.int .u64 ((rotr (at0 V 4) 18).toNat : Int)) hG hdep 3)
       exact run_ux rfl ((oE (.int .u64 ((rotr (at0 V 4) 14).toNat : Int)) hG hdep 1)) ((oE (.int .u64 ((rotr (at0 V 4) 18).toNat : Int)) hG hdep 3))
      ·exact mvK hs fun _ => HC15.out
      ·refine step_callO hs Wn rfl fun L u W hJ hG hL hdep K hK => ?_
       have x0 := (oE (.int .u64 ((at0 V 4).toNat : Int)) hG hdep 5)
       go_simp
       go_at_call 107
       (with_reducible refine (rotB_41 (x := at0 V 4) _).mono ?_); rintro e w1 ⟨rfl, hb⟩
       have hk := hK.out _ _ rfl hb
       simp only [x0] at hk
       exact hk
      ·refine step_pureO hs Wn rfl fun L u W hG hdep => ⟨_, ?_, rfl⟩
       have e0 := (oE (.int .u64 ((ux (rotr (at0 V 4) 14) (rotr (at0 V 4) 18)).toNat : Int)) hG hdep 4)
       have e1 := (oE (.int .u64 ((rotr (at0 V 4) 41).toNat : Int)) hG hdep 6)
       exact run_ux rfl ((oE (.int .u64 ((ux (rotr (at0 V 4) 14) (rotr (at0 V 4) 18)).toNat : Int)) hG hdep 4)) ((oE (.int .u64 ((rotr (at0 V 4) 41).toNat : Int)) hG hdep 6))
      ·exact mvO 7 hs
     intro L18 u18z W18z hall hJ hG
     have hb := hJ.all rfl
     have hbel := Below.call hbel hb
     have hmM2 := hmM2.later hb
     have hmM5 := hmM5.later hb
     have hmM6 := hmM6.later hb
     have hmM12 := hmM12.later hb
     have htM2 := there_later htM2 hb
     have htM4 := there_later htM4 hb
     have htM5 := there_later htM5 hb
     have htM6 := there_later htM6 hb
     have htM12 := there_later htM12 hb
     have HC16 := oC (.int .u64 ((ux (ux (rotr (at0 V 4) 14) (rotr (at0 V 4) 18)) (rotr (at0 V 4) 41)).toNat : Int)) hG 8
     have hbel0 := hbel
     clear hJ hG hall hb
     go_upto_region 19 with fail
     refine rgM [(17, 23), (72, 0), (0, 1), (0, 2), (0, 3), (0, 4), (0, 5), (0, 6), (0, 7), (0, 8), (0, 9), (0, 10), (0, 11), (0, 12), (0, 13), (0, 14), (0, 15), (0, 16), (0, 17), (0, 18), (0, 19), (0, 20), (0, 21), (0, 22)] [.oth (fun v => v = .pointer (some ⟨q12, 7, none⟩)), .oth (fun v => v = .int .u64 ((at0 V 7).toNat : Int)), .oth (fun v => v = .int .u64 ((ux (ux (rotr (at0 V 4) 14) (rotr (at0 V 4) 18)) (rotr (at0 V 4) 41)).toNat : Int)), .oth (fun v => v = .int .u64 ((up (at0 V 7) (ux (ux (rotr (at0 V 4) 14) (rotr (at0 V 4) 18)) (rotr (at0 V 4) 41))).toNat : Int)), .oth (fun v => v = .int .u64 ((at0 V 4).toNat : Int)), .oth (fun v => v = .pointer (some ⟨q12, 5, none⟩)), .oth (fun v => v = .int .u64 ((at0 V 5).toNat : Int)), .oth (fun v => v = .int .u64 ((ua (at0 V 4) (at0 V 5)).toNat : Int)), .oth (fun v => v = .int .u64 ((at0 V 4).toNat : Int)), .oth (fun v => v = .int .u64 ((un (at0 V 4)).toNat : Int)), .oth (fun v => v = .pointer (some ⟨q12, 6, none⟩)), .oth (fun v => v = .int .u64 ((at0 V 6).toNat : Int)), .oth (fun v => v = .int .u64 ((ua (un (at0 V 4)) (at0 V 6)).toNat : Int)), .oth (fun v => v = .int .u64 ((ux (ua (at0 V 4) (at0 V 5)) (ua (un (at0 V 4)) (at0 V 6))).toNat : Int)), .oth (fun v => v = .int .u64 ((up (up (at0 V 7) (ux (ux (rotr (at0 V 4) 14) (rotr (at0 V 4) 18)) (rotr (at0 V 4) 41))) (ux (ua (at0 V 4) (at0 V 5)) (ua (un (at0 V 4)) (at0 V 6)))).toNat : Int)), .oth (fun v => v = .int .i64 (t : Int)), .oth (fun v => v = .pointer (some ⟨q6, t, none⟩)), .oth (fun v => v = .int .u64 ((at0 kTab t).toNat : Int)), .oth (fun v => v = .int .u64 ((up (up (up (at0 V 7) (ux (ux (rotr (at0 V 4) 14) (rotr (at0 V 4) 18)) (rotr (at0 V 4) 41))) (ux (ua (at0 V 4) (at0 V 5)) (ua (un (at0 V 4)) (at0 V 6)))) (at0 kTab t)).toNat : Int)), .oth (fun v => v = .int .i64 (t : Int)), .oth (fun v => v = .pointer (some ⟨q5, t, none⟩)), .oth (fun v => v = .int .u64 ((at0 Wd t).toNat : Int)), .oth (fun v => v = .int .u64 ((up (up (up (up (at0 V 7) (ux (ux (rotr (at0 V 4) 14) (rotr (at0 V 4) 18)) (rotr (at0 V 4) 41))) (ux (ua (at0 V 4) (at0 V 5)) (ua (un (at0 V 4)) (at0 V 6)))) (at0 kTab t)) (at0 Wd t)).toNat : Int)), .oth (fun v => v = .int .u64 ((up (up (up (up (at0 V 7) (ux (ux (rotr (at0 V 4) 14) (rotr (at0 V 4) 18)) (rotr (at0 V 4) 41))) (ux (ua (at0 V 4) (at0 V 5)) (ua (un (at0 V 4)) (at0 V 6)))) (at0 kTab t)) (at0 Wd t)).toNat : Int))] ?_ ?_
     ·intro hs
      refine ⟨?_, ?_, ?_, ?_, ?_, ?_, ?_, ?_, ?_, ?_, ?_, ?_, ?_, ?_, ?_, ?_, ?_, ?_, ?_, ?_, ?_, ?_, ?_, ?_, trivial⟩
      ·refine step_pureO hs Wn rfl fun L u W hG hdep => ⟨_, ?_, rfl⟩
       have e0 := E12.out
       go_simp
       try rw [if_pos (by omega)]
       try rw [show ((7 : Nat) : Int).toNat = 7 by omega]
       try omega
      ·exact step_cell q12 7 hs Wn rfl rfl (fun _ h => load_u64 h) (fun L u W hG hdep => (oE (.pointer (some ⟨q12, 7, none⟩)) hG hdep 0)) (HasFs.cellW hmM12 (by omega) rfl) Na
      ·exact mvK hs fun _ => HC16.out
      ·refine step_pureO hs Wn rfl fun L u W hG hdep => ⟨_, ?_, rfl⟩
       have e0 := (oE (.int .u64 ((at0 V 7).toNat : Int)) hG hdep 1)
       have e1 := (oE (.int .u64 ((ux (ux (rotr (at0 V 4) 14) (rotr (at0 V 4) 18)) (rotr (at0 V 4) 41)).toNat : Int)) hG hdep 2)
       exact run_up rfl ((oE (.int .u64 ((at0 V 7).toNat : Int)) hG hdep 1)) ((oE (.int .u64 ((ux (ux (rotr (at0 V 4) 14) (rotr (at0 V 4) 18)) (rotr (at0 V 4) 41)).toNat : Int)) hG hdep 2))
      ·exact mvK hs fun _ => HC15.out
      ·refine step_pureO hs Wn rfl fun L u W hG hdep => ⟨_, ?_, rfl⟩
       have e0 := E12.out
       go_simp
       try rw [if_pos (by omega)]
       try rw [show ((5 : Nat) : Int).toNat = 5 by omega]
       try omega
      ·exact step_cell q12 5 hs Wn rfl rfl (fun _ h => load_u64 h) (fun L u W hG hdep => (oE (.pointer (some ⟨q12, 5, none⟩)) hG hdep 5)) (HasFs.cellW hmM12 (by omega) rfl) Na
      ·refine step_pureO hs Wn rfl fun L u W hG hdep => ⟨_, ?_, rfl⟩
       have e0 := (oE (.int .u64 ((at0 V 4).toNat : Int)) hG hdep 4)
       have e1 := (oE (.int .u64 ((at0 V 5).toNat : Int)) hG hdep 6)
       exact run_ua rfl ((oE (.int .u64 ((at0 V 4).toNat : Int)) hG hdep 4)) ((oE (.int .u64 ((at0 V 5).toNat : Int)) hG hdep 6))
      ·exact mvK hs fun _ => HC15.out
      ·refine step_pureO hs Wn rfl fun L u W hG hdep => ⟨_, ?_, rfl⟩
       exact run_un rfl ((oE (.int .u64 ((at0 V 4).toNat : Int)) hG hdep 8))
      ·refine step_pureO hs Wn rfl fun L u W hG hdep => ⟨_, ?_, rfl⟩
       have e0 := E12.out
       go_simp
       try rw [if_pos (by omega)]
       try rw [show ((6 : Nat) : Int).toNat = 6 by omega]
       try omega
      ·exact step_cell q12 6 hs Wn rfl rfl (fun _ h => load_u64 h) (fun L u W hG hdep => (oE (.pointer (some ⟨q12, 6, none⟩)) hG hdep 10)) (HasFs.cellW hmM12 (by omega) rfl) Na
      ·refine step_pureO hs Wn rfl fun L u W hG hdep => ⟨_, ?_, rfl⟩
       have e0 := (oE (.int .u64 ((un (at0 V 4)).toNat : Int)) hG hdep 9)
       have e1 := (oE (.int .u64 ((at0 V 6).toNat : Int)) hG hdep 11)
       exact run_ua rfl ((oE (.int .u64 ((un (at0 V 4)).toNat : Int)) hG hdep 9)) ((oE (.int .u64 ((at0 V 6).toNat : Int)) hG hdep 11))
      ·refine step_pureO hs Wn rfl fun L u W hG hdep => ⟨_, ?_, rfl⟩
       have e0 := (oE (.int .u64 ((ua (at0 V 4) (at0 V 5)).toNat : Int)) hG hdep 7)
       have e1 := (oE (.int .u64 ((ua (un (at0 V 4)) (at0 V 6)).toNat : Int)) hG hdep 12)
       exact run_ux rfl ((oE (.int .u64 ((ua (at0 V 4) (at0 V 5)).toNat : Int)) hG hdep 7)) ((oE (.int .u64 ((ua (un (at0 V 4)) (at0 V 6)).toNat : Int)) hG hdep 12))
      ·refine step_pureO hs Wn rfl fun L u W hG hdep => ⟨_, ?_, rfl⟩
       have e0 := (oE (.int .u64 ((up (at0 V 7) (ux (ux (rotr (at0 V 4) 14) (rotr (at0 V 4) 18)) (rotr (at0 V 4) 41))).toNat : Int)) hG hdep 3)
       have e1 := (oE (.int .u64 ((ux (ua (at0 V 4) (at0 V 5)) (ua (un (at0 V 4)) (at0 V 6))).toNat : Int)) hG hdep 13)
       exact run_up rfl ((oE (.int .u64 ((up (at0 V 7) (ux (ux (rotr (at0 V 4) 14) (rotr (at0 V 4) 18)) (rotr (at0 V 4) 41))).toNat : Int)) hG hdep 3)) ((oE (.int .u64 ((ux (ua (at0 V 4) (at0 V 5)) (ua (un (at0 V 4)) (at0 V 6))).toNat : Int)) hG hdep 13))
      ·exact mvK hs fun _ => rfl
      ·refine step_pureO hs Wn rfl fun L u W hG hdep => ⟨_, ?_, rfl⟩
       have e0 := E6.out
       have e1 := (oE (.int .i64 (t : Int)) hG hdep 15)
       have hltx := HLT.out
       go_simp
       try rw [if_pos (by omega)]
       try rw [show ((t : Nat) : Int).toNat = t by omega]
       try omega
      ·exact step_cell q6 t hs Wn rfl rfl (fun _ h => load_u64 h) (fun L u W hG hdep => (oE (.pointer (some ⟨q6, t, none⟩)) hG hdep 16)) (HasFs.cellW hmM6 HLT.out rfl) Na
      ·refine step_pureO hs Wn rfl fun L u W hG hdep => ⟨_, ?_, rfl⟩
       have e0 := (oE (.int .u64 ((up (up (at0 V 7) (ux (ux (rotr (at0 V 4) 14) (rotr (at0 V 4) 18)) (rotr (at0 V 4) 41))) (ux (ua (at0 V 4) (at0 V 5)) (ua (un (at0 V 4)) (at0 V 6)))).toNat : Int)) hG hdep 14)
       have e1 := (oE (.int .u64 ((at0 kTab t).toNat : Int)) hG hdep 17)
       exact run_up rfl ((oE (.int .u64 ((up (up (at0 V 7) (ux (ux (rotr (at0 V 4) 14) (rotr (at0 V 4) 18)) (rotr (at0 V 4) 41))) (ux (ua (at0 V 4) (at0 V 5)) (ua (un (at0 V 4)) (at0 V 6)))).toNat : Int)) hG hdep 14)) ((oE (.int .u64 ((at0 kTab t).toNat : Int)) hG hdep 17))
      ·exact mvK hs fun _ => rfl
      ·refine step_pureO hs Wn rfl fun L u W hG hdep => ⟨_, ?_, rfl⟩
       have e0 := E5.out
       have e1 := (oE (.int .i64 (t : Int)) hG hdep 19)
       have hltx := HLT.out
       go_simp
       try rw [if_pos (by omega)]
       try rw [show ((t : Nat) : Int).toNat = t by omega]
       try omega
      ·exact step_cell q5 t hs Wn rfl rfl (fun _ h => load_u64 h) (fun L u W hG hdep => (oE (.pointer (some ⟨q5, t, none⟩)) hG hdep 20)) (HasFs.cellW hmM5 HLT.out rfl) Na
      ·refine step_pureO hs Wn rfl fun L u W hG hdep => ⟨_, ?_, rfl⟩
       have e0 := (oE (.int .u64 ((up (up (up (at0 V 7) (ux (ux (rotr (at0 V 4) 14) (rotr (at0 V 4) 18)) (rotr (at0 V 4) 41))) (ux (ua (at0 V 4) (at0 V 5)) (ua (un (at0 V 4)) (at0 V 6)))) (at0 kTab t)).toNat : Int)) hG hdep 18)
       have e1 := (oE (.int .u64 ((at0 Wd t).toNat : Int)) hG hdep 21)
       exact run_up rfl ((oE (.int .u64 ((up (up (up (at0 V 7) (ux (ux (rotr (at0 V 4) 14) (rotr (at0 V 4) 18)) (rotr (at0 V 4) 41))) (ux (ua (at0 V 4) (at0 V 5)) (ua (un (at0 V 4)) (at0 V 6)))) (at0 kTab t)).toNat : Int)) hG hdep 18)) ((oE (.int .u64 ((at0 Wd t).toNat : Int)) hG hdep 21))
      ·exact mvO 22 hs
     intro L19 u19z W19z hall hJ hG
     have hb := hJ.all rfl
     have hbel := Below.call hbel hb
     have hmM2 := hmM2.later hb
     have hmM5 := hmM5.later hb
     have hmM6 := hmM6.later hb
     have hmM12 := hmM12.later hb
     have htM2 := there_later htM2 hb
     have htM4 := there_later htM4 hb
     have htM5 := there_later htM5 hb
     have htM6 := there_later htM6 hb
     have htM12 := there_later htM12 hb
     have HC17 := oC (.int .u64 ((up (up (up (up (at0 V 7) (ux (ux (rotr (at0 V 4) 14) (rotr (at0 V 4) 18)) (rotr (at0 V 4) 41))) (ux (ua (at0 V 4) (at0 V 5)) (ua (un (at0 V 4)) (at0 V 6)))) (at0 kTab t)) (at0 Wd t)).toNat : Int)) hG 23
     have hbel0 := hbel
     clear hJ hG hall hb
     go_upto_region 20 with fail
     refine rgT [(18, 8), (94, 0), (0, 1), (0, 2), (0, 3), (0, 4), (0, 5), (0, 6), (0, 7)] [.oth (fun v => v = .int .u64 ((at0 V 0).toNat : Int)), .oth (fun v => v = .int .u64 ((rotr (at0 V 0) 28).toNat : Int)), .oth (fun v => v = .int .u64 ((at0 V 0).toNat : Int)), .oth (fun v => v = .int .u64 ((rotr (at0 V 0) 34).toNat : Int)), .oth (fun v => v = .int .u64 ((ux (rotr (at0 V 0) 28) (rotr (at0 V 0) 34)).toNat : Int)), .oth (fun v => v = .int .u64 ((at0 V 0).toNat : Int)), .oth (fun v => v = .int .u64 ((rotr (at0 V 0) 39).toNat : Int)), .oth (fun v => v = .int .u64 ((ux (ux (rotr (at0 V 0) 28) (rotr (at0 V 0) 34)) (rotr (at0 V 0) 39)).toNat : Int)), .oth (fun v => v = .int .u64 ((ux (ux (rotr (at0 V 0) 28) (rotr (at0 V 0) 34)) (rotr (at0 V 0) 39)).toNat : Int))] ?_ ?_
     ·intro hs
      refine ⟨?_, ?_, ?_, ?_, ?_, ?_, ?_, ?_, ?_, trivial⟩
      ·exact mvK hs fun _ => HC14.out
      ·refine step_callO hs Wn rfl fun L u W hJ hG hL hdep K hK => ?_
       have x0 := (oE (.int .u64 ((at0 V 0).toNat : Int)) hG hdep 0)
       go_simp
       go_at_call 107
       (with_reducible refine (rotB_28 (x := at0 V 0) _).mono ?_); rintro e w1 ⟨rfl, hb⟩
       have hk := hK.out _ _ rfl hb
       simp only [x0] at hk
       exact hk
      ·exact mvK hs fun _ => HC14.out
      ·refine step_callO hs Wn rfl fun L u W hJ hG hL hdep K hK => ?_
       have x0 := (oE (.int .u64 ((at0 V 0).toNat : Int)) hG hdep 2)
       go_simp
       go_at_call 107
       (with_reducible refine (rotB_34 (x := at0 V 0) _).mono ?_); rintro e w1 ⟨rfl, hb⟩
       have hk := hK.out _ _ rfl hb
       simp only [x0] at hk
       exact hk
      ·refine step_pureO hs Wn rfl fun L u W hG hdep => ⟨_, ?_, rfl⟩
       have e0 := (oE (.int .u64 ((rotr (at0 V 0) 28).toNat : Int)) hG hdep 1)
       have e1 := (oE (.int .u64 ((rotr (at0 V 0) 34).toNat : Int)) hG hdep 3)
       exact run_ux rfl ((oE (.int .u64 ((rotr (at0 V 0) 28).toNat : Int)) hG hdep 1)) ((oE (.int .u64 ((rotr (at0 V 0) 34).toNat : Int)) hG hdep 3))
      ·exact mvK hs fun _ => HC14.out
      ·refine step_callO hs Wn rfl fun L u W hJ hG hL hdep K hK => ?_
       have x0 := (oE (.int .u64 ((at0 V 0).toNat : Int)) hG hdep 5)
       go_simp
       go_at_call 107
       (with_reducible refine (rotB_39 (x := at0 V 0) _).mono ?_); rintro e w1 ⟨rfl, hb⟩
       have hk := hK.out _ _ rfl hb
       simp only [x0] at hk
       exact hk
      ·refine step_pureO hs Wn rfl fun L u W hG hdep => ⟨_, ?_, rfl⟩
       have e0 := (oE (.int .u64 ((ux (rotr (at0 V 0) 28) (rotr (at0 V 0) 34)).toNat : Int)) hG hdep 4)
       have e1 := (oE (.int .u64 ((rotr (at0 V 0) 39).toNat : Int)) hG hdep 6)
       exact run_ux rfl ((oE (.int .u64 ((ux (rotr (at0 V 0) 28) (rotr (at0 V 0) 34)).toNat : Int)) hG hdep 4)) ((oE (.int .u64 ((rotr (at0 V 0) 39).toNat : Int)) hG hdep 6))
      ·exact mvO 7 hs
     intro L20 u20z W20z hall hJ hG
     have hb := hJ.all rfl
     have hbel := Below.call hbel hb
     have hmM2 := hmM2.later hb
     have hmM5 := hmM5.later hb
     have hmM6 := hmM6.later hb
     have hmM12 := hmM12.later hb
     have htM2 := there_later htM2 hb
     have htM4 := there_later htM4 hb
     have htM5 := there_later htM5 hb
     have htM6 := there_later htM6 hb
     have htM12 := there_later htM12 hb
     have HC18 := oC (.int .u64 ((ux (ux (rotr (at0 V 0) 28) (rotr (at0 V 0) 34)) (rotr (at0 V 0) 39)).toNat : Int)) hG 8
     have hbel0 := hbel
     clear hJ hG hall hb
     go_upto_region 21 with fail
     refine rgT [(19, 17), (101, 0), (0, 1), (0, 2), (0, 3), (0, 4), (0, 5), (0, 6), (0, 7), (0, 8), (0, 9), (0, 10), (0, 11), (0, 12), (0, 13), (0, 14), (0, 15), (0, 16)] [.oth (fun v => v = .int .u64 ((ux (ux (rotr (at0 V 0) 28) (rotr (at0 V 0) 34)) (rotr (at0 V 0) 39)).toNat : Int)), .oth (fun v => v = .int .u64 ((at0 V 0).toNat : Int)), .oth (fun v => v = .pointer (some ⟨q12, 1, none⟩)), .oth (fun v => v = .int .u64 ((at0 V 1).toNat : Int)), .oth (fun v => v = .int .u64 ((ua (at0 V 0) (at0 V 1)).toNat : Int)), .oth (fun v => v = .int .u64 ((at0 V 0).toNat : Int)), .oth (fun v => v = .pointer (some ⟨q12, 2, none⟩)), .oth (fun v => v = .int .u64 ((at0 V 2).toNat : Int)), .oth (fun v => v = .int .u64 ((ua (at0 V 0) (at0 V 2)).toNat : Int)), .oth (fun v => v = .int .u64 ((ux (ua (at0 V 0) (at0 V 1)) (ua (at0 V 0) (at0 V 2))).toNat : Int)), .oth (fun v => v = .pointer (some ⟨q12, 1, none⟩)), .oth (fun v => v = .int .u64 ((at0 V 1).toNat : Int)), .oth (fun v => v = .pointer (some ⟨q12, 2, none⟩)), .oth (fun v => v = .int .u64 ((at0 V 2).toNat : Int)), .oth (fun v => v = .int .u64 ((ua (at0 V 1) (at0 V 2)).toNat : Int)), .oth (fun v => v = .int .u64 ((ux (ux (ua (at0 V 0) (at0 V 1)) (ua (at0 V 0) (at0 V 2))) (ua (at0 V 1) (at0 V 2))).toNat : Int)), .oth (fun v => v = .int .u64 ((up (ux (ux (rotr (at0 V 0) 28) (rotr (at0 V 0) 34)) (rotr (at0 V 0) 39)) (ux (ux (ua (at0 V 0) (at0 V 1)) (ua (at0 V 0) (at0 V 2))) (ua (at0 V 1) (at0 V 2)))).toNat : Int)), .oth (fun v => v = .int .u64 ((up (ux (ux (rotr (at0 V 0) 28) (rotr (at0 V 0) 34)) (rotr (at0 V 0) 39)) (ux (ux (ua (at0 V 0) (at0 V 1)) (ua (at0 V 0) (at0 V 2))) (ua (at0 V 1) (at0 V 2)))).toNat : Int))] ?_ ?_
     ·intro hs
      refine ⟨?_, ?_, ?_, ?_, ?_, ?_, ?_, ?_, ?_, ?_, ?_, ?_, ?_, ?_, ?_, ?_, ?_, ?_, trivial⟩
      ·exact mvK hs fun _ => HC18.out
      ·exact mvK hs fun _ => HC14.out
      ·refine step_pureO hs Wn rfl fun L u W hG hdep => ⟨_, ?_, rfl⟩
       have e0 := E12.out
       go_simp
       try rw [if_pos (by omega)]
       try rw [show ((1 : Nat) : Int).toNat = 1 by omega]
       try omega
      ·exact step_cell q12 1 hs Wn rfl rfl (fun _ h => load_u64 h) (fun L u W hG hdep => (oE (.pointer (some ⟨q12, 1, none⟩)) hG hdep 2)) (HasFs.cellW hmM12 (by omega) rfl) Na
      ·refine step_pureO hs Wn rfl fun L u W hG hdep => ⟨_, ?_, rfl⟩
       have e0 := (oE (.int .u64 ((at0 V 0).toNat : Int)) hG hdep 1)
       have e1 := (oE (.int .u64 ((at0 V 1).toNat : Int)) hG hdep 3)
       exact run_ua rfl ((oE (.int .u64 ((at0 V 0).toNat : Int)) hG hdep 1)) ((oE (.int .u64 ((at0 V 1).toNat : Int)) hG hdep 3))
      ·exact mvK hs fun _ => HC14.out
      ·refine step_pureO hs Wn rfl fun L u W hG hdep => ⟨_, ?_, rfl⟩
       have e0 := E12.out
       go_simp
       try rw [if_pos (by omega)]
       try rw [show ((2 : Nat) : Int).toNat = 2 by omega]
       try omega
      ·exact step_cell q12 2 hs Wn rfl rfl (fun _ h => load_u64 h) (fun L u W hG hdep => (oE (.pointer (some ⟨q12, 2, none⟩)) hG hdep 6)) (HasFs.cellW hmM12 (by omega) rfl) Na
      ·refine step_pureO hs Wn rfl fun L u W hG hdep => ⟨_, ?_, rfl⟩
       have e0 := (oE (.int .u64 ((at0 V 0).toNat : Int)) hG hdep 5)
       have e1 := (oE (.int .u64 ((at0 V 2).toNat : Int)) hG hdep 7)
       exact run_ua rfl ((oE (.int .u64 ((at0 V 0).toNat : Int)) hG hdep 5)) ((oE (.int .u64 ((at0 V 2).toNat : Int)) hG hdep 7))
      ·refine step_pureO hs Wn rfl fun L u W hG hdep => ⟨_, ?_, rfl⟩
       have e0 := (oE (.int .u64 ((ua (at0 V 0) (at0 V 1)).toNat : Int)) hG hdep 4)
       have e1 := (oE (.int .u64 ((ua (at0 V 0) (at0 V 2)).toNat : Int)) hG hdep 8)
       exact run_ux rfl ((oE (.int .u64 ((ua (at0 V 0) (at0 V 1)).toNat : Int)) hG hdep 4)) ((oE (.int .u64 ((ua (at0 V 0) (at0 V 2)).toNat : Int)) hG hdep 8))
      ·refine step_pureO hs Wn rfl fun L u W hG hdep => ⟨_, ?_, rfl⟩
       have e0 := E12.out
       go_simp
       try rw [if_pos (by omega)]
       try rw [show ((1 : Nat) : Int).toNat = 1 by omega]
       try omega
      ·exact step_cell q12 1 hs Wn rfl rfl (fun _ h => load_u64 h) (fun L u W hG hdep => (oE (.pointer (some ⟨q12, 1, none⟩)) hG hdep 10)) (HasFs.cellW hmM12 (by omega) rfl) Na
      ·refine step_pureO hs Wn rfl fun L u W hG hdep => ⟨_, ?_, rfl⟩
       have e0 := E12.out
       go_simp
       try rw [if_pos (by omega)]
       try rw [show ((2 : Nat) : Int).toNat = 2 by omega]
       try omega
      ·exact step_cell q12 2 hs Wn rfl rfl (fun _ h => load_u64 h) (fun L u W hG hdep => (oE (.pointer (some ⟨q12, 2, none⟩)) hG hdep 12)) (HasFs.cellW hmM12 (by omega) rfl) Na
      ·refine step_pureO hs Wn rfl fun L u W hG hdep => ⟨_, ?_, rfl⟩
       have e0 := (oE (.int .u64 ((at0 V 1).toNat : Int)) hG hdep 11)
       have e1 := (oE (.int .u64 ((at0 V 2).toNat : Int)) hG hdep 13)
       exact run_ua rfl ((oE (.int .u64 ((at0 V 1).toNat : Int)) hG hdep 11)) ((oE (.int .u64 ((at0 V 2).toNat : Int)) hG hdep 13))
      ·refine step_pureO hs Wn rfl fun L u W hG hdep => ⟨_, ?_, rfl⟩
       have e0 := (oE (.int .u64 ((ux (ua (at0 V 0) (at0 V 1)) (ua (at0 V 0) (at0 V 2))).toNat : Int)) hG hdep 9)
       have e1 := (oE (.int .u64 ((ua (at0 V 1) (at0 V 2)).toNat : Int)) hG hdep 14)
       exact run_ux rfl ((oE (.int .u64 ((ux (ua (at0 V 0) (at0 V 1)) (ua (at0 V 0) (at0 V 2))).toNat : Int)) hG hdep 9)) ((oE (.int .u64 ((ua (at0 V 1) (at0 V 2)).toNat : Int)) hG hdep 14))
      ·refine step_pureO hs Wn rfl fun L u W hG hdep => ⟨_, ?_, rfl⟩
       have e0 := (oE (.int .u64 ((ux (ux (rotr (at0 V 0) 28) (rotr (at0 V 0) 34)) (rotr (at0 V 0) 39)).toNat : Int)) hG hdep 0)
       have e1 := (oE (.int .u64 ((ux (ux (ua (at0 V 0) (at0 V 1)) (ua (at0 V 0) (at0 V 2))) (ua (at0 V 1) (at0 V 2))).toNat : Int)) hG hdep 15)
       exact run_up rfl ((oE (.int .u64 ((ux (ux (rotr (at0 V 0) 28) (rotr (at0 V 0) 34)) (rotr (at0 V 0) 39)).toNat : Int)) hG hdep 0)) ((oE (.int .u64 ((ux (ux (ua (at0 V 0) (at0 V 1)) (ua (at0 V 0) (at0 V 2))) (ua (at0 V 1) (at0 V 2))).toNat : Int)) hG hdep 15))
      ·exact mvO 16 hs
     intro L21 u21z W21z hall hJ hG
     have hb := hJ.all rfl
     have hbel := Below.call hbel hb
     have hmM2 := hmM2.later hb
     have hmM5 := hmM5.later hb
     have hmM6 := hmM6.later hb
     have hmM12 := hmM12.later hb
     have htM2 := there_later htM2 hb
     have htM4 := there_later htM4 hb
     have htM5 := there_later htM5 hb
     have htM6 := there_later htM6 hb
     have htM12 := there_later htM12 hb
     have HC19 := oC (.int .u64 ((up (ux (ux (rotr (at0 V 0) 28) (rotr (at0 V 0) 34)) (rotr (at0 V 0) 39)) (ux (ux (ua (at0 V 0) (at0 V 1)) (ua (at0 V 0) (at0 V 2))) (ua (at0 V 1) (at0 V 2)))).toNat : Int)) hG 17
     have hbel0 := hbel
     clear hJ hG hall hb
     go_upto_region 22 with fail
     have HNV : Hid ([up (up (up (up (up (at0 V 7) (ux (ux (rotr (at0 V 4) 14) (rotr (at0 V 4) 18)) (rotr (at0 V 4) 41))) (ux (ua (at0 V 4) (at0 V 5)) (ua (un (at0 V 4)) (at0 V 6)))) (at0 kTab t)) (at0 Wd t)) (up (ux (ux (rotr (at0 V 0) 28) (rotr (at0 V 0) 34)) (rotr (at0 V 0) 39)) (ux (ux (ua (at0 V 0) (at0 V 1)) (ua (at0 V 0) (at0 V 2))) (ua (at0 V 1) (at0 V 2)))), at0 V 0, at0 V 1, at0 V 2, up (at0 V 3) (up (up (up (up (at0 V 7) (ux (ux (rotr (at0 V 4) 14) (rotr (at0 V 4) 18)) (rotr (at0 V 4) 41))) (ux (ua (at0 V 4) (at0 V 5)) (ua (un (at0 V 4)) (at0 V 6)))) (at0 kTab t)) (at0 Wd t)), at0 V 4, at0 V 5, at0 V 6] = rL h Wd (t + 1)) := Lib.hid (by rw [rL, ← HV.out]; rfl)
     refine rgT [(138, 0), (0, 1), (0, 2), (0, 3), (0, 4), (0, 5), (0, 6), (0, 7), (0, 8), (0, 9), (0, 10), (0, 11), (0, 12), (0, 13), (0, 14), (0, 15), (0, 16), (0, 17)] [.oth (fun v => v = .int .u64 ((up (up (up (up (at0 V 7) (ux (ux (rotr (at0 V 4) 14) (rotr (at0 V 4) 18)) (rotr (at0 V 4) 41))) (ux (ua (at0 V 4) (at0 V 5)) (ua (un (at0 V 4)) (at0 V 6)))) (at0 kTab t)) (at0 Wd t)).toNat : Int)), .oth (fun v => v = .int .u64 ((up (ux (ux (rotr (at0 V 0) 28) (rotr (at0 V 0) 34)) (rotr (at0 V 0) 39)) (ux (ux (ua (at0 V 0) (at0 V 1)) (ua (at0 V 0) (at0 V 2))) (ua (at0 V 1) (at0 V 2)))).toNat : Int)), .oth (fun v => v = .int .u64 ((up (up (up (up (up (at0 V 7) (ux (ux (rotr (at0 V 4) 14) (rotr (at0 V 4) 18)) (rotr (at0 V 4) 41))) (ux (ua (at0 V 4) (at0 V 5)) (ua (un (at0 V 4)) (at0 V 6)))) (at0 kTab t)) (at0 Wd t)) (up (ux (ux (rotr (at0 V 0) 28) (rotr (at0 V 0) 34)) (rotr (at0 V 0) 39)) (ux (ux (ua (at0 V 0) (at0 V 1)) (ua (at0 V 0) (at0 V 2))) (ua (at0 V 1) (at0 V 2))))).toNat : Int)), .oth (fun v => v = .int .u64 ((at0 V 0).toNat : Int)), .oth (fun v => v = .pointer (some ⟨q12, 1, none⟩)), .oth (fun v => v = .int .u64 ((at0 V 1).toNat : Int)), .oth (fun v => v = .pointer (some ⟨q12, 2, none⟩)), .oth (fun v => v = .int .u64 ((at0 V 2).toNat : Int)), .oth (fun v => v = .pointer (some ⟨q12, 3, none⟩)), .oth (fun v => v = .int .u64 ((at0 V 3).toNat : Int)), .oth (fun v => v = .int .u64 ((up (up (up (up (at0 V 7) (ux (ux (rotr (at0 V 4) 14) (rotr (at0 V 4) 18)) (rotr (at0 V 4) 41))) (ux (ua (at0 V 4) (at0 V 5)) (ua (un (at0 V 4)) (at0 V 6)))) (at0 kTab t)) (at0 Wd t)).toNat : Int)), .oth (fun v => v = .int .u64 ((up (at0 V 3) (up (up (up (up (at0 V 7) (ux (ux (rotr (at0 V 4) 14) (rotr (at0 V 4) 18)) (rotr (at0 V 4) 41))) (ux (ua (at0 V 4) (at0 V 5)) (ua (un (at0 V 4)) (at0 V 6)))) (at0 kTab t)) (at0 Wd t))).toNat : Int)), .oth (fun v => v = .int .u64 ((at0 V 4).toNat : Int)), .oth (fun v => v = .pointer (some ⟨q12, 5, none⟩)), .oth (fun v => v = .int .u64 ((at0 V 5).toNat : Int)), .oth (fun v => v = .pointer (some ⟨q12, 6, none⟩)), .oth (fun v => v = .int .u64 ((at0 V 6).toNat : Int)), .val rW8 [rL h Wd (t + 1)], .sto q12 rW8 [rL h Wd (t + 1)]] ?_ ?_
     ·intro hs
      refine ⟨?_, ?_, ?_, ?_, ?_, ?_, ?_, ?_, ?_, ?_, ?_, ?_, ?_, ?_, ?_, ?_, ?_, ?_, ?_, trivial⟩
      ·exact mvK hs fun _ => HC17.out
      ·exact mvK hs fun _ => HC19.out
      ·refine step_pureO hs Wn rfl fun L u W hG hdep => ⟨_, ?_, rfl⟩
       have e0 := (oE (.int .u64 ((up (up (up (up (at0 V 7) (ux (ux (rotr (at0 V 4) 14) (rotr (at0 V 4) 18)) (rotr (at0 V 4) 41))) (ux (ua (at0 V 4) (at0 V 5)) (ua (un (at0 V 4)) (at0 V 6)))) (at0 kTab t)) (at0 Wd t)).toNat : Int)) hG hdep 0)
       have e1 := (oE (.int .u64 ((up (ux (ux (rotr (at0 V 0) 28) (rotr (at0 V 0) 34)) (rotr (at0 V 0) 39)) (ux (ux (ua (at0 V 0) (at0 V 1)) (ua (at0 V 0) (at0 V 2))) (ua (at0 V 1) (at0 V 2)))).toNat : Int)) hG hdep 1)
       exact run_up rfl ((oE (.int .u64 ((up (up (up (up (at0 V 7) (ux (ux (rotr (at0 V 4) 14) (rotr (at0 V 4) 18)) (rotr (at0 V 4) 41))) (ux (ua (at0 V 4) (at0 V 5)) (ua (un (at0 V 4)) (at0 V 6)))) (at0 kTab t)) (at0 Wd t)).toNat : Int)) hG hdep 0)) ((oE (.int .u64 ((up (ux (ux (rotr (at0 V 0) 28) (rotr (at0 V 0) 34)) (rotr (at0 V 0) 39)) (ux (ux (ua (at0 V 0) (at0 V 1)) (ua (at0 V 0) (at0 V 2))) (ua (at0 V 1) (at0 V 2)))).toNat : Int)) hG hdep 1))
      ·exact mvK hs fun _ => HC14.out
      ·refine step_pureO hs Wn rfl fun L u W hG hdep => ⟨_, ?_, rfl⟩
       have e0 := E12.out
       go_simp
       try rw [if_pos (by omega)]
       try rw [show ((1 : Nat) : Int).toNat = 1 by omega]
       try omega
      ·exact step_cell q12 1 hs Wn rfl rfl (fun _ h => load_u64 h) (fun L u W hG hdep => (oE (.pointer (some ⟨q12, 1, none⟩)) hG hdep 4)) (HasFs.cellW hmM12 (by omega) rfl) Na
      ·refine step_pureO hs Wn rfl fun L u W hG hdep => ⟨_, ?_, rfl⟩
       have e0 := E12.out
       go_simp
       try rw [if_pos (by omega)]
       try rw [show ((2 : Nat) : Int).toNat = 2 by omega]
       try omega
      ·exact step_cell q12 2 hs Wn rfl rfl (fun _ h => load_u64 h) (fun L u W hG hdep => (oE (.pointer (some ⟨q12, 2, none⟩)) hG hdep 6)) (HasFs.cellW hmM12 (by omega) rfl) Na
      ·refine step_pureO hs Wn rfl fun L u W hG hdep => ⟨_, ?_, rfl⟩
       have e0 := E12.out
       go_simp
       try rw [if_pos (by omega)]
       try rw [show ((3 : Nat) : Int).toNat = 3 by omega]
       try omega
      ·exact step_cell q12 3 hs Wn rfl rfl (fun _ h => load_u64 h) (fun L u W hG hdep => (oE (.pointer (some ⟨q12, 3, none⟩)) hG hdep 8)) (HasFs.cellW hmM12 (by omega) rfl) Na
      ·exact mvK hs fun _ => HC17.out
      ·refine step_pureO hs Wn rfl fun L u W hG hdep => ⟨_, ?_, rfl⟩
       have e0 := (oE (.int .u64 ((at0 V 3).toNat : Int)) hG hdep 9)
       have e1 := (oE (.int .u64 ((up (up (up (up (at0 V 7) (ux (ux (rotr (at0 V 4) 14) (rotr (at0 V 4) 18)) (rotr (at0 V 4) 41))) (ux (ua (at0 V 4) (at0 V 5)) (ua (un (at0 V 4)) (at0 V 6)))) (at0 kTab t)) (at0 Wd t)).toNat : Int)) hG hdep 10)
       exact run_up rfl ((oE (.int .u64 ((at0 V 3).toNat : Int)) hG hdep 9)) ((oE (.int .u64 ((up (up (up (up (at0 V 7) (ux (ux (rotr (at0 V 4) 14) (rotr (at0 V 4) 18)) (rotr (at0 V 4) 41))) (ux (ua (at0 V 4) (at0 V 5)) (ua (un (at0 V 4)) (at0 V 6)))) (at0 kTab t)) (at0 Wd t)).toNat : Int)) hG hdep 10))
      ·exact mvK hs fun _ => HC15.out
      ·refine step_pureO hs Wn rfl fun L u W hG hdep => ⟨_, ?_, rfl⟩
       have e0 := E12.out
       go_simp
       try rw [if_pos (by omega)]
       try rw [show ((5 : Nat) : Int).toNat = 5 by omega]
       try omega
      ·exact step_cell q12 5 hs Wn rfl rfl (fun _ h => load_u64 h) (fun L u W hG hdep => (oE (.pointer (some ⟨q12, 5, none⟩)) hG hdep 13)) (HasFs.cellW hmM12 (by omega) rfl) Na
      ·refine step_pureO hs Wn rfl fun L u W hG hdep => ⟨_, ?_, rfl⟩
       have e0 := E12.out
       go_simp
       try rw [if_pos (by omega)]
       try rw [show ((6 : Nat) : Int).toNat = 6 by omega]
       try omega
      ·exact step_cell q12 6 hs Wn rfl rfl (fun _ h => load_u64 h) (fun L u W hG hdep => (oE (.pointer (some ⟨q12, 6, none⟩)) hG hdep 15)) (HasFs.cellW hmM12 (by omega) rfl) Na
      ·refine step_pure hs Wn rfl fun L u W hG hdep => ?_
       rw [← HNV.out]
       exact run_build8W rfl ((oE (.int .u64 ((up (up (up (up (up (at0 V 7) (ux (ux (rotr (at0 V 4) 14) (rotr (at0 V 4) 18)) (rotr (at0 V 4) 41))) (ux (ua (at0 V 4) (at0 V 5)) (ua (un (at0 V 4)) (at0 V 6)))) (at0 kTab t)) (at0 Wd t)) (up (ux (ux (rotr (at0 V 0) 28) (rotr (at0 V 0) 34)) (rotr (at0 V 0) 39)) (ux (ux (ua (at0 V 0) (at0 V 1)) (ua (at0 V 0) (at0 V 2))) (ua (at0 V 1) (at0 V 2))))).toNat : Int)) hG hdep 2)) ((oE (.int .u64 ((at0 V 0).toNat : Int)) hG hdep 3)) ((oE (.int .u64 ((at0 V 1).toNat : Int)) hG hdep 5)) ((oE (.int .u64 ((at0 V 2).toNat : Int)) hG hdep 7)) ((oE (.int .u64 ((up (at0 V 3) (up (up (up (up (at0 V 7) (ux (ux (rotr (at0 V 4) 14) (rotr (at0 V 4) 18)) (rotr (at0 V 4) 41))) (ux (ua (at0 V 4) (at0 V 5)) (ua (un (at0 V 4)) (at0 V 6)))) (at0 kTab t)) (at0 Wd t))).toNat : Int)) hG hdep 11)) ((oE (.int .u64 ((at0 V 4).toNat : Int)) hG hdep 12)) ((oE (.int .u64 ((at0 V 5).toNat : Int)) hG hdep 14)) ((oE (.int .u64 ((at0 V 6).toNat : Int)) hG hdep 16))
      ·refine step_storeO q12 8 hs Wn rfl rfl (by kernel_rfl) (fun k hk => ?_) (fun _ => E12.out) (there_lt htM12 (by omega)) htM12 (gO 17) tya8 rfl
       rcases k with _ | _ | _ | _ | _ | _ | _ | _ | _ | _ | _ | _ | _ | _ | _ | _ | _ | _ | _ | k
       all_goals first | (exact absurd rfl hk) | (intro e; cases e; done)
     intro L22 u22z W22z hall hJ hG
     have hb := hJ.beN hbel
     have hbel := hbel.trans hb
     have hmM2 := kC hmM2 hJ HD12_q2.out
     have hmM5 := kC hmM5 hJ HD12_q5.out
     have hmM6 := kC hmM6 hJ HD12_q6.out
     have htM2 := tC htM2 hJ HD12_q2.out
     have htM4 := tC htM4 hJ HD12_q4.out
     have htM5 := tC htM5 hJ HD12_q5.out
     have htM6 := tC htM6 hJ HD12_q6.out
     obtain ⟨_, hs22_18t, hs22_18⟩ := oT 8 rW8 [rL h Wd (t + 1)] hG 18
     have hbel0 := hbel
     clear hJ hG hall hb
     have hlt := HLT.out
     go_wp2_with fail
     go_roundw
     case rel => exact ⟨t + 1, by omega, by go_num, hmM2, htM2, htM4, hmM5, htM5, hmM6, htM6, hs22_18, hs22_18t, hbel⟩
     case measure => simp [intOf]; omega
    ·obtain rfl : t = 80 := by omega
     have hd1 : decide (((80 : Nat) : Int) < 80) = false := by decide
     obtain ⟨V, hV⟩ : ∃ V, V = rL h Wd 80 := ⟨_, rfl⟩
     rw [← hV] at hmM12
     have HV := Lib.hid hV
     clear hV ht
     have HH := Lib.hid hmM2.lenW
     go_wp2_with fail
     go_loopw [157] (fun sk wr => ∃ i : Nat, i ≤ 8 ∧ sk = .int .i64 (i : Int) ∧ HasFs rW8 wr q2 0 [hP h V i] ∧ wr.there q2 0 8 ∧ wr.there q4 0 8 ∧ HasFs rW8 wr q12 0 [V] ∧ wr.there q12 0 8 ∧ Below w.heap.size w wr) (fun x _ => 8 - (intOf x).toNat)
     case atStart => exact ⟨0, by omega, rfl, (by rw [hP_zero _ HH.out]; exact hmM2), htM2, htM4, hmM12, htM12, hbel⟩
     case round =>
      obtain ⟨i, hi, rfl, hnL2, hsL2, hsL4, hnL12, hsL12, hbel'⟩ := hrel
      clear hmM12 hmM2 hmM5 hmM6 htM12 htM2 htM4 htM5 htM6 hbel hbel0
      have hbel := hbel'
      have hbel0 := hbel'
      by_cases hlt : i < 8
      ·have hd1' : decide ((i : Int) < 8) = true := decide_eq_true (by omega)
       have HLT := Lib.hid hlt
       clear hlt
       go_upto_region 27 with fail
       clear hd1'
       refine rgM [(160, 0), (0, 1), (0, 2), (0, 3), (0, 4), (0, 5), (0, 6), (0, 7)] [.oth (fun v => v = .int .i64 (i : Int)), .oth (fun v => v = .pointer (some ⟨q2, i, none⟩)), .oth (fun v => v = .int .u64 ((at0 h i).toNat : Int)), .oth (fun v => v = .int .i64 (i : Int)), .oth (fun v => v = .pointer (some ⟨q12, i, none⟩)), .oth (fun v => v = .int .u64 ((at0 V i).toNat : Int)), .oth (fun v => v = .int .u64 ((up (at0 h i) (at0 V i)).toNat : Int)), .oth (fun v => v = .pointer (some ⟨q2, i, none⟩)), .cst q2 i (.int .u64 ((up (at0 h i) (at0 V i)).toNat : Int))] ?_ ?_
       ·intro hs
        refine ⟨?_, ?_, ?_, ?_, ?_, ?_, ?_, ?_, ?_, trivial⟩
        ·exact mvK hs fun _ => rfl
        ·refine step_pureO hs Wn rfl fun L u W hG hdep => ⟨_, ?_, rfl⟩
         have e0 := E2.out
         have e1 := (oE (.int .i64 (i : Int)) hG hdep 0)
         have hltx := HLT.out
         go_simp
         try rw [if_pos (by omega)]
         try rw [show ((i : Nat) : Int).toNat = i by omega]
         try omega
        ·exact step_cell q2 i hs Wn rfl rfl (fun _ h => load_u64 h) (fun L u W hG hdep => (oE (.pointer (some ⟨q2, i, none⟩)) hG hdep 1)) (HasFs.cellW hnL2 HLT.out (hP_at HLT.out)) Na
        ·exact mvK hs fun _ => rfl
        ·refine step_pureO hs Wn rfl fun L u W hG hdep => ⟨_, ?_, rfl⟩
         have e0 := E12.out
         have e1 := (oE (.int .i64 (i : Int)) hG hdep 3)
         have hltx := HLT.out
         go_simp
         try rw [if_pos (by omega)]
         try rw [show ((i : Nat) : Int).toNat = i by omega]
         try omega
        ·exact step_cell q12 i hs Wn rfl rfl (fun _ h => load_u64 h) (fun L u W hG hdep => (oE (.pointer (some ⟨q12, i, none⟩)) hG hdep 4)) (HasFs.cellW hnL12 HLT.out rfl) (apN HD12_q2.out)
        ·refine step_pureO hs Wn rfl fun L u W hG hdep => ⟨_, ?_, rfl⟩
         have e0 := (oE (.int .u64 ((at0 h i).toNat : Int)) hG hdep 2)
         have e1 := (oE (.int .u64 ((at0 V i).toNat : Int)) hG hdep 5)
         exact run_up rfl ((oE (.int .u64 ((at0 h i).toNat : Int)) hG hdep 2)) ((oE (.int .u64 ((at0 V i).toNat : Int)) hG hdep 5))
        ·refine step_pureO hs Wn rfl fun L u W hG hdep => ⟨_, ?_, rfl⟩
         have e0 := E2.out
         have e1 := (oE (.int .i64 (i : Int)) hG hdep 0)
         have hltx := HLT.out
         go_simp
         try rw [if_pos (by omega)]
         try rw [show ((i : Nat) : Int).toNat = i by omega]
         try omega
        ·refine step_cst (old := .int .u64 ((at0 h i).toNat : Int)) q2 i hs Wn rfl rfl (by kernel_rfl) (fun k hk => ?_) (fun _ h1 h2 => store_u64 h1 h2) (fun L u W hG hdep => (oE (.pointer (some ⟨q2, i, none⟩)) hG hdep 7)) (fun L u W hG hdep => (oE (.int .u64 ((up (at0 h i) (at0 V i)).toNat : Int)) hG hdep 6)) (HasFs.cellW hnL2 HLT.out (hP_at HLT.out)) (there_frozen hsL2 HLT.out)
         rcases k with _ | _ | _ | _ | _ | _ | _ | _ | _ | k
         all_goals first | (exact absurd rfl hk) | (intro e; cases e; done)
       intro L27 u27z W27z hall hJ hG
       have hb := hJ.beN hbel
       have hbel := hbel.trans hb
       have hnL2 : HasFs rW8 W27z q2 0 [hP h V (i + 1)] := by
        have z := (hnL2.setW hsL2 HLT.out (up (at0 h i) (at0 V i))).blk (show _ ∧ W27z.heap[q2]? = (wr.setCell ⟨q2, i, none⟩ (.int .u64 ((up (at0 h i) (at0 V i)).toNat : Int))).heap[q2]? from hG 8 (by simp)).2
        rw [hP_set] at z
        exact z
       have hnL12 := kB hnL12 hJ HD12_q2.out
       have hsL2 := there_blk (there_set (b := q2) (k := i) (v := .int .u64 ((up (at0 h i) (at0 V i)).toNat : Int)) hsL2) (show _ ∧ W27z.heap[q2]? = (wr.setCell ⟨q2, i, none⟩ (.int .u64 ((up (at0 h i) (at0 V i)).toNat : Int))).heap[q2]? from hG 8 (by simp)).2
       have hsL4 := tB hsL4 hJ HN2_4.out
       have hsL12 := tB hsL12 hJ HD12_q2.out
       have hbel0 := hbel
       clear hJ hG hall hb
       have hlt := HLT.out
       go_wp2_with fail
       go_roundw
       case rel => exact ⟨i + 1, by omega, by go_num, hnL2, hsL2, hsL4, hnL12, hsL12, hbel⟩
       case measure => simp [intOf]; omega
      ·obtain rfl : i = 8 := by omega
       have hd1' : decide (((8 : Nat) : Int) < 8) = false := by decide
       have HT : Hid (hP h V 8 = turn h (words l)) := Lib.hid (by rw [hP_full, HV.out, HWD.out]; rfl)
       clear hi
       rw [HT.out] at hnL2
       go_upto_region 29 with fail
       clear hd1'
       refine rgT [(169, 0)] [.val rW8 [turn h (words l)], .sto q4 rW8 [turn h (words l)]] ?_ ?_
       ·intro hs
        refine ⟨?_, ?_, trivial⟩
        ·exact step_load q2 0 hs Wn rfl rfl tya8 (fun _ => E2.out) hnL2.lt hnL2 (apN (Ne.symm HN2_4.out))
        ·refine step_storeO q4 8 hs Wn rfl rfl (by kernel_rfl) (fun k hk => ?_) (fun _ => E4.out) (there_lt hsL4 (by omega)) hsL4 (gO 0) tya8 rfl
         rcases k with _ | _ | k
         all_goals first | (exact absurd rfl hk) | (intro e; cases e; done)
       intro L29 u29z W29z hall hJ hG
       have hb := hJ.beN hbel
       have hbel := hbel.trans hb
       have hnL2 := kC hnL2 hJ HN2_4.out
       have hnL12 := kB hnL12 hJ HD12_q4.out
       have hsL2 := tC hsL2 hJ HN2_4.out
       have hsL12 := tB hsL12 hJ HD12_q4.out
       obtain ⟨_, hs29_1t, hs29_1⟩ := oT 8 rW8 [turn h (words l)] hG 1
       have hbel0 := hbel
       clear hJ hG hall hb
       go_wp2
       exact ret_cell1 (R := rW8) Tryz.results53 (by exact E4.out) hs29_1 tya8 rfl (fun r hr => ⟨r, rfl, hr, hbel⟩)
theorem padB_len (l : List UInt8) : (padB l).length = l.length + 1 + (240 - (l.length + 1) % 128) % 128 + 8 + 8 := by
 unfold padB be8; simp [leB_len]; omega
set_option maxHeartbeats 4000000 in
theorem pad_any {a : Option Addr} {n cap : Nat} {l : List UInt8} (w : World) (h : RdB w a n cap l) (hm : n ≤ 4294967296) :
  Calls Tryz.prog 52 #[.slice a n cap, .int .u64 (n : Int), .int .i64 128] w fun e w' => ∃ v, e = .returned v ∧ w'.ownsRow w.heap.size 5 1 v (padB l).length ((padB l).map bV) ∧ Below w.heap.size w w' := by
 have HL := Lib.hid h.hlen
 have HH := Lib.hid h
 obtain ⟨K, hK⟩ : ∃ K : Nat, K = (240 - (n + 1) % 128) % 128 := ⟨_, rfl⟩
 have HK := Lib.hid hK
 have e8 : IntKind.u64.wrap (8 * (n : Int)) = (((UInt64.ofNat (8 * n)).toNat : Nat) : Int) := by rw [IntKind.wrap_u64, UInt64.toNat_ofNat']; omega
 have HP : Hid ((l ++ [128] ++ List.replicate K 0 ++ List.replicate 8 0 ++ be8 (UInt64.ofNat (8 * n))) = padB l) := Lib.hid (by unfold padB; rw [← HL.out] at *; rw [← hK]; simp)
 clear h hK
 generalize UInt64.ofNat (8 * n) = X at *
 go_enter Tryz.func52, Tryz.ntmps52
 go_upto_region 2 with (first | (go_at_call 30; go_must (refine (clone_own _ HH.out (by omega)).mono ?_; rintro e w1 ⟨v0, rfl, ho, hb⟩; have HO := Lib.hid ho; have hbel := hb; clear ho hb)) | (at_builtin; go_must (refine app_bytes _ rfl (.tmp 10) (.tmp 11) rfl w.heap.size _ n l rfl (HO.out.alloc _) _ 1 1 [128] rfl (RdB.blk (g := w1.heap.size) [] (Blk.new w1 #[.int .u8 128] 5) rfl (by omega) (by unfold maxLen; omega)) (by omega) (by have := hbel.size; simp; omega) w (by exact belowBy) ?_; intro v1 w2 ho hb2; have HO1 := Lib.hid ho; clear ho)))
 have hn0 : (0 : Int) ≤ (n : Int) := by omega
 have hn1 : (n : Int) ≤ 4294967296 := by omega
 rcases HO1.out.2 with ⟨_, h0⟩ | ⟨g, c1, cur, rfl, hr⟩
 ·omega
 clear hr
 have h26b : (240 - ((n : Int) + 1) % 128) % 128 = (K : Int) := by have := HK.out; omega
 have HB2 := Lib.hid (show w.heap.size ≤ w2.heap.size from hb2.size)
 have HK2 : Hid (K < 128) := Lib.hid (by have := HK.out; omega)
 clear hbel
 go_upto_region 4 with (at_builtin; go_must (refine app_zeros _ rfl (.tmp 15) (.tmp 26) rfl w.heap.size _ (n + 1) (l ++ [128]) rfl HO1.out K (congrArg (Value.int IntKind.i64) h26b) (by have := HK2.out; omega) HB2.out w hb2 ?_; intro v2 w3 ho hb3; have HO2 := Lib.hid ho; clear ho))
 clear h26b hb2 HB2 HO1
 go_upto_region 5 with (at_builtin; go_must (refine app_zeros _ rfl (.tmp 28) (.tmp 30) rfl w.heap.size _ (n + 1 + K) (l ++ [128] ++ List.replicate K 0) rfl HO2.out 8 rfl (by have := HK2.out; omega) hb3.size w hb3 ?_; intro v3 w4 ho hb4; have HO3 := Lib.hid ho; clear ho))
 clear hb3 HO2
 go_wp2_with (first | (go_at_call 54; go_must (refine (put64_any (x := X) _).mono ?_; rintro e w5 ⟨rfl, hB, hb⟩; have hb5 := Below.call hb4 hb; have HO4 := Lib.hid (own_below HO3.out hb); have HB := Lib.hid (RdB.blk (n := 8) (cap := 8) (l := be8 X) [] (by rw [List.append_nil]; exact hB) (by unfold be8; rw [List.length_reverse, leB_len]) (by omega) (by unfold maxLen; omega)); clear hB hb)) | (at_builtin; go_must (refine app_bytes _ rfl (.tmp 32) (.tmp 35) rfl w.heap.size _ (n + 1 + K + 8) (l ++ [128] ++ List.replicate K 0 ++ List.replicate 8 0) rfl HO4.out _ 8 8 (be8 X) rfl HB.out (by have := HK2.out; omega) hb5.size w hb5 ?_; intro v4 w6 ho hb6; have HO5 := Lib.hid ho; clear ho)))
 go_ret
 have hl : (padB l).length = n + 1 + K + 8 + 8 := by rw [padB_len, HL.out, HK.out]
 exact ⟨v4, rfl, by rw [hl, ← HP.out]; exact HO5.out, hb6⟩
theorem ix8_0 (a b c d e f g h : UInt64) (w : World) : (Instr.index 84 (.agg #[.int .u64 ((a).toNat : Int), .int .u64 ((b).toNat : Int), .int .u64 ((c).toNat : Int), .int .u64 ((d).toNat : Int), .int .u64 ((e).toNat : Int), .int .u64 ((f).toNat : Int), .int .u64 ((g).toNat : Int), .int .u64 ((h).toNat : Int)]) (.int .i64 0)).run Tryz.prog w = .ok (.int .u64 ((a).toNat : Int)) w := by kernel_rfl
theorem ix8_1 (a b c d e f g h : UInt64) (w : World) : (Instr.index 84 (.agg #[.int .u64 ((a).toNat : Int), .int .u64 ((b).toNat : Int), .int .u64 ((c).toNat : Int), .int .u64 ((d).toNat : Int), .int .u64 ((e).toNat : Int), .int .u64 ((f).toNat : Int), .int .u64 ((g).toNat : Int), .int .u64 ((h).toNat : Int)]) (.int .i64 1)).run Tryz.prog w = .ok (.int .u64 ((b).toNat : Int)) w := by kernel_rfl
theorem ix8_2 (a b c d e f g h : UInt64) (w : World) : (Instr.index 84 (.agg #[.int .u64 ((a).toNat : Int), .int .u64 ((b).toNat : Int), .int .u64 ((c).toNat : Int), .int .u64 ((d).toNat : Int), .int .u64 ((e).toNat : Int), .int .u64 ((f).toNat : Int), .int .u64 ((g).toNat : Int), .int .u64 ((h).toNat : Int)]) (.int .i64 2)).run Tryz.prog w = .ok (.int .u64 ((c).toNat : Int)) w := by kernel_rfl
theorem ix8_3 (a b c d e f g h : UInt64) (w : World) : (Instr.index 84 (.agg #[.int .u64 ((a).toNat : Int), .int .u64 ((b).toNat : Int), .int .u64 ((c).toNat : Int), .int .u64 ((d).toNat : Int), .int .u64 ((e).toNat : Int), .int .u64 ((f).toNat : Int), .int .u64 ((g).toNat : Int), .int .u64 ((h).toNat : Int)]) (.int .i64 3)).run Tryz.prog w = .ok (.int .u64 ((d).toNat : Int)) w := by kernel_rfl
theorem ix8_4 (a b c d e f g h : UInt64) (w : World) : (Instr.index 84 (.agg #[.int .u64 ((a).toNat : Int), .int .u64 ((b).toNat : Int), .int .u64 ((c).toNat : Int), .int .u64 ((d).toNat : Int), .int .u64 ((e).toNat : Int), .int .u64 ((f).toNat : Int), .int .u64 ((g).toNat : Int), .int .u64 ((h).toNat : Int)]) (.int .i64 4)).run Tryz.prog w = .ok (.int .u64 ((e).toNat : Int)) w := by kernel_rfl
theorem ix8_5 (a b c d e f g h : UInt64) (w : World) : (Instr.index 84 (.agg #[.int .u64 ((a).toNat : Int), .int .u64 ((b).toNat : Int), .int .u64 ((c).toNat : Int), .int .u64 ((d).toNat : Int), .int .u64 ((e).toNat : Int), .int .u64 ((f).toNat : Int), .int .u64 ((g).toNat : Int), .int .u64 ((h).toNat : Int)]) (.int .i64 5)).run Tryz.prog w = .ok (.int .u64 ((f).toNat : Int)) w := by kernel_rfl
theorem ix8_6 (a b c d e f g h : UInt64) (w : World) : (Instr.index 84 (.agg #[.int .u64 ((a).toNat : Int), .int .u64 ((b).toNat : Int), .int .u64 ((c).toNat : Int), .int .u64 ((d).toNat : Int), .int .u64 ((e).toNat : Int), .int .u64 ((f).toNat : Int), .int .u64 ((g).toNat : Int), .int .u64 ((h).toNat : Int)]) (.int .i64 6)).run Tryz.prog w = .ok (.int .u64 ((g).toNat : Int)) w := by kernel_rfl
theorem ix8_7 (a b c d e f g h : UInt64) (w : World) : (Instr.index 84 (.agg #[.int .u64 ((a).toNat : Int), .int .u64 ((b).toNat : Int), .int .u64 ((c).toNat : Int), .int .u64 ((d).toNat : Int), .int .u64 ((e).toNat : Int), .int .u64 ((f).toNat : Int), .int .u64 ((g).toNat : Int), .int .u64 ((h).toNat : Int)]) (.int .i64 7)).run Tryz.prog w = .ok (.int .u64 ((h).toNat : Int)) w := by kernel_rfl
theorem index8 {L : List UInt64} (hl : L.length = 8) (k : Nat) (hk : k < 8) (w : World) : (Instr.index 84 (.agg (L.map uI).toArray) (.int .i64 (k : Int))).run Tryz.prog w = .ok (.int .u64 ((at0 L k).toNat : Int)) w := by
 match L, hl with
 | [a, b, c, d, e, f, g, h], _ =>
  match k, hk with
  | 0, _ => exact ix8_0 a b c d e f g h w
  | 1, _ => exact ix8_1 a b c d e f g h w
  | 2, _ => exact ix8_2 a b c d e f g h w
  | 3, _ => exact ix8_3 a b c d e f g h w
  | 4, _ => exact ix8_4 a b c d e f g h w
  | 5, _ => exact ix8_5 a b c d e f g h w
  | 6, _ => exact ix8_6 a b c d e f g h w
  | 7, _ => exact ix8_7 a b c d e f g h w
theorem of_isW8 {v : Value} {L : List UInt64} (h : IsFs rW8 v [L]) : v = .agg (L.map uI).toArray ∧ L.length = 8 := by
 obtain ⟨cs, rfl, hc⟩ := h
 obtain ⟨hl, rfl⟩ := Lims.of_single hc
 exact ⟨rfl, hl⟩
def outK (L : List UInt64) (k : Nat) : List UInt8 := ((List.range k).map fun i => be8 (at0 L i)).flatten
theorem outK_succ (L : List UInt64) (k : Nat) : outK L (k + 1) = outK L k ++ be8 (at0 L k) := by
 unfold outK; rw [List.range_succ]; simp
theorem be8_len (x : UInt64) : (be8 x).length = 8 := by unfold be8; rw [List.length_reverse, leB_len]
theorem outK_len (L : List UInt64) : ∀ k, (outK L k).length = 8 * k
 | 0 => rfl
 | k + 1 => by rw [outK_succ, List.length_append, be8_len, outK_len L k]; omega
theorem padB_blocks (l : List UInt8) : (padB l).length = 128 * ((padB l).length / 128) ∧ 0 < (padB l).length / 128 := by
 rw [padB_len]; omega
theorem sha512_out (l : List UInt8) : outK (hSt (padB l) ((padB l).length / 128)) 8 = sha512 l := rfl
theorem sha512_len (l : List UInt8) : (sha512 l).length = 64 := by rw [← sha512_out, outK_len]
theorem pad_blk {a : Option Addr} {n cap M : Nat} {l P : List UInt8} {w : World} (h : RdB w a n cap l) (hm : n ≤ 1000000) (hP : padB l = P) (hM : P.length = 128 * M) (hM0 : 0 < M) :
  Calls Tryz.prog 52 #[.slice a n cap, .int .u64 (n : Int), .int .i64 128] w fun e w' => ∃ g c r, e = .returned (.slice (some ⟨g, 0, none⟩) (128 * M) c) ∧ w.heap.size ≤ g ∧ Blk w' g (P.map bV ++ r) 5 ∧ 128 * M ≤ c ∧ c ≤ maxLen ∧ Below w.heap.size w w' := by
 refine (pad_any w h (by omega)).mono ?_
 rintro e w' ⟨v, rfl, ho, hb⟩
 rw [hP, hM] at ho
 obtain ⟨g, c, r, rfl, hg, hB, _, hc, hm⟩ := own_rdb ho (by omega)
 exact ⟨g, c, r, rfl, hg, hB, hc, hm, hb⟩
theorem rd_at {W : World} {g k m c : Nat} {P : List UInt8} {r : List Value} (hB : Blk W g (P.map bV ++ r) 5) (hl : (P.drop k).length = m) (hc : m ≤ c) (hm : c ≤ maxLen) : RdB W (some ⟨g, k, none⟩) m c (P.drop k) := by
 refine ⟨hl, hc, hm, fun j hj => ⟨g, k, rfl, ?_⟩, fun h => by cases h⟩
 have hj2 := hj
 rw [List.length_drop] at hj2
 rw [hB.cell, List.getElem?_append_left (by rw [List.length_map]; omega), List.getElem?_map, List.getElem?_eq_getElem (by omega), List.getElem_drop]; rfl
set_option maxHeartbeats 400000 in
theorem sum512_walk {a : Option Addr} {n cap N M : Nat} {ls : List (List UInt8)} {l P : List UInt8} {w : World} (h : RdRows w a n cap ls) (hl : ls.flatten = l) (hN : l.length = N) (hs : N ≤ 1000000) (hP : padB l = P) (hM : P.length = 128 * M) (hM0 : 0 < M) (hM1 : M ≤ 10000) :
  Calls Tryz.prog 19 #[.slice a n cap] w (NewB w (outK (hSt P M) 8)) := by
 have HS := Lib.hid hs
 have HLF := Lib.hid hl
 have HR := Lib.hid h
 have HN := Lib.hid hN
 have HP := Lib.hid hP
 have HM := Lib.hid hM
 have HM0 := Lib.hid hM0
 have HM1 := Lib.hid hM1
 clear h hl hs hN hP hM hM0 hM1
 go_enter Tryz.func19, Tryz.ntmps19
 go_upto_region 2 with (go_at_call 25; go_must (refine (cat_any _ HR.out (by rw [HLF.out, HN.out]; have := HS.out; omega)).mono ?_; rintro e w1 ⟨v, rfl, ho, hb⟩; (rw [HLF.out, HN.out] at ho); obtain ⟨a1, c1, rfl, hr1, _⟩ := own_sl ho; have HR1 := Lib.hid hr1; have hbel := hb; clear ho hb hr1))
 have hbel0 := hbel
 have hNm : (N : Int) ≤ 1000000 := by have := HS.out; omega
 refine rgT [(4, 1), (5, 0)] [.val rW8 [hTab], .new 8, .st 1 rW8 [hTab]] ?_ ?_
 ·intro hs
  refine ⟨?_, ?_, ?_, trivial⟩
  ·refine step_call hs Wn rfl fun L u W hJ hG hL hdep K hK => ?_
   go_simp
   go_at_call 51
   (with_reducible refine (start_any _).mono ?_); rintro e w1 ⟨r, rfl, hr, hb⟩
   exact hK.out _ _ hr hb
  ·exact step_alloc hs Wn rfl rfl (by omega) rfl alloca8
  ·exact step_store 1 hs (by kernel_rfl) Wn rfl rfl rfl (by kernel_rfl) (by kernel_rfl) (by kernel_rfl) (by kernel_rfl) (fun _ => rfl) (gO 0) tya8 rfl
 intro L2 u2z W2z hall hJ hG
 obtain ⟨q4, e4, hq4, _, ht4⟩ := oN 8 hG 1
 have hm4 := oS rW8 [hTab] hG 2 e4
 have hq4 : w.heap.size ≤ q4 := by have := hbel0.size; omega
 have E4 := Lib.hid e4; clear e4
 have hb := hJ.all rfl
 have HBW := Lib.hid hb
 have hbel := Below.call hbel hb
 have hbel0 := hbel
 clear hJ hG hall hb
 have HBR := Lib.hid HBW.out
 clear hbel0
 go_upto_region 4 with (go_at_call 52; go_must (refine (pad_blk (HR1.out.below HBR.out) HS.out HP.out HM.out HM0.out).mono ?_; rintro e w3 ⟨g5, c5, r5, rfl, hg5, hB5, hc5, hm5, hb3⟩))
 have HNE : Hid (q4 ≠ g5) := Lib.hid (by have := hm4.lt; omega)
 have hmQ := hm4.later hb3
 have htQ := there_later ht4 hb3
 have hbel := Below.call hbel hb3
 have hG5 := Lib.hid hg5
 clear hb3 hm4 ht4 hg5
 have hpm : (128 * M : Nat) ≤ 1280000 := by have := HM1.out; omega
 go_loopw [5] (fun b wr => ∃ i off c m : Nat, i ≤ M ∧ m = 128 * (M - i) ∧ b = .slice (some ⟨g5, off, none⟩) m c ∧ (i < M → off = 128 * i) ∧ m ≤ c ∧ c ≤ maxLen ∧ Blk wr g5 (P.map bV ++ r5) 5 ∧ HasFs rW8 wr q4 0 [hSt P i] ∧ wr.there q4 0 8 ∧ Below w.heap.size w wr) (fun b _ => match b with | .slice _ k _ => k | _ => 0)
 case atStart => exact ⟨0, 0, c5, 128 * M, by omega, by rw [Nat.sub_zero], rfl, fun _ => rfl, hc5, hm5, hB5, hmQ, htQ, hbel⟩
 case round =>
  obtain ⟨i, off, c, m, hi, hm, rfl, hoff, hc, hmx, hB, hmL4, htL4, hbel'⟩ := hrel
  clear hB5 hmQ htQ hbel hm5 hc5
  have hbel := hbel'
  have hbel0 := hbel'
  by_cases hlt : i < M
  ·obtain rfl := hoff hlt
   have HI := Lib.hid hlt
   have hpos : (0 : Int) < (m : Int) := by omega
   have HMI := Lib.hid hm
   have HIN : Hid (128 ≤ m) := Lib.hid (by omega)
   have HCC := Lib.hid hc; have HMX := Lib.hid hmx
   have HDL : Hid ((P.drop (128 * i)).length = m) := Lib.hid (by rw [List.length_drop, HM.out, hm]; omega)
   have HB := Lib.hid hB
   have hgt : decide ((0 : Int) < (m : Int)) = true := decide_eq_true hpos
   have hgt2 : decide (0 < m) = true := decide_eq_true (by omega)
   clear hm hoff hi hc hmx hB hlt
   go_upto_region 6 with fail
   clear hgt hgt2
   refine rgT [(21, 0), (0, 1), (0, 2)] [.val rW8 [hSt P i], .oth (fun v => v = .slice (some ⟨g5, 128 * i, none⟩) m c), .val rW8 [hSt P (i + 1)], .sto q4 rW8 [hSt P (i + 1)]] ?_ ?_
   ·intro hs
    refine ⟨?_, ?_, ?_, ?_, trivial⟩
    ·exact step_load q4 0 hs Wn rfl rfl tya8 (fun _ => E4.out) hmL4.lt hmL4 Na
    ·exact mvK hs fun _ => rfl
    ·refine step_call hs Wn rfl fun L u W hJ hG hL hdep K hK => ?_
     have a0 := (vE rW8 [hSt P i] hG hdep 0)
     have x0 := (oE (.slice (some ⟨g5, 128 * i, none⟩) m c) hG hdep 1)
     have hRB0 := rd_at (blk_keep HB.out (hJ.block _ HB.out.lt (fun k hk => by rcases k with _ | _ | _ | _ | k <;> first | (cases hk; done) | (cases hk; exact absurd rfl HNE.out)))) HDL.out HCC.out HMX.out
     go_simp
     go_at_call 53
     (with_reducible refine (turn_any a0 hRB0 (by have := HIN.out; omega)).mono ?_); rintro e w1 ⟨r, rfl, hr, hb⟩
     have hk := hK.out _ _ hr hb
     simp only [x0] at hk
     exact hk
    ·refine step_storeO q4 8 hs Wn rfl rfl (by kernel_rfl) (fun k hk => ?_) (fun _ => E4.out) (there_lt htL4 (by omega)) htL4 (gO 2) tya8 rfl
     rcases k with _ | _ | _ | _ | k
     all_goals first | (exact absurd rfl hk) | (intro e; cases e; done)
   intro L6 u6z W6z hall hJ hG
   have hb := hJ.beN hbel
   have hbel := hbel.trans hb
   have HB := Lib.hid (blk_keep HB.out (hJ.block _ (HB.out.lt) (fun k hk => by rcases k with _ | _ | _ | _ | k <;> first | (cases hk; done) | (cases hk; exact absurd rfl HNE.out))))
   obtain ⟨_, hs6_3t, hs6_3⟩ := oT 8 rW8 [hSt P (i + 1)] hG 3
   have hbel0 := hbel
   clear hJ hG hall hb
   have hcc := HCC.out; have hin := HIN.out; have hmx := HMX.out
   have hmxI : (c : Int) ≤ 9223372036854775807 := by unfold maxLen at hmx; omega
   by_cases hcap : c = 128
   ·subst hcap
    obtain rfl : m = 128 := by omega
    go_wp2
    go_roundw
    case rel => exact ⟨i + 1, 128 * i, 0, 128 - 128, by have := HI.out; omega, by have := HMI.out; omega, rfl, fun h => absurd h (by have := HMI.out; omega), by omega, by unfold maxLen; omega, HB.out, hs6_3, hs6_3t, hbel⟩
    case measure => show 128 - 128 < 128; omega
   ·go_wp2
    go_roundw
    case rel => exact ⟨i + 1, 128 * i + 128, c - 128, m - 128, by have := HI.out; omega, by have := HMI.out; omega, rfl, fun h => by omega, by omega, by unfold maxLen at hmx ⊢; omega, HB.out, hs6_3, hs6_3t, hbel⟩
    case measure => show m - 128 < m; omega
  ·obtain rfl : i = M := by omega
   obtain rfl : m = 0 := by omega
   obtain ⟨H, hH⟩ : ∃ H, H = hSt P i := ⟨_, rfl⟩
   rw [← hH] at hmL4
   have HH := Lib.hid hH
   clear hH hi hm hoff hc hmx hB
   go_upto_region 7 with fail
   refine rgT [(24, 0), (0, 1)] [.val rW8 [H], .oth (fun v => v = .int .i64 0)] ?_ ?_
   ·intro hs
    refine ⟨?_, ?_, trivial⟩
    ·exact step_load q4 0 hs Wn rfl rfl tya8 (fun _ => E4.out) hmL4.lt hmL4 Na
    ·exact mvK hs fun _ => rfl
   intro L7 u7z W7z hall hJ hG
   have hb := hJ.all rfl
   have hbel := Below.call hbel hb
   have hv24 := oV rW8 [H] hG 0
   have HC25 := oC (.int .i64 0) hG 1
   have hbel0 := hbel
   clear hJ hG hall hb
   obtain ⟨hv, h8⟩ := of_isW8 hv24
   have HIX := Lib.hid (fun (k : Nat) (hk : k < 8) (w : World) => index8 h8 k hk w)
   rw [← hv] at HIX
   have HT : Hid (outK H 8 = outK (hSt P i) 8) := Lib.hid (by rw [HH.out])
   have hlb := hbel
   clear hv hmL4 htL4 hbel0 hbel
   go_wp2_with fail
   go_loopw [2, 25] (fun v k wr => ∃ j : Nat, j ≤ 8 ∧ k = .int .i64 (j : Int) ∧ wr.ownsRow w.heap.size 5 1 v (8 * j) ((outK H j).map bV) ∧ Below w.heap.size w wr) (fun _ k _ => 8 - (intOf k).toNat)
   case atStart => exact ⟨0, by omega, by first | rfl | exact HC25.out, World.ownsRow_nil _ _ _ _, hlb⟩
   case round =>
    clear hlb
    obtain ⟨j, hj, rfl, ho, hbel⟩ := hrel
    by_cases hlt : j < 8
    ·have hd : decide ((j : Int) < 8) = true := decide_eq_true (by omega)
     have hix := HIX.out j hlt
     have HO := Lib.hid ho
     have HJ := Lib.hid hlt
     clear ho hlt
     go_wp2_with (first | (go_at_call 54; go_must (refine (put64_any (x := at0 H j) _).mono ?_; rintro e w5 ⟨rfl, hB, hb⟩; have hb5 := Below.call hbel hb; have HO4 := Lib.hid (own_below HO.out hb); have HB := Lib.hid (RdB.blk (n := 8) (cap := 8) (l := be8 (at0 H j)) [] (by rw [List.append_nil]; exact hB) (be8_len _) (by omega) (by unfold maxLen; omega)); clear hB hb)) | (at_builtin; go_must (refine app_bytes _ rfl (.tmp 28) (.tmp 30) rfl w.heap.size _ (8 * j) (outK H j) rfl HO4.out _ 8 8 (be8 (at0 H j)) rfl HB.out (by have := HJ.out; omega) hb5.size w hb5 ?_; intro v4 w6 ho hb6; have HO5 := Lib.hid ho; clear ho)))
     go_roundw
     case rel => exact ⟨j + 1, by have := HJ.out; omega, by go_num, by rw [outK_succ, show 8 * (j + 1) = 8 * j + 8 by omega]; exact HO5.out, hb6⟩
     case measure => have := HJ.out; simp [intOf]; omega
    ·obtain rfl : j = 8 := by omega
     have hd : decide (((8 : Nat) : Int) < 8) = false := by decide
     obtain ⟨g9, c9, r9, rfl, hg9, hB9, hl9, hc9, hm9⟩ := own_rdb ho (by omega)
     have HB9 := Lib.hid hB9; have HL9 := Lib.hid hl9
     clear ho hB9 hl9
     go_wp2
     go_ret
     exact ⟨g9, 64, c9, r9, rfl, hg9, by rw [← HT.out]; exact HB9.out, by rw [outK_len], hc9, hm9, hbel⟩
theorem sum512_any {a : Option Addr} {n cap : Nat} {ls : List (List UInt8)} {l : List UInt8} {w : World} (h : RdRows w a n cap ls) (hl : ls.flatten = l) (hs : l.length ≤ 1000000) :
  Calls Tryz.prog 19 #[.slice a n cap] w (NewB w (sha512 l)) := by
 have hp := padB_blocks l
 have h2 := padB_len l
 rw [← sha512_out]
 exact sum512_walk h hl rfl hs rfl hp.1 hp.2 (by omega)
end Go.Proofs.YtielgpefoameiaaGreat
namespace Go.Proofs.YtielgpefoameiaaGreat
open Go.RowKit
def clampB (l : List UInt8) : List UInt8 := ((first l 32).set 0 ((first l 32).getD 0 0 &&& 248)).set 31 (((first l 32).getD 31 0 &&& 127) ||| 64)
theorem clampB_len (l : List UInt8) : (clampB l).length = 32 := by simp [clampB, first_len]
theorem and8 (c d : UInt8) : bits BinOp.and IntKind.u8 (c.toNat : Int) (d.toNat : Int) = (((c &&& d).toNat : Nat) : Int) := by
 rw [u8_and_nat _ _ c.toNat_lt d.toNat_lt]; simp
theorem or8 (c d : UInt8) : bits BinOp.or IntKind.u8 (c.toNat : Int) (d.toNat : Int) = (((c ||| d).toNat : Nat) : Int) := by
 rw [u8_or_nat _ _ c.toNat_lt d.toNat_lt]; simp
set_option maxHeartbeats 400000 in
theorem clamp_any {a : Option Addr} {n cap : Nat} {l : List UInt8} (w : World) (h : RdB w a n cap l) :
  Calls Tryz.prog 21 #[.slice a n cap] w fun e w' => e = .returned (.slice (some ⟨w.heap.size, 0, none⟩) 32 32) ∧ Blk w' w.heap.size ((clampB l).map bV) 5 ∧ Below w.heap.size w w' := by
 have hlen := first_len l 32
 have HC : Hid (clampB l = ((first l 32).set 0 ((first l 32).getD 0 0 &&& 248)).set 31 (((first l 32).getD 31 0 &&& 127) ||| 64)) := Lib.hid rfl
 generalize hfl : first l 32 = fl at *
 have HF := Lib.hid hfl; have HL := Lib.hid hlen
 obtain ⟨c0, hc0⟩ : ∃ c0, c0 = fl.getD 0 0 := ⟨_, rfl⟩
 obtain ⟨c1, hc1⟩ : ∃ c1, c1 = fl.getD 31 0 := ⟨_, rfl⟩
 have H0 := Lib.hid hc0; have H1 := Lib.hid hc1
 obtain ⟨d0, hd0⟩ : ∃ d0, d0 = c0 &&& 248 := ⟨_, rfl⟩
 obtain ⟨d1, hd1⟩ : ∃ d1, d1 = c1 &&& 127 := ⟨_, rfl⟩
 obtain ⟨d2, hd2⟩ : ∃ d2, d2 = d1 ||| 64 := ⟨_, rfl⟩
 have e0 : bits BinOp.and IntKind.u8 (c0.toNat : Int) 248 = ((d0.toNat : Nat) : Int) := by rw [hd0]; exact and8 c0 248
 have e1 : bits BinOp.and IntKind.u8 (c1.toNat : Int) 127 = ((d1.toNat : Nat) : Int) := by rw [hd1]; exact and8 c1 127
 have e2 : bits BinOp.or IntKind.u8 ((d1.toNat : Nat) : Int) 64 = ((d2.toNat : Nat) : Int) := by rw [hd2]; exact or8 d1 64
 rw [hd1] at hd2
 have D0 := Lib.hid hd0; have D2 := Lib.hid hd2
 clear hd0 hd1 hd2
 clear hfl hlen hc0 hc1
 go_enter Tryz.func21, Tryz.ntmps21
 go_wp2_with (go_at_call 55; go_must (refine (first_any 32 (by omega) _ h).mono ?_; rintro e w1 ⟨rfl, hB, hb⟩; rw [HF.out] at hB; have k0 : w1.cell? ⟨w.heap.size, 0, none⟩ = some (.int .u8 (c0.toNat : Int)) := (by rw [hB.cell, H0.out]; have := HL.out; simp [bV, List.getElem?_eq_getElem (show 0 < fl.length by omega)]); have k1 : w1.cell? ⟨w.heap.size, 31, none⟩ = some (.int .u8 (c1.toNat : Int)) := (by rw [hB.cell, H1.out]; have := HL.out; simp [bV, List.getElem?_eq_getElem (show 31 < fl.length by omega)]); have kf := hB.frozen; have HB := Lib.hid hB; clear hB))
 go_ret
 refine ⟨rfl, ?_, belowBy⟩
 have hB := (HB.out.set 0 (bV d0)).set 31 (bV d2)
 rw [← List.map_set, ← List.map_set] at hB
 rw [HC.out, ← H0.out, ← H1.out, ← D0.out, ← D2.out]
 exact hB
end Go.Proofs.YtielgpefoameiaaGreat
