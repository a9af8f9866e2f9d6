/- The walks of the document's own field, eighth part: products, the walk. -/
import Derived.Test.YtmoggjbnlimepaaRfj
namespace Go.Proofs.Ytmoggjbnlimepaa
open Go.RowKit

theorem mul_step {f g c : Nat → Nat} {i k : Nat} (hi : i < 16) (hc : ∀ j, i + k ≤ j → c j ≤ i * MM) (hp : f i * g k ≤ MM) :
    ∃ p : Nat, IntKind.u64.wrap ((f i : Nat) * (g k : Nat) : Int) = (p : Int) ∧ IntKind.u64.wrap ((c (i + k) : Nat) + (p : Nat) : Int) = (updF c (i + k) (c (i + k) + f i * g k) (i + k) : Nat) := by
  have h1 := hc (i + k) (Nat.le_refl _)
  have h2 : i * MM ≤ 15 * MM := Nat.mul_le_mul_right _ (by omega)
  unfold MM at *
  refine ⟨f i * g k, ?_, ?_⟩
  · rw [show ((f i : Nat) : Int) * (g k : Nat) = ((f i * g k : Nat) : Int) from by simp, wrapU]; omega
  · rw [wrapU]; simp only [updF, if_true]; omega
theorem fold_step {c : Nat → Nat} (h : ∀ j, c j ≤ 16 * MM) (i : Nat) : ∃ p : Nat, IntKind.u64.wrap (38 * (c (i + 16) : Nat) : Int) = (p : Int) ∧ IntKind.u64.wrap ((c i : Nat) + (p : Nat) : Int) = (fldF c i : Nat) := by
  have h1 := h i; have h2 := h (i + 16)
  unfold MM at *
  refine ⟨38 * c (i + 16), ?_, ?_⟩
  · rw [wrapU]; omega
  · rw [wrapU]; unfold fldF; omega
set_option maxHeartbeats 2000000 in
theorem rmulM (x y : F) (w : World) :
    Calls Try.prog 33 #[.agg (row 16 (fV (d16 x.val))).toArray, .agg (row 16 (fV (d16 y.val))).toArray] w fun e w' => e = .returned (.agg (row 16 (fV (d16 (x * y).val))).toArray) ∧ Below w.heap.size w w' := by
  have HV := Lib.hid (fun c (h : MulOut (d16 x.val) (d16 y.val) c 16) => h.fin)
  generalize (x * y).val = R at *
  have HP := Lib.hid (fun i k => prod_le x.val y.val i k)
  generalize d16 x.val = f at *
  generalize d16 y.val = g at *
  go_enter Try.func33, Try.ntmps33
  go_upto_region 2 with fail
  refine wp_gen (fun W => Blk W w.heap.size (row 16 (fV f)) 54 ∧ Blk W (w.heap.size + 1) (row 16 (fV g)) 54 ∧ Blk W (w.heap.size + 1 + 1) [.int .u64 0, .int .u64 0, .int .u64 0, .int .u64 0, .int .u64 0, .int .u64 0, .int .u64 0, .int .u64 0, .int .u64 0, .int .u64 0, .int .u64 0, .int .u64 0, .int .u64 0, .int .u64 0, .int .u64 0, .int .u64 0] 54 ∧ Blk W (w.heap.size + 1 + 1 + 1) (row 32 (fV fun _ => 0)) 70 ∧ Below w.heap.size w W) ?_ (fun W0 hW => ?_)
  · exact ⟨(((Blk.new w _ _).alloc _).alloc _).alloc _, ((Blk.new' (by simp)).alloc _).alloc _, (Blk.new' (by simp)).alloc _, Blk.new' (by simp), (by repeat (first | (with_reducible refine Below.alloc' ?_ _) | (with_reducible refine Below.drew ?_) | (with_reducible refine below_drewN ?_ _) | ((with_reducible refine Below.setCell ?_ ?_ _); rotate_left; (focus (first | exact Nat.le_refl _ | (simp; done) | (simp; omega)))) | (with_reducible assumption) | (with_reducible exact Below.refl _ _)))⟩
  obtain ⟨hA, hB, hO, hC, hbel⟩ := hW
  go_wp2
  go_loopw [6] (fun i wr => ∃ (j : Nat) (c : Nat → Nat), j ≤ 16 ∧ i = .int .i64 j ∧ Blk wr w.heap.size (row 16 (fV f)) 54 ∧ Blk wr (w.heap.size + 1) (row 16 (fV g)) 54 ∧ Blk wr (w.heap.size + 1 + 1) [.int .u64 0, .int .u64 0, .int .u64 0, .int .u64 0, .int .u64 0, .int .u64 0, .int .u64 0, .int .u64 0, .int .u64 0, .int .u64 0, .int .u64 0, .int .u64 0, .int .u64 0, .int .u64 0, .int .u64 0, .int .u64 0] 54 ∧ Blk wr (w.heap.size + 1 + 1 + 1) (row 32 (fV c)) 70 ∧ MulOut f g c j ∧ Below w.heap.size w wr) (fun i _ => 16 - (intOf i).toNat)
  case atStart => exact ⟨0, fun _ => 0, by omega, rfl, hA, hB, hO, hC, MulOut.start f g, hbel⟩
  case round =>
    clear hA hB hO hC hbel W0
    obtain ⟨j, c, hj, rfl, hA, hB, hO, hC, hM, hbel⟩ := hrel
    by_cases hlj : j < 16
    · have HA := Lib.hid hA; have HB := Lib.hid hB; have HO := Lib.hid hO; have HC := Lib.hid hC; have HM := Lib.hid hM
      clear hA hB hO hC hM
      obtain ⟨wo, rfl⟩ : ∃ wo : World, wo = wr := ⟨_, rfl⟩
      have hd : decide ((j : Int) < 16) = true := by simp; omega
      go_wp2
      go_loopw [7] (fun kk wr => ∃ (k : Nat) (c : Nat → Nat), k ≤ 16 ∧ kk = .int .i64 k ∧ Blk wr w.heap.size (row 16 (fV f)) 54 ∧ Blk wr (w.heap.size + 1) (row 16 (fV g)) 54 ∧ Blk wr (w.heap.size + 1 + 1) [.int .u64 0, .int .u64 0, .int .u64 0, .int .u64 0, .int .u64 0, .int .u64 0, .int .u64 0, .int .u64 0, .int .u64 0, .int .u64 0, .int .u64 0, .int .u64 0, .int .u64 0, .int .u64 0, .int .u64 0, .int .u64 0] 54 ∧ Blk wr (w.heap.size + 1 + 1 + 1) (row 32 (fV c)) 70 ∧ MulIn f g c j k ∧ Below w.heap.size w wr) (fun kk _ => 16 - (intOf kk).toNat)
      case atStart => exact ⟨0, c, by omega, rfl, HA.out, HB.out, HO.out, HC.out, HM.out.into, hbel⟩
      case round =>
        clear HA HB HO HC HM hbel
        obtain ⟨k, c, hk, rfl, hA, hB, hO, hC, hM, hbel⟩ := hrel
        by_cases hlk : k < 16
        · obtain ⟨p, s1, s2⟩ := mul_step (f := f) (g := g) hlj hM.hi (HP.out j k)
          have HM := Lib.hid (hM.step hlk hlj (HP.out j k))
          obtain ⟨m, hm⟩ : ∃ m, m = j + k := ⟨_, rfl⟩
          have HMe := Lib.hid hm
          rw [← hm] at s2 HM
          have ca : wr.cell? ⟨w.heap.size, j, none⟩ = some (.int .u64 (f j : Nat)) := hA.at hlj
          have cb : wr.cell? ⟨w.heap.size + 1, k, none⟩ = some (.int .u64 (g k : Nat)) := hB.at hlk
          have cc : wr.cell? ⟨w.heap.size + 1 + 1 + 1, m, none⟩ = some (.int .u64 (c m : Nat)) := hC.at (by omega)
          have hwm : IntKind.i64.wrap ((j : Int) + (k : Int)) = (m : Int) := by rw [hm]; exact IntWalk.i64_in _ (by omega)
          have hwm' : (j : Int) + (k : Int) = (m : Int) := by omega
          have hm32 : m < 32 := by omega
          have hfr := hC.frozen m
          generalize hu : updF c m (c m + f j * g k) = u at *
          have hC2 := hC.set m (.int .u64 (u m : Nat))
          rw [show (row 32 (fV c)).set m (.int .u64 (u m : Nat)) = row 32 (fV u) from by rw [← hu, show updF c m (c m + f j * g k) m = c m + f j * g k from by simp [updF]]; exact updF_row 32 c m _] at hC2
          have HA := Lib.hid (hA.other ⟨w.heap.size + 1 + 1 + 1, m, none⟩ (by simp <;> omega) (.int .u64 (u m : Nat)))
          have HB := Lib.hid (hB.other ⟨w.heap.size + 1 + 1 + 1, m, none⟩ (by simp <;> omega) (.int .u64 (u m : Nat)))
          have HO := Lib.hid (hO.other ⟨w.heap.size + 1 + 1 + 1, m, none⟩ (by simp <;> omega) (.int .u64 (u m : Nat)))
          have HC := Lib.hid hC2
          have HBel : Hid (Below w.heap.size w (wr.setCell ⟨w.heap.size + 1 + 1 + 1, m, none⟩ (.int .u64 (u m : Nat)))) := Lib.hid (hbel.setCell (by simp <;> omega) _)
          clear hA hB hO hC hC2 hM hu hm
          go_wp2
          go_region
          go_wp2
          go_roundw
          case rel => exact ⟨k + 1, u, by omega, by go_num, HA.out.drew, HB.out.drew, HO.out.drew, HC.out.drew, HM.out, HBel.out.drew⟩
          case measure => simp [intOf]; omega
        · obtain rfl : k = 16 := by omega
          have HA := Lib.hid hA; have HB := Lib.hid hB; have HO := Lib.hid hO; have HC := Lib.hid hC; have HM := Lib.hid hM.out
          clear hA hB hO hC hM hlk hk
          go_wp2
          go_roundw
          case rel => exact ⟨j + 1, c, by omega, by go_num, HA.out, HB.out, HO.out, HC.out, HM.out, hbel⟩
          case measure => simp [intOf]; omega
    · obtain rfl : j = 16 := by omega
      have HS := Lib.hid (fold_step hM.lo)
      have HL := Lib.hid (fld_le hM.lo)
      have HR := Lib.hid (HV.out c hM)
      have HC := Lib.hid hC; have HO := Lib.hid hO
      clear hA hB hC hO hM hlj hj
      go_upto_region 10 with fail
      have hq : w.heap.size + 1 + 1 + 1 < wr.heap.size := HC.out.lt
      refine wp_gen (fun W => Blk W (w.heap.size + 1 + 1) [.int .u64 0, .int .u64 0, .int .u64 0, .int .u64 0, .int .u64 0, .int .u64 0, .int .u64 0, .int .u64 0, .int .u64 0, .int .u64 0, .int .u64 0, .int .u64 0, .int .u64 0, .int .u64 0, .int .u64 0, .int .u64 0] 54 ∧ Blk W (w.heap.size + 1 + 1 + 1) (row 32 (fV c)) 70 ∧ Blk W wr.heap.size (row 16 (fV (upV (fldF c) 0))) 54 ∧ Below w.heap.size w W) ?_ (fun W0 hW => ?_)
      · exact ⟨HO.out.alloc _, HC.out.alloc _, Blk.new' (by simp), (by repeat (first | (with_reducible refine Below.alloc' ?_ _) | (with_reducible refine Below.drew ?_) | (with_reducible refine below_drewN ?_ _) | ((with_reducible refine Below.setCell ?_ ?_ _); rotate_left; (focus (first | exact Nat.le_refl _ | (simp; done) | (simp; omega)))) | (with_reducible assumption) | (with_reducible exact Below.refl _ _)))⟩
      clear HO HC hbel
      generalize wr.heap.size = q at *
      have HQ := Lib.hid hq
      clear hq wr
      obtain ⟨hO, hC, hA, hbel⟩ := hW
      go_wp2
      go_loopw [9] (fun i wr => ∃ j : Nat, j ≤ 16 ∧ i = .int .i64 j ∧ Blk wr (w.heap.size + 1 + 1) [.int .u64 0, .int .u64 0, .int .u64 0, .int .u64 0, .int .u64 0, .int .u64 0, .int .u64 0, .int .u64 0, .int .u64 0, .int .u64 0, .int .u64 0, .int .u64 0, .int .u64 0, .int .u64 0, .int .u64 0, .int .u64 0] 54 ∧ Blk wr (w.heap.size + 1 + 1 + 1) (row 32 (fV c)) 70 ∧ Blk wr q (row 16 (fV (upV (fldF c) j))) 54 ∧ Below w.heap.size w wr) (fun i _ => 16 - (intOf i).toNat)
      case atStart => exact ⟨0, by omega, rfl, hO, hC, hA, hbel⟩
      case round =>
        clear hO hC hA hbel W0
        obtain ⟨j, hj, rfl, hO, hC, hA, hbel⟩ := hrel
        by_cases hlj : j < 16
        · obtain ⟨p, s1, s2⟩ := HS.out j
          have ca : wr.cell? ⟨w.heap.size + 1 + 1 + 1, j, none⟩ = some (.int .u64 (c j : Nat)) := hC.at (by omega)
          have cb : wr.cell? ⟨w.heap.size + 1 + 1 + 1, j + 16, none⟩ = some (.int .u64 (c (j + 16) : Nat)) := hC.at (by omega)
          have cq : wr.cell? ⟨q, j, none⟩ = some (.int .u64 (upV (fldF c) j j : Nat)) := hA.at hlj
          have hfr := hA.frozen j
          have hA2 := hA.set j (.int .u64 (fldF c j : Nat))
          rw [upV_step] at hA2
          have HA := Lib.hid hA2
          have HC := Lib.hid (hC.other ⟨q, j, none⟩ (by have := HQ.out; simp; omega) (.int .u64 (fldF c j : Nat)))
          have HO := Lib.hid (hO.other ⟨q, j, none⟩ (by have := HQ.out; simp; omega) (.int .u64 (fldF c j : Nat)))
          have HBel : Hid (Below w.heap.size w (wr.setCell ⟨q, j, none⟩ (.int .u64 (fldF c j : Nat)))) := Lib.hid (hbel.setCell (by have := HQ.out; simp; omega) _)
          clear hA hA2 hC hO
          go_wp2
          go_region
          go_wp2
          go_roundw
          case rel => exact ⟨j + 1, by omega, by go_num, HO.out.drew, HC.out.drew, HA.out.drew, HBel.out.drew⟩
          case measure => simp [intOf]; omega
        · obtain rfl : j = 16 := by omega
          rw [upV_full] at hA
          have hAr := hA.range
          have HO := Lib.hid hO
          clear hA hO hC hlj hj
          go_wp2_with (first | (refine wpList_load_mid rfl 54 (.tmp 8) rfl q 0 rfl (row 16 (fV (fldF c))) _ hAr Try.underlying54 rfl (infoFe _) ?_) | (go_at_call 46; (with_reducible refine (rcarried_any (fldF c) HL.out _).mono ?_; rintro e w2 ⟨rfl, hb⟩; rw [HR.out]; obtain ⟨W3, hst3, hB3, hbel3, _, _⟩ := st_row (n := 16) (HO.out.below' hb) rfl (Below.call hbel hb) (by omega) (d16 R); clear hAr hb; have HB3 := Lib.hid hB3; clear hB3)))
          refine bodyPost_ret (v := .agg (row 16 (fV (d16 R))).toArray) (results_cell_row Try.results33 _ _ (w.heap.size + 1 + 1) _ _ _ _ ?_ HB3.out Try.underlying54 ?_ (infoFeA _)) ?_ ?_
          · rfl
          · rfl
          · rfl
          · exact ⟨rfl, hbel3⟩
end Go.Proofs.Ytmoggjbnlimepaa
