/- The walks of the document's own scalars, fourth part: products, opposites. -/
import Derived.Test.YtbgfokdchpcifaaSrx
namespace Go.Proofs.Ytbgfokdchpcifaa
open Go.RowKit

/-- A row of columns. -/
def iV (f : Nat → Nat) (i : Nat) : Value := .int .i64 (f i : Nat)
theorem updN_row (n : Nat) (c : Nat → Nat) (m v : Nat) : (row n (iV c)).set m (.int .i64 (v : Nat)) = row n (iV (updN c m v)) :=
  row_set m _ (by simp [iV, updN]) (fun i _ hi => by simp [iV, updN, hi])
theorem make64i (w : World) : (Instr.makeSlice 63 (.int .i64 64) (.int .i64 64)).run Try.prog w = .ok (.slice (some ⟨w.heap.size, 0, none⟩) 64 64) (w.alloc (.cells (row 64 (iV fun _ => 0)).toArray 3)) := by kernel_rfl
theorem make64b (w : World) : (Instr.makeSlice 22 (.int .i64 64) (.int .i64 64)).run Try.prog w = .ok (.slice (some ⟨w.heap.size, 0, none⟩) 64 64) (w.alloc (.cells (row 64 (uV fun _ => 0)).toArray 5)) := by kernel_rfl
/-- The bytes, the last ones reckoned. -/
def ouV (c : Nat → Nat) (t i : Nat) : Nat := if t ≤ i then dB (hv c 64) (63 - i) else 0
theorem ouV_start (c : Nat → Nat) : row 64 (uV fun _ => 0) = row 64 (uV (ouV c 64)) := row_ext fun i hi => by unfold uV ouV; rw [if_neg (by omega)]
theorem ouV_step (c : Nat → Nat) (t : Nat) : (row 64 (uV (ouV c (t + 1)))).set t (.int .u8 (dB (hv c 64) (63 - t) : Nat)) = row 64 (uV (ouV c t)) := by
  refine row_set t _ (by simp [uV, ouV]) (fun i _ hi => ?_)
  unfold uV ouV
  by_cases h : t ≤ i
  · rw [if_pos h, if_pos (by omega)]
  · rw [if_neg h, if_neg (by omega)]
theorem ouV_full (c : Nat → Nat) : row 64 (uV (ouV c 0)) = row 64 (uV (bR 64 (hv c 64))) := row_ext fun i hi => by unfold uV ouV bR; rw [if_pos (by omega)]
set_option maxHeartbeats 4000000 in
theorem rscmul_any {x y R : Nat} (hx : x < 256 ^ 32) (hy : y < 256 ^ 32) (hR : x * y % Lq = R) (w : World) :
    Calls Try.prog 22 #[.agg (row 32 (uV (bR 32 x))).toArray, .agg (row 32 (uV (bR 32 y))).toArray] w fun e w' => e = .returned (.agg (row 32 (uV (bR 32 R))).toArray) ∧ Below w.heap.size w w' := by
  have HV : Hid (∀ c, MbOut (bR 32 x) (bR 32 y) c 32 → hv c 64 = x * y) := Lib.hid (fun c h => h.fin hx hy)
  have HP := Lib.hid (fun i k => prodB_le x y i k)
  have HS : Hid (x * y < 256 ^ 64) := Lib.hid (by
    have h := Nat.mul_lt_mul'' hx hy
    rw [← Nat.pow_add] at h; exact h)
  have HRR := Lib.hid hR
  clear hx hy hR
  have HF : Hid (∀ i, bR 32 x i < 256) := Lib.hid (bR_lt 32 x)
  have HG : Hid (∀ i, bR 32 y i < 256) := Lib.hid (bR_lt 32 y)
  generalize bR 32 x = f at *
  generalize bR 32 y = g at *
  go_enter Try.func22, Try.ntmps22
  have hmk := make64i
  go_upto_region 2 with fail
  clear hmk
  refine wp_gen (fun W => Blk W w.heap.size (row 32 (uV f)) 40 ∧ Blk W (w.heap.size + 1) (row 32 (uV g)) 40 ∧ Blk W (w.heap.size + 1 + 1) [.int .u8 0, .int .u8 0, .int .u8 0, .int .u8 0, .int .u8 0, .int .u8 0, .int .u8 0, .int .u8 0, .int .u8 0, .int .u8 0, .int .u8 0, .int .u8 0, .int .u8 0, .int .u8 0, .int .u8 0, .int .u8 0, .int .u8 0, .int .u8 0, .int .u8 0, .int .u8 0, .int .u8 0, .int .u8 0, .int .u8 0, .int .u8 0, .int .u8 0, .int .u8 0, .int .u8 0, .int .u8 0, .int .u8 0, .int .u8 0, .int .u8 0, .int .u8 0] 40 ∧ Blk W (w.heap.size + 1 + 1 + 1) (row 64 (iV fun _ => 0)) 3 ∧ Below w.heap.size w W) ?_ (fun W0 hW => ?_)
  · exact ⟨(((Blk.new w _ _).alloc _).alloc _).alloc _, ((Blk.new' (by simp)).alloc _).alloc _, (Blk.new' (by simp)).alloc _, Blk.new' (by simp), (by repeat (first | (with_reducible refine Below.alloc' ?_ _) | (with_reducible refine Below.drew ?_) | (with_reducible refine below_drewN ?_ _) | ((with_reducible refine Below.setCell ?_ ?_ _); rotate_left; (focus (first | exact Nat.le_refl _ | (simp; done) | (simp; omega)))) | (with_reducible assumption) | (with_reducible exact Below.refl _ _)))⟩
  obtain ⟨hA, hB, hO, hC, hbel⟩ := hW
  generalize Value.agg (row 32 (uV f)).toArray = V1
  generalize Value.agg (row 32 (uV g)).toArray = V2
  go_wp2
  go_loopw [6] (fun i wr => ∃ (j : Nat) (c : Nat → Nat), j ≤ 32 ∧ i = .int .i64 j ∧ Blk wr w.heap.size (row 32 (uV f)) 40 ∧ Blk wr (w.heap.size + 1) (row 32 (uV g)) 40 ∧ Blk wr (w.heap.size + 1 + 1) [.int .u8 0, .int .u8 0, .int .u8 0, .int .u8 0, .int .u8 0, .int .u8 0, .int .u8 0, .int .u8 0, .int .u8 0, .int .u8 0, .int .u8 0, .int .u8 0, .int .u8 0, .int .u8 0, .int .u8 0, .int .u8 0, .int .u8 0, .int .u8 0, .int .u8 0, .int .u8 0, .int .u8 0, .int .u8 0, .int .u8 0, .int .u8 0, .int .u8 0, .int .u8 0, .int .u8 0, .int .u8 0, .int .u8 0, .int .u8 0, .int .u8 0, .int .u8 0] 40 ∧ Blk wr (w.heap.size + 1 + 1 + 1) (row 64 (iV c)) 3 ∧ MbOut f g c j ∧ Below w.heap.size w wr) (fun i _ => 32 - (intOf i).toNat)
  case atStart => exact ⟨0, fun _ => 0, by omega, rfl, hA, hB, hO, hC, MbOut.start f g, hbel⟩
  case round =>
    clear hA hB hO hC hbel W0
    obtain ⟨j, c, hj, rfl, hA, hB, hO, hC, hM, hbel⟩ := hrel
    by_cases hlj : j < 32
    · have HA := Lib.hid hA; have HB := Lib.hid hB; have HO := Lib.hid hO; have HC := Lib.hid hC; have HM := Lib.hid hM
      clear hA hB hO hC hM
      obtain ⟨wo, rfl⟩ : ∃ wo : World, wo = wr := ⟨_, rfl⟩
      have hd : decide ((j : Int) < 32) = true := by simp; omega
      go_wp2
      go_loopw [7] (fun kk wr => ∃ (k : Nat) (c : Nat → Nat), k ≤ 32 ∧ kk = .int .i64 k ∧ Blk wr w.heap.size (row 32 (uV f)) 40 ∧ Blk wr (w.heap.size + 1) (row 32 (uV g)) 40 ∧ Blk wr (w.heap.size + 1 + 1) [.int .u8 0, .int .u8 0, .int .u8 0, .int .u8 0, .int .u8 0, .int .u8 0, .int .u8 0, .int .u8 0, .int .u8 0, .int .u8 0, .int .u8 0, .int .u8 0, .int .u8 0, .int .u8 0, .int .u8 0, .int .u8 0, .int .u8 0, .int .u8 0, .int .u8 0, .int .u8 0, .int .u8 0, .int .u8 0, .int .u8 0, .int .u8 0, .int .u8 0, .int .u8 0, .int .u8 0, .int .u8 0, .int .u8 0, .int .u8 0, .int .u8 0, .int .u8 0] 40 ∧ Blk wr (w.heap.size + 1 + 1 + 1) (row 64 (iV c)) 3 ∧ MbIn f g c j k ∧ Below w.heap.size w wr) (fun kk _ => 32 - (intOf kk).toNat)
      case atStart => exact ⟨0, c, by omega, rfl, HA.out, HB.out, HO.out, HC.out, HM.out.into, hbel⟩
      case round =>
        clear HA HB HO HC HM hbel
        obtain ⟨k, c, hk, rfl, hA, hB, hO, hC, hM, hbel⟩ := hrel
        by_cases hlk : k < 32
        · obtain ⟨m, hm⟩ : ∃ m, m = j + k + 1 := ⟨_, rfl⟩
          have hcm := hM.hi (j + k + 1) (Nat.le_refl _)
          have hp := HP.out j k
          have HM := Lib.hid (hM.step hlk hlj hp)
          rw [← hm] at HM hcm
          have ca : wr.cell? ⟨w.heap.size, j, none⟩ = some (.int .u8 (f j : Nat)) := hA.at hlj
          have cb : wr.cell? ⟨w.heap.size + 1, k, none⟩ = some (.int .u8 (g k : Nat)) := hB.at hlk
          have cc : wr.cell? ⟨w.heap.size + 1 + 1 + 1, m, none⟩ = some (.int .i64 (c m : Nat)) := hC.at (by omega)
          have hwm' : (j : Int) + (k : Int) + 1 = (m : Int) := by omega
          have hj1 : (j : Int) < 32 := by omega
          have hk1 : (k : Int) < 32 := by omega
          have hm32 : m < 64 := by omega
          have hfj := HF.out j
          have hgk := HG.out k
          have hpr : ((f j : Nat) : Int) * ((g k : Nat) : Int) = ((f j * g k : Nat) : Int) := by simp
          have hcm2 : c m ≤ 31 * MB := Nat.le_trans hcm (Nat.mul_le_mul_right _ (by omega))
          have hsum : ((c m : Nat) : Int) + ((f j * g k : Nat) : Int) = ((c m + f j * g k : Nat) : Int) := by simp
          have hb1 : ((c m : Nat) : Int) ≤ 3000000 := by unfold MB at hcm2; omega
          have hb2 : ((f j * g k : Nat) : Int) ≤ 70000 := by unfold MB at hp; omega
          have hfr := hC.frozen m
          generalize hu : updN c m (c m + f j * g k) = u at *
          obtain ⟨s, hs⟩ : ∃ s, s = c m + f j * g k := ⟨_, rfl⟩
          have hC2 := hC.set m (.int .i64 (s : Nat))
          rw [show (row 64 (iV c)).set m (.int .i64 (s : Nat)) = row 64 (iV u) from by rw [← hu, hs]; exact updN_row 64 c m _] at hC2
          have HA := Lib.hid (hA.other ⟨w.heap.size + 1 + 1 + 1, m, none⟩ (by simp <;> omega) (.int .i64 (s : Nat)))
          have HB := Lib.hid (hB.other ⟨w.heap.size + 1 + 1 + 1, m, none⟩ (by simp <;> omega) (.int .i64 (s : Nat)))
          have HO := Lib.hid (hO.other ⟨w.heap.size + 1 + 1 + 1, m, none⟩ (by simp <;> omega) (.int .i64 (s : Nat)))
          have HC := Lib.hid hC2
          have HBel : Hid (Below w.heap.size w (wr.setCell ⟨w.heap.size + 1 + 1 + 1, m, none⟩ (.int .i64 (s : Nat)))) := Lib.hid (hbel.setCell (by simp <;> omega) _)
          rw [← hs] at hsum
          generalize f j = p at *
          generalize g k = q at *
          obtain ⟨pq, hpq⟩ : ∃ pq, pq = p * q := ⟨_, rfl⟩
          rw [← hpq] at hpr hsum hb2
          have hs1 : (s : Int) ≤ 4000000 := by omega
          generalize c m = cm at *
          clear hA hB hO hC hC2 hM hu hm hp hcm hcm2 hpq hs
          go_wp2
          go_region
          go_wp2
          go_roundw
          case rel => exact ⟨k + 1, u, by omega, by go_num, HA.out.drew, HB.out.drew, HO.out.drew, HC.out.drew, HM.out, HBel.out.drew⟩
          case measure => simp [intOf]; omega
        · obtain rfl : k = 32 := by omega
          have HA := Lib.hid hA; have HB := Lib.hid hB; have HO := Lib.hid hO; have HC := Lib.hid hC; have HM := Lib.hid (hM.out hlj)
          clear hA hB hO hC hM hlk hk
          go_wp2
          go_roundw
          case rel => exact ⟨j + 1, c, by omega, by go_num, HA.out, HB.out, HO.out, HC.out, HM.out, hbel⟩
          case measure => simp [intOf]; omega
    · obtain rfl : j = 32 := by omega
      have HVV := Lib.hid (HV.out c hM)
      have HL := Lib.hid hM.lo
      have HC := Lib.hid hC; have HO := Lib.hid hO
      clear hA hB hC hO hM hlj hj
      have hmk := make64b
      go_upto_region 10 with fail
      clear hmk
      have hq : w.heap.size + 1 + 1 + 1 < wr.heap.size := HC.out.lt
      refine wp_gen (fun W => Blk W (w.heap.size + 1 + 1) [.int .u8 0, .int .u8 0, .int .u8 0, .int .u8 0, .int .u8 0, .int .u8 0, .int .u8 0, .int .u8 0, .int .u8 0, .int .u8 0, .int .u8 0, .int .u8 0, .int .u8 0, .int .u8 0, .int .u8 0, .int .u8 0, .int .u8 0, .int .u8 0, .int .u8 0, .int .u8 0, .int .u8 0, .int .u8 0, .int .u8 0, .int .u8 0, .int .u8 0, .int .u8 0, .int .u8 0, .int .u8 0, .int .u8 0, .int .u8 0, .int .u8 0, .int .u8 0] 40 ∧ Blk W (w.heap.size + 1 + 1 + 1) (row 64 (iV c)) 3 ∧ Blk W wr.heap.size (row 64 (uV (ouV c 64))) 5 ∧ Below w.heap.size w W) ?_ (fun W0 hW => ?_)
      · rw [← ouV_start]
        exact ⟨HO.out.alloc _, HC.out.alloc _, Blk.new' (by simp), (by repeat (first | (with_reducible refine Below.alloc' ?_ _) | (with_reducible refine Below.drew ?_) | (with_reducible refine below_drewN ?_ _) | ((with_reducible refine Below.setCell ?_ ?_ _); rotate_left; (focus (first | exact Nat.le_refl _ | (simp; done) | (simp; omega)))) | (with_reducible assumption) | (with_reducible exact Below.refl _ _)))⟩
      clear HO HC hbel
      generalize wr.heap.size = q at *
      have HQ := Lib.hid hq
      clear hq wr
      obtain ⟨hO, hC, hA, hbel⟩ := hW
      go_wp2
      go_loopw [9, 10] (fun cv i wr => ∃ t : Nat, t ≤ 64 ∧ i = .int .i64 ((t : Int) - 1) ∧ cv = .int .i64 (crN c (64 - t) : Nat) ∧ Blk wr (w.heap.size + 1 + 1) [.int .u8 0, .int .u8 0, .int .u8 0, .int .u8 0, .int .u8 0, .int .u8 0, .int .u8 0, .int .u8 0, .int .u8 0, .int .u8 0, .int .u8 0, .int .u8 0, .int .u8 0, .int .u8 0, .int .u8 0, .int .u8 0, .int .u8 0, .int .u8 0, .int .u8 0, .int .u8 0, .int .u8 0, .int .u8 0, .int .u8 0, .int .u8 0, .int .u8 0, .int .u8 0, .int .u8 0, .int .u8 0, .int .u8 0, .int .u8 0, .int .u8 0, .int .u8 0] 40 ∧ Blk wr (w.heap.size + 1 + 1 + 1) (row 64 (iV c)) 3 ∧ Blk wr q (row 64 (uV (ouV c t))) 5 ∧ Below w.heap.size w wr) (fun _ i _ => (intOf i + 1).toNat)
      case atStart => exact ⟨64, by omega, rfl, by rw [Nat.sub_self]; rfl, hO, hC, hA, hbel⟩
      case round =>
        clear hO hC hA hbel W0
        obtain ⟨t, ht, rfl, rfl, hO, hC, hA, hbel⟩ := hrel
        by_cases ht0 : t = 0
        · subst ht0
          rw [ouV_full] at hA
          have HR := Lib.hid (rdRow hA (by unfold maxLen; omega))
          have HW : Hid (beN ((leB 64 (hv c 64)).reverse) % Lq = R) := Lib.hid (by rw [beN_leB, HVV.out, Nat.mod_eq_of_lt HS.out, HRR.out])
          have HO := Lib.hid hO
          rw [show (((0 : Nat) : Int) - 1) = -1 from rfl]
          clear hA hC hO HVV HS HRR HL HV HP HF HG
          go_wp2_with fail
          refine (rmod_v HW.out HR.out (by omega)).mono ?_
          rintro e w3 ⟨rfl, hb⟩
          have HO3 := HO.out.below' hb
          obtain ⟨W3, hst3, hB3, hbel3⟩ := st_sc HO3 rfl (Below.call hbel hb) (by omega) R
          have HB3 := Lib.hid hB3
          clear hb hB3 HO3 hbel HO HR HW
          go_simp
          rename_i aK
          refine aK _ _ ?_
          go_wp2
          refine bodyPost_ret (v := .agg (row 32 (uV (bR 32 R))).toArray) (results_cell_row Try.results22 _ _ (w.heap.size + 1 + 1) _ _ _ _ ?_ HB3.out Try.underlying40 ?_ (infoScA _)) ?_ ?_
          · rfl
          · rfl
          · rfl
          · exact ⟨rfl, hbel3⟩
        · obtain ⟨i, rfl⟩ : ∃ i, t = i + 1 := ⟨t - 1, by omega⟩
          rw [show (((i + 1 : Nat) : Int) - 1) = (i : Int) from by omega]
          rw [show 64 - (i + 1) = 63 - i by omega]
          have s1 := crN_digit c (63 - i) (by omega)
          rw [show 63 - (63 - i) = i by omega] at s1
          have s2 : crN c (63 - i + 1) = (c i + crN c (63 - i)) / 256 := by
            show (c (63 - (63 - i)) + crN c (63 - i)) / 256 = _
            rw [show 63 - (63 - i) = i by omega]
          have s3 := crN_le HL.out (63 - i)
          have s4 := HL.out i
          have cc : wr.cell? ⟨w.heap.size + 1 + 1 + 1, i, none⟩ = some (.int .i64 (c i : Nat)) := hC.at (by omega)
          have cq := hA.at (k := i) (by omega)
          have hfr := hA.frozen i
          unfold uV at cq
          have i0 : (0 : Int) ≤ (i : Int) := by omega
          have i1 : (i : Int) < 64 := by omega
          obtain ⟨D, hD⟩ : ∃ D, D = dB (hv c 64) (63 - i) := ⟨_, rfl⟩
          obtain ⟨c', hc'⟩ : ∃ c', c' = crN c (63 - i + 1) := ⟨_, rfl⟩
          rw [← hD] at s1
          rw [← hc'] at s2
          have hA2 := hA.set i (.int .u8 (D : Nat))
          rw [hD, ouV_step] at hA2
          have HA := Lib.hid hA2
          have HC := Lib.hid (hC.other ⟨q, i, none⟩ (by have := HQ.out; simp; omega) (.int .u8 (D : Nat)))
          have HO := Lib.hid (hO.other ⟨q, i, none⟩ (by have := HQ.out; simp; omega) (.int .u8 (D : Nat)))
          have HBel : Hid (Below w.heap.size w (wr.setCell ⟨q, i, none⟩ (.int .u8 (D : Nat)))) := Lib.hid (hbel.setCell (by have := HQ.out; simp; omega) _)
          rw [← hD] at HA
          have HCY := Lib.hid hc'
          have hci : ((c i : Nat) : Int) ≤ 3000000 := by unfold MB at s4; omega
          generalize c i = ci at *
          generalize crN c (63 - i) = cr at *
          obtain ⟨V, hV⟩ : ∃ V : Nat, V = ci + cr := ⟨_, rfl⟩
          rw [← hV] at s1 s2
          have hsum : (ci : Int) + (cr : Int) = (V : Int) := by omega
          have hV1 : (V : Int) ≤ 4000000 := by omega
          have hcr1 : (cr : Int) ≤ 10000 := by omega
          have f1 : (V : Int) % 256 = (D : Int) := by omega
          have f2 : (V : Int) / 256 = (c' : Int) := by omega
          clear hA hC hO hA2 hV hD hc' s1 s2 s3 s4 ht0
          go_wp2
          go_roundw
          case rel => exact ⟨i, by omega, rfl, by rw [HCY.out, show 64 - i = 63 - i + 1 by omega], HO.out, HC.out, HA.out, HBel.out⟩
          case measure => simp [intOf]
end Go.Proofs.Ytbgfokdchpcifaa
