/- The walks of the document's own field, third part: carrying. -/
import Derived.Test.YtmoggjbnlimepaaRow
namespace Go.Proofs.Ytmoggjbnlimepaa
open Go.RowKit

theorem rleastB (x : Nat) (hx : x < 65536 ^ 16) (b : Bool) (hp : decide (x < Pq) = b) (w : World) : Calls Try.prog 53 #[.agg (row 16 (fV (d16 x))).toArray] w fun e w' => e = .returned (.bool b) ∧ Below w.heap.size w w' := by
  refine (rleast_any x hx w).mono ?_
  rintro e w' ⟨rfl, hb⟩
  exact ⟨ret_bool hp, hb⟩
theorem rprimeA (w : World) : Calls Try.prog 47 #[] w fun e w' => e = .returned (.agg (row 16 (fV primeF)).toArray) ∧ Below w.heap.size w w' := rprime_any w
def it3 (f : Nat → Nat) : Nat → Nat → Nat
  | 0 => f
  | k + 1 => rnd16 (it3 f k)
theorem it3_three (f : Nat → Nat) : it3 f 3 = fin16 f := rfl
theorem it3_le (f : Nat → Nat) (h : ∀ i, f i ≤ 17592186044416) : ∀ k i, it3 f k i ≤ 17592186044416
  | 0, i => h i
  | k + 1, i => by
    have hn := rnd16_nr (it3 f k) _ (cr16_lt (it3 f k) _ (it3_le f h k) 16)
    show rnd16 (it3 f k) i ≤ _
    by_cases e : i = 0
    · subst e; have := hn.z; omega
    · have := hn.r i (by omega); omega
/-- The row, the first j limbs carried. -/
def pV (g : Nat → Nat) (j i : Nat) : Nat := if i < j then pas16 g i else g i
theorem pV_zero (g : Nat → Nat) : row 16 (fV (pV g 0)) = row 16 (fV g) := row_ext fun i _ => by simp [fV, pV]
theorem pV_full (g : Nat → Nat) : row 16 (fV (pV g 16)) = row 16 (fV (pas16 g)) := row_ext fun i hi => by simp [fV, pV, hi]
theorem pV_step (g : Nat → Nat) (j : Nat) : (row 16 (fV (pV g j))).set j (.int .u64 (pas16 g j : Nat)) = row 16 (fV (pV g (j + 1))) := by
  refine row_set j _ (by simp [fV, pV]) (fun i _ hi => ?_)
  unfold fV pV
  by_cases h : i < j
  · rw [if_pos h, if_pos (by omega)]
  · rw [if_neg h, if_neg (by omega)]
theorem and16 (x : Nat) (h : x < 18446744073709551616) : bits BinOp.and IntKind.u64 (x : Int) 65535 = ((x % 65536 : Nat) : Int) := by
  rw [show (65535 : Int) = ((65535 : Nat) : Int) from rfl, u64_and_nat x 65535 h (by omega), show x &&& 65535 = x % 65536 from Nat.and_two_pow_sub_one_eq_mod x 16]
theorem and15 (x : Nat) (h : x < 18446744073709551616) : bits BinOp.and IntKind.u64 (x : Int) 32767 = ((x % 32768 : Nat) : Int) := by
  rw [show (32767 : Int) = ((32767 : Nat) : Int) from rfl, u64_and_nat x 32767 h (by omega), show x &&& 32767 = x % 32768 from Nat.and_two_pow_sub_one_eq_mod x 15]
theorem step16 (g : Nat → Nat) (j : Nat) (h : g j + cr16 g j < 18446744073709551616) :
    ∃ s : Nat, IntKind.u64.wrap ((g j : Nat) + (cr16 g j : Nat) : Int) = (s : Int) ∧ bits BinOp.and IntKind.u64 (s : Int) 65535 = (pas16 g j : Nat) ∧ (s : Int) / 65536 = (cr16 g (j + 1) : Nat) := by
  refine ⟨g j + cr16 g j, by rw [wrapU]; omega, ?_, ?_⟩
  · rw [and16 _ h]; rfl
  · rw [cr16]; omega
theorem rnd_row (g : Nat → Nat) : ((row 16 (fV (pas16 g))).set 0 (.int .u64 (rnd16 g 0 : Nat))).set 15 (.int .u64 (rnd16 g 15 : Nat)) = row 16 (fV (rnd16 g)) := by
  apply List.ext_getElem
  · simp [row]
  · intro i h1 h2
    have hi : i < 16 := by simpa [row] using h2
    rw [List.getElem_set, List.getElem_set]
    by_cases e : 15 = i
    · subst e; rw [if_pos rfl]; simp [row, fV]
    · rw [if_neg e]
      by_cases e0 : 0 = i
      · subst e0; rw [if_pos rfl]; simp [row, fV]
      · rw [if_neg e0]
        simp only [row, List.getElem_map, List.getElem_range, fV]
        congr 2
        simp only [rnd16, if_neg (show ¬ i = 0 by omega), if_neg (show ¬ i = 15 by omega)]
theorem rnd_facts (g : Nat → Nat) (h : ∀ i, g i ≤ 17592186044416) : ∃ m1 m2 q m3 : Nat,
    IntKind.u64.wrap (38 * ((cr16 g 16 : Nat) : Int)) = (m1 : Int) ∧ IntKind.u64.wrap (((pas16 g 0 : Nat) : Int) + (m1 : Int)) = (m2 : Int) ∧ ((pas16 g 15 : Nat) : Int) / 32768 = (q : Int) ∧
    IntKind.u64.wrap (19 * (q : Int)) = (m3 : Int) ∧ IntKind.u64.wrap ((m2 : Int) + (m3 : Int)) = (rnd16 g 0 : Nat) ∧ bits BinOp.and IntKind.u64 ((pas16 g 15 : Nat) : Int) 32767 = (rnd16 g 15 : Nat) := by
  have h1 := cr16_lt g _ h 16
  have h2 := pas16_lt g 0
  have h3 := pas16_lt g 15
  refine ⟨38 * cr16 g 16, pas16 g 0 + 38 * cr16 g 16, pas16 g 15 / 32768, 19 * (pas16 g 15 / 32768), ?_, ?_, ?_, ?_, ?_, ?_⟩
  · rw [wrapU]; omega
  · rw [wrapU]; omega
  · omega
  · rw [wrapU]; omega
  · rw [wrapU]; simp only [rnd16, if_true]; omega
  · rw [and15 _ (by omega)]; simp [rnd16]
/-- p and a little more: its limbs. -/
theorem over16 : ∀ d : Fin 19, ∀ i : Fin 16, d16 (Pq + d.val) i.val = primeF i.val + d16 d.val i.val := by decide +kernel
/-- The row, p taken off the first j limbs. -/
def qV (y d j i : Nat) : Nat := if i < j then d16 d i else d16 y i
theorem qV_zero (y d : Nat) : row 16 (fV (qV y d 0)) = row 16 (fV (d16 y)) := row_ext fun i _ => by simp [fV, qV]
theorem qV_full (y d : Nat) : row 16 (fV (qV y d 16)) = row 16 (fV (d16 d)) := row_ext fun i hi => by simp [fV, qV, hi]
theorem qV_step (y d j : Nat) : (row 16 (fV (qV y d j))).set j (.int .u64 (d16 d j : Nat)) = row 16 (fV (qV y d (j + 1))) := by
  refine row_set j _ (by simp [fV, qV]) (fun i _ hi => ?_)
  unfold fV qV
  by_cases h : i < j
  · rw [if_pos h, if_pos (by omega)]
  · rw [if_neg h, if_neg (by omega)]
theorem off16 {y d : Nat} (hd : d < 19) (hy : y = Pq + d) (j : Nat) (hj : j < 16) : ∃ s : Nat,
    IntKind.u64.wrap ((d16 y j : Nat) + 65536 : Int) = ((primeF j + s : Nat) : Int) ∧ IntKind.u64.wrap (((primeF j + s : Nat) : Int) - (primeF j : Nat)) = (s : Int) ∧ IntKind.u64.wrap (s : Int) = (s : Int) ∧ bits BinOp.and IntKind.u64 (s : Int) 65535 = (d16 d j : Nat) ∧ IntKind.u64.wrap (1 - (s : Int) / 65536) = 0 := by
  have h1 := over16 ⟨d, hd⟩ ⟨j, hj⟩
  have h2 := d16_lt d j
  have h3 := d16_lt y j
  rw [← hy] at h1
  simp only at h1
  refine ⟨65536 + d16 d j, ?_, ?_, ?_, ?_, ?_⟩
  · rw [wrapU]; omega
  · rw [wrapU]; omega
  · rw [wrapU]; omega
  · rw [and16 _ (by omega)]; omega
  · rw [wrapU]; omega
set_option maxHeartbeats 2000000 in
theorem rcarried_any (f : Nat → Nat) (h : ∀ i, f i ≤ 17592186044416) (w : World) :
    Calls Try.prog 46 #[.agg (row 16 (fV f)).toArray] w fun e w' => e = .returned (.agg (row 16 (fV (d16 (v16 f 16 % Pq)))).toArray) ∧ Below w.heap.size w w' := by
  have HLE := Lib.hid (it3_le f h)
  have hok := fin16_ok f h
  generalize v16 f 16 % Pq = R at *
  have HOK := Lib.hid hok
  clear h hok
  go_enter Try.func46, Try.ntmps46
  go_upto_region 1 with fail
  refine wp_gen (fun W => Blk W w.heap.size (row 16 (fV (it3 f 0))) 54 ∧ Blk W (w.heap.size + 1) [.int .u64 0, .int .u64 0, .int .u64 0, .int .u64 0, .int .u64 0, .int .u64 0, .int .u64 0, .int .u64 0, .int .u64 0, .int .u64 0, .int .u64 0, .int .u64 0, .int .u64 0, .int .u64 0, .int .u64 0, .int .u64 0] 54 ∧ Below w.heap.size w W) ?_ (fun W0 hW => ?_)
  · rw [row16]
    exact ⟨(Blk.new w _ _).alloc _, Blk.new' (by simp), (by repeat (first | (with_reducible refine Below.alloc' ?_ _) | (with_reducible refine Below.drew ?_) | (with_reducible refine below_drewN ?_ _) | ((with_reducible refine Below.setCell ?_ ?_ _); rotate_left; (focus (first | exact Nat.le_refl _ | (simp; done) | (simp; omega)))) | (with_reducible assumption) | (with_reducible exact Below.refl _ _)))⟩
  obtain ⟨hA, hO, hbel⟩ := hW
  go_wp2
  go_loopw [3] (fun i wr => ∃ k : Nat, k ≤ 3 ∧ i = .int .i64 k ∧ Blk wr w.heap.size (row 16 (fV (it3 f k))) 54 ∧ Blk wr (w.heap.size + 1) [.int .u64 0, .int .u64 0, .int .u64 0, .int .u64 0, .int .u64 0, .int .u64 0, .int .u64 0, .int .u64 0, .int .u64 0, .int .u64 0, .int .u64 0, .int .u64 0, .int .u64 0, .int .u64 0, .int .u64 0, .int .u64 0] 54 ∧ Below w.heap.size w wr) (fun i _ => 3 - (intOf i).toNat)
  case atStart => exact ⟨0, by omega, rfl, hA, hO, hbel⟩
  case round =>
    clear hA hO hbel W0
    obtain ⟨k, hk, rfl, hA, hO, hbel⟩ := hrel
    by_cases hlt : k < 3
    · have hd : decide ((k : Int) < 3) = true := by simp; omega
      have hle : ∀ i, it3 f k i ≤ 17592186044416 := HLE.out k
      have hcr := cr16_lt (it3 f k) _ hle
      obtain ⟨g, hg⟩ : ∃ g, g = it3 f k := ⟨_, rfl⟩
      rw [← hg] at hle hcr hA
      have HG : Hid (it3 f (k + 1) = rnd16 g) := Lib.hid (by rw [hg]; rfl)
      have HS := Lib.hid (fun j => step16 g j (by have := hle j; have := hcr j; omega))
      have HF := Lib.hid (rnd_facts g hle)
      clear hg hle hcr
      obtain ⟨wo, rfl⟩ : ∃ wo : World, wo = wr := ⟨_, rfl⟩
      go_wp2
      go_loopw [4, 5] (fun c i wr => ∃ j : Nat, j ≤ 16 ∧ i = .int .i64 j ∧ c = .int .u64 (cr16 g j : Nat) ∧ Blk wr w.heap.size (row 16 (fV (pV g j))) 54 ∧ Blk wr (w.heap.size + 1) [.int .u64 0, .int .u64 0, .int .u64 0, .int .u64 0, .int .u64 0, .int .u64 0, .int .u64 0, .int .u64 0, .int .u64 0, .int .u64 0, .int .u64 0, .int .u64 0, .int .u64 0, .int .u64 0, .int .u64 0, .int .u64 0] 54 ∧ Below w.heap.size w wr) (fun _ i _ => 16 - (intOf i).toNat)
      case atStart => exact ⟨0, by omega, rfl, rfl, by rw [pV_zero]; exact hA, hO, hbel⟩
      case round =>
        clear hA hO hbel
        obtain ⟨j, hj, rfl, rfl, hA, hO, hbel⟩ := hrel
        by_cases hlj : j < 16
        · obtain ⟨s, hs, ha, hd2⟩ := HS.out j
          have hcell : wr.cell? ⟨w.heap.size, j, none⟩ = some (.int .u64 (g j : Nat)) := by have := hA.at hlj; rw [this]; simp [fV, pV]
          have hfr := hA.frozen j
          have hA2 := hA.set j (.int .u64 (pas16 g j : Nat))
          rw [pV_step] at hA2
          have HA := Lib.hid hA2
          have HO := Lib.hid (hO.other ⟨w.heap.size, j, none⟩ (by simp) (.int .u64 (pas16 g j : Nat)))
          have HD := Lib.hid hd2
          clear hA hA2 hO hd2
          go_wp2
          go_roundw
          case rel => exact ⟨j + 1, by omega, by go_num, by rw [HD.out], HA.out, HO.out, (by repeat (first | (with_reducible refine Below.alloc' ?_ _) | (with_reducible refine Below.drew ?_) | (with_reducible refine below_drewN ?_ _) | ((with_reducible refine Below.setCell ?_ ?_ _); rotate_left; (focus (first | exact Nat.le_refl _ | (simp; done) | (simp; omega)))) | (with_reducible assumption) | (with_reducible exact Below.refl _ _)))⟩
          case measure => simp [intOf]; omega
        · obtain rfl : j = 16 := by omega
          rw [pV_full] at hA
          obtain ⟨m1, m2, q, m3, f1, f2, f3, f4, f5, f6⟩ := HF.out
          have c0 : wr.cell? ⟨w.heap.size, 0, none⟩ = some (.int .u64 (pas16 g 0 : Nat)) := hA.at (by omega)
          have c15 : wr.cell? ⟨w.heap.size, 15, none⟩ = some (.int .u64 (pas16 g 15 : Nat)) := hA.at (by omega)
          have hfr := hA.frozen
          have hA2 := (hA.set 0 (.int .u64 (rnd16 g 0 : Nat))).set 15 (.int .u64 (rnd16 g 15 : Nat))
          rw [rnd_row] at hA2
          have HA := Lib.hid hA2
          have HO := Lib.hid ((hO.other ⟨w.heap.size, 0, none⟩ (by simp) (.int .u64 (rnd16 g 0 : Nat))).other ⟨w.heap.size, 15, none⟩ (by simp) (.int .u64 (rnd16 g 15 : Nat)))
          clear hA hA2 hO hlj hj
          go_wp2
          go_roundw
          case rel => exact ⟨k + 1, by omega, by go_num, by rw [HG.out]; exact HA.out, HO.out, (by repeat (first | (with_reducible refine Below.alloc' ?_ _) | (with_reducible refine Below.drew ?_) | (with_reducible refine below_drewN ?_ _) | ((with_reducible refine Below.setCell ?_ ?_ _); rotate_left; (focus (first | exact Nat.le_refl _ | (simp; done) | (simp; omega)))) | (with_reducible assumption) | (with_reducible exact Below.refl _ _)))⟩
          case measure => simp [intOf]; omega
    · obtain rfl : k = 3 := by omega
      obtain ⟨hcn, hmod⟩ := HOK.out
      rw [it3_three] at hA
      have hlt2 := hcn.lt
      have hrow : row 16 (fV (fin16 f)) = row 16 (fV (d16 (v16 (fin16 f) 16))) := row_ext fun i hi => by
        unfold fV; rw [d16_of (fin16 f) hcn.r 16 i hi]
      rw [hrow] at hA
      have HR := Lib.hid hmod
      clear hmod
      have HOK2 := HOK
      clear HOK HOK2
      generalize v16 (fin16 f) 16 = y at *
      clear hrow hcn hlt hk HLE
      have HL2 := Lib.hid hlt2
      have HY : Hid (y < 65536 ^ 16) := Lib.hid (Nat.lt_trans hlt2 (by decide +kernel))
      go_wp2
      go_loopg [9] 1 (fun n u wr => ∃ z : Nat, z < 65536 ^ 16 ∧ z % Pq = R ∧ ((n = 1 ∧ ∃ d, d < 19 ∧ z = Pq + d) ∨ z < Pq) ∧ Blk wr w.heap.size (row 16 (fV (d16 z))) 54 ∧ Blk wr (w.heap.size + 1) [.int .u64 0, .int .u64 0, .int .u64 0, .int .u64 0, .int .u64 0, .int .u64 0, .int .u64 0, .int .u64 0, .int .u64 0, .int .u64 0, .int .u64 0, .int .u64 0, .int .u64 0, .int .u64 0, .int .u64 0, .int .u64 0] 54 ∧ Below w.heap.size w wr)
      case atStart =>
        by_cases hp : y < Pq
        · exact ⟨y, HY.out, HR.out, .inr hp, hA, hO, hbel⟩
        · refine ⟨y, HY.out, HR.out, .inl ⟨rfl, y - Pq, ?_, ?_⟩, hA, hO, hbel⟩
          · have := HL2.out; unfold Pq at *; omega
          · omega
      case round =>
        clear hA hO hbel
        obtain ⟨z, hz, hzR, hcase, hA, hO, hbel⟩ := hrel
        have hAr := hA.range
        have HA := Lib.hid hA; have HO := Lib.hid hO
        have HZ := Lib.hid hz; have HZR := Lib.hid hzR
        clear hA hO hz hzR HL2 HR HY
        by_cases hp : z < Pq
        · have HD : Hid (decide (z < Pq) = true) := Lib.hid (decide_eq_true hp)
          have HM : Hid (R = z) := Lib.hid (by rw [← HZR.out, Nat.mod_eq_of_lt hp])
          clear hp hcase
          go_wp2_with (first | (refine wpList_load_mid rfl 54 (.tmp 1) rfl w.heap.size 0 rfl (row 16 (fV (d16 z))) _ hAr Try.underlying54 rfl (infoFe _) ?_) | (go_at_call 53; (with_reducible refine (rleastB z HZ.out _ HD.out _).mono ?_; rintro e w2 ⟨rfl, hb⟩; obtain ⟨W3, hst3, hB3, hbel3, _, _⟩ := st_row (n := 16) (HO.out.below' hb) rfl (Below.call hbel hb) (Nat.le_succ _) (d16 z); have hA2 := HA.out.below' hb; clear hAr hb; have hAr := hA2.range; have HB3 := Lib.hid hB3; clear hA2 hB3)))
          refine bodyPost_ret (v := .agg (row 16 (fV (d16 z))).toArray) (results_cell_row Try.results46 _ _ (w.heap.size + 1) _ _ _ _ ?_ HB3.out Try.underlying54 ?_ (infoFeA _)) ?_ ?_
          · rfl
          · rfl
          · rfl
          · exact ⟨by rw [HM.out], hbel3⟩
        · obtain ⟨hgk, d, hd19, hy2⟩ : gk = 1 ∧ ∃ d, d < 19 ∧ z = Pq + d := by
            rcases hcase with ⟨h1, h2⟩ | h2
            · exact ⟨h1, h2⟩
            · exact absurd h2 hp
          have HGK := Lib.hid hgk
          have HD : Hid (decide (z < Pq) = false) := Lib.hid (decide_eq_false hp)
          have HD2 : Hid (d < Pq) := Lib.hid (by unfold Pq; omega)
          have HM : Hid (d % Pq = R) := Lib.hid (by rw [← HZR.out, hy2, Nat.add_mod_left])
          have HDL : Hid (d < 65536 ^ 16) := Lib.hid (Nat.lt_trans hd19 (by decide +kernel))
          have HOF := Lib.hid (fun j hj => off16 hd19 hy2 j hj)
          clear hp hd19 hy2 hcase HZR hgk
          have hSN := fun W => st_new W primeF
          go_upto_region 15 with (first | (refine wpList_load_mid rfl 54 (.tmp 1) rfl w.heap.size 0 rfl (row 16 (fV (d16 z))) _ hAr Try.underlying54 rfl (infoFe _) ?_) | (go_at_call 53; (with_reducible refine (rleastB z HZ.out _ HD.out _).mono ?_; rintro e w2 ⟨rfl, hb⟩; have HO2 := Lib.hid (HO.out.below' hb); have HA2 := Lib.hid (HA.out.below' hb); have hbel2 := Below.call hbel hb; clear hAr hb)) | (go_at_call 47; (with_reducible refine (rprimeA _).mono ?_; rintro e w3 ⟨rfl, hb⟩; have HO3 := Lib.hid (HO2.out.below' hb); have HA3 := Lib.hid (HA2.out.below' hb); have hbel3 := Below.call hbel2 hb; clear hb)))
          refine wp_gen (fun W => Blk W w.heap.size (row 16 (fV (d16 z))) 54 ∧ Blk W (w.heap.size + 1) [.int .u64 0, .int .u64 0, .int .u64 0, .int .u64 0, .int .u64 0, .int .u64 0, .int .u64 0, .int .u64 0, .int .u64 0, .int .u64 0, .int .u64 0, .int .u64 0, .int .u64 0, .int .u64 0, .int .u64 0, .int .u64 0] 54 ∧ Blk W w3.heap.size (row 16 (fV primeF)) 54 ∧ Below w.heap.size w W) ?_ (fun W0 hW => ?_)
          · exact ⟨HA3.out.alloc _, HO3.out.alloc _, Blk.new w3 _ _, (by repeat (first | (with_reducible refine Below.alloc' ?_ _) | (with_reducible refine Below.drew ?_) | (with_reducible refine below_drewN ?_ _) | ((with_reducible refine Below.setCell ?_ ?_ _); rotate_left; (focus (first | exact Nat.le_refl _ | (simp; done) | (simp; omega)))) | (with_reducible assumption) | (with_reducible exact Below.refl _ _)))⟩
          have hg0 : w.heap.size < w3.heap.size := HA3.out.lt
          clear HA3 HO3 hbel3 HO2 HA2 hbel2 HA HO hbel hSN
          obtain ⟨hA, hO, hP, hbel⟩ := hW
          generalize w3.heap.size = g at *
          clear w3 w2 wr
          go_wp2
          go_loopw [8, 9] (fun c i wr => ∃ j : Nat, j ≤ 16 ∧ i = .int .i64 j ∧ c = .int .u64 0 ∧ Blk wr w.heap.size (row 16 (fV (qV z d j))) 54 ∧ Blk wr (w.heap.size + 1) [.int .u64 0, .int .u64 0, .int .u64 0, .int .u64 0, .int .u64 0, .int .u64 0, .int .u64 0, .int .u64 0, .int .u64 0, .int .u64 0, .int .u64 0, .int .u64 0, .int .u64 0, .int .u64 0, .int .u64 0, .int .u64 0] 54 ∧ Blk wr g (row 16 (fV primeF)) 54 ∧ g ≠ w.heap.size ∧ Below w.heap.size w wr) (fun _ i _ => 16 - (intOf i).toNat)
          case atStart => exact ⟨0, by omega, rfl, rfl, by rw [qV_zero]; exact hA, hO, hP, Nat.ne_of_gt hg0, hbel⟩
          case round =>
            clear hA hO hbel hP hg0
            obtain ⟨j, hj, rfl, rfl, hA, hO, hP, hne, hbel⟩ := hrel
            by_cases hlj : j < 16
            · obtain ⟨s, s1, s2, s3, s4, s5⟩ := HOF.out j hlj
              have ca : wr.cell? ⟨w.heap.size, j, none⟩ = some (.int .u64 (d16 z j : Nat)) := by have := hA.at hlj; rw [this]; simp [fV, qV]
              have cp : wr.cell? ⟨g, j, none⟩ = some (.int .u64 (primeF j : Nat)) := hP.at hlj
              obtain ⟨t, ht⟩ : ∃ t, t = primeF j + s := ⟨_, rfl⟩
              rw [← ht] at s1 s2
              have hfr := hA.frozen j
              have hA2 := hA.set j (.int .u64 (d16 d j : Nat))
              rw [qV_step] at hA2
              have HA := Lib.hid hA2
              have HO := Lib.hid (hO.other ⟨w.heap.size, j, none⟩ (by simp) (.int .u64 (d16 d j : Nat)))
              have HP := Lib.hid (hP.other ⟨w.heap.size, j, none⟩ (by simpa using Ne.symm hne) (.int .u64 (d16 d j : Nat)))
              have HN := Lib.hid hne
              clear hA hA2 hO hP ht hne
              go_wp2
              go_region
              go_wp2
              go_roundw
              case rel => exact ⟨j + 1, by omega, by go_num, rfl, HA.out.drew, HO.out.drew, HP.out.drew, HN.out, (by repeat (first | (with_reducible refine Below.alloc' ?_ _) | (with_reducible refine Below.drew ?_) | (with_reducible refine below_drewN ?_ _) | ((with_reducible refine Below.setCell ?_ ?_ _); rotate_left; (focus (first | exact Nat.le_refl _ | (simp; done) | (simp; omega)))) | (with_reducible assumption) | (with_reducible exact Below.refl _ _)))⟩
              case measure => simp [intOf]; omega
            · obtain rfl : j = 16 := by omega
              rw [qV_full] at hA
              have HA := Lib.hid hA; have HO := Lib.hid hO
              clear hA hO hP hlj hj
              go_wp2
              go_roundg 0
              case rel => exact ⟨d, HDL.out, HM.out, .inr HD2.out, HA.out, HO.out, hbel⟩
              case measure => have := HGK.out; omega
end Go.Proofs.Ytmoggjbnlimepaa
