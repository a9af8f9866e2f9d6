/- The walks of the document's own field, fifth part: small numbers, sums, differences. -/
import Derived.Test.YtmoggjbnlimepaaRfg
namespace Go.Proofs.Ytmoggjbnlimepaa
open Go.RowKit

theorem v16_add (f g : Nat → Nat) : ∀ n, v16 (fun i => f i + g i) n = v16 f n + v16 g n
  | 0 => rfl
  | n + 1 => by simp only [v16]; rw [v16_add f g n, Nat.add_mul]; omega
theorem v16_mul (c : Nat) (f : Nat → Nat) : ∀ n, v16 (fun i => c * f i) n = c * v16 f n
  | 0 => rfl
  | n + 1 => by simp only [v16]; rw [v16_mul c f n, Nat.mul_add, Nat.mul_assoc]
theorem Pq16 {x : Nat} (h : x < Pq) : x < 65536 ^ 16 := Nat.lt_trans h (by decide +kernel)
theorem d16_v {x : Nat} (h : x < Pq) : v16 (d16 x) 16 = x := by rw [d16_val, Nat.mod_eq_of_lt (Pq16 h)]
theorem primeF_v : v16 primeF 16 = Pq := by decide +kernel
/-- The first j limbs new, the others old. -/
def mxV (f g : Nat → Nat) (j i : Nat) : Nat := if i < j then g i else f i
theorem mxV_zero (f g : Nat → Nat) (n : Nat) : row n (fV (mxV f g 0)) = row n (fV f) := row_ext fun i _ => by simp [fV, mxV]
theorem mxV_full (f g : Nat → Nat) (n : Nat) : row n (fV (mxV f g n)) = row n (fV g) := row_ext fun i hi => by simp [fV, mxV, hi]
theorem mxV_step (n : Nat) (f g : Nat → Nat) (j : Nat) : (row n (fV (mxV f g j))).set j (.int .u64 (g j : Nat)) = row n (fV (mxV f g (j + 1))) := by
  refine row_set j _ (by simp [fV, mxV]) (fun i _ hi => ?_)
  unfold fV mxV
  by_cases h : i < j
  · rw [if_pos h, if_pos (by omega)]
  · rw [if_neg h, if_neg (by omega)]
theorem mxV_at (f g : Nat → Nat) (j : Nat) : fV (mxV f g j) j = .int .u64 (f j : Nat) := by simp [fV, mxV]

def sumF (x y i : Nat) : Nat := d16 x i + d16 y i
theorem sumF_le (x y i : Nat) : sumF x y i ≤ 17592186044416 := by have := d16_lt x i; have := d16_lt y i; unfold sumF; omega
theorem sumF_v (x y : F) : v16 (sumF x.val y.val) 16 % Pq = (x + y).val := by
  rw [show sumF x.val y.val = fun i => d16 x.val i + d16 y.val i from rfl, v16_add, d16_v x.isLt, d16_v y.isLt]; rfl
set_option maxHeartbeats 1000000 in
theorem raddM (x y : F) (w : World) :
    Calls Try.prog 32 #[.agg (row 16 (fV (d16 x.val))).toArray, .agg (row 16 (fV (d16 y.val))).toArray] w fun e w' => e = .returned (.agg (row 16 (fV (d16 (x + y).val))).toArray) ∧ Below w.heap.size w w' := by
  have HV := Lib.hid (sumF_v x y)
  have HT := Lib.hid (sumF_le x.val y.val)
  generalize (x + y).val = R at *
  have HS := Lib.hid (show ∀ i, IntKind.u64.wrap ((d16 x.val i : Nat) + (d16 y.val i : Nat) : Int) = (sumF x.val y.val i : Nat) from fun i => by
    have := d16_lt x.val i; have := d16_lt y.val i; rw [wrapU]; unfold sumF; omega)
  generalize sumF x.val y.val = s at *
  generalize d16 x.val = f at *
  generalize d16 y.val = g at *
  go_enter Try.func32, Try.ntmps32
  go_upto_region 1 with fail
  refine wp_gen (fun W => Blk W w.heap.size (row 16 (fV (mxV f s 0))) 54 ∧ Blk W (w.heap.size + 1) (row 16 (fV g)) 54 ∧ Blk W (w.heap.size + 1 + 1) [.int .u64 0, .int .u64 0, .int .u64 0, .int .u64 0, .int .u64 0, .int .u64 0, .int .u64 0, .int .u64 0, .int .u64 0, .int .u64 0, .int .u64 0, .int .u64 0, .int .u64 0, .int .u64 0, .int .u64 0, .int .u64 0] 54 ∧ Below w.heap.size w W) ?_ (fun W0 hW => ?_)
  · rw [mxV_zero]
    exact ⟨((Blk.new w _ _).alloc _).alloc _, (Blk.new' (by simp)).alloc _, Blk.new' (by simp), (by repeat (first | (with_reducible refine Below.alloc' ?_ _) | (with_reducible refine Below.drew ?_) | (with_reducible refine below_drewN ?_ _) | ((with_reducible refine Below.setCell ?_ ?_ _); rotate_left; (focus (first | exact Nat.le_refl _ | (simp; done) | (simp; omega)))) | (with_reducible assumption) | (with_reducible exact Below.refl _ _)))⟩
  obtain ⟨hA, hB, hO, hbel⟩ := hW
  go_wp2
  go_loopw [5] (fun i wr => ∃ j : Nat, j ≤ 16 ∧ i = .int .i64 j ∧ Blk wr w.heap.size (row 16 (fV (mxV f s j))) 54 ∧ Blk wr (w.heap.size + 1) (row 16 (fV g)) 54 ∧ Blk wr (w.heap.size + 1 + 1) [.int .u64 0, .int .u64 0, .int .u64 0, .int .u64 0, .int .u64 0, .int .u64 0, .int .u64 0, .int .u64 0, .int .u64 0, .int .u64 0, .int .u64 0, .int .u64 0, .int .u64 0, .int .u64 0, .int .u64 0, .int .u64 0] 54 ∧ Below w.heap.size w wr) (fun i _ => 16 - (intOf i).toNat)
  case atStart => exact ⟨0, by omega, rfl, hA, hB, hO, hbel⟩
  case round =>
    clear hA hB hO hbel W0
    obtain ⟨j, hj, rfl, hA, hB, hO, hbel⟩ := hrel
    by_cases hlj : j < 16
    · have ca : wr.cell? ⟨w.heap.size, j, none⟩ = some (.int .u64 (f j : Nat)) := by rw [hA.at hlj, mxV_at]
      have cb : wr.cell? ⟨w.heap.size + 1, j, none⟩ = some (.int .u64 (g j : Nat)) := hB.at hlj
      have hs := HS.out j
      have hfr := hA.frozen j
      have hA2 := hA.set j (.int .u64 (s j : Nat))
      rw [mxV_step] at hA2
      have HA := Lib.hid hA2
      have HB := Lib.hid (hB.other ⟨w.heap.size, j, none⟩ (by simp) (.int .u64 (s j : Nat)))
      have HO := Lib.hid (hO.other ⟨w.heap.size, j, none⟩ (by simp <;> omega) (.int .u64 (s j : Nat)))
      clear hA hA2 hO hB
      go_wp2
      go_region
      go_wp2
      go_roundw
      case rel => exact ⟨j + 1, by omega, by go_num, HA.out.drew, HB.out.drew, HO.out.drew, (by repeat (first | (with_reducible refine Below.alloc' ?_ _) | (with_reducible refine Below.drew ?_) | (with_reducible refine below_drewN ?_ _) | ((with_reducible refine Below.setCell ?_ ?_ _); rotate_left; (focus (first | exact Nat.le_refl _ | (simp; done) | (simp; omega)))) | (with_reducible assumption) | (with_reducible exact Below.refl _ _)))⟩
      case measure => simp [intOf]; omega
    · obtain rfl : j = 16 := by omega
      rw [mxV_full] at hA
      have hAr := hA.range
      have HO := Lib.hid hO
      clear hA hO hB hlj hj
      go_wp2_with (first | (refine wpList_load_mid rfl 54 (.tmp 2) rfl w.heap.size 0 rfl (row 16 (fV s)) _ hAr Try.underlying54 rfl (infoFe _) ?_) | (go_at_call 46; (with_reducible refine (rcarried_any s HT.out _).mono ?_; rintro e w2 ⟨rfl, hb⟩; rw [HV.out]; obtain ⟨W3, hst3, hB3, hbel3, _, _⟩ := st_row (n := 16) (HO.out.below' hb) rfl (Below.call hbel hb) (by omega) (d16 R); clear hAr hb; have HB3 := Lib.hid hB3; clear hB3)))
      refine bodyPost_ret (v := .agg (row 16 (fV (d16 R))).toArray) (results_cell_row Try.results32 _ _ (w.heap.size + 1 + 1) _ _ _ _ ?_ HB3.out Try.underlying54 ?_ (infoFeA _)) ?_ ?_
      · rfl
      · rfl
      · rfl
      · exact ⟨rfl, hbel3⟩

def difF (x y i : Nat) : Nat := d16 x i + 4 * primeF i - d16 y i
theorem primeF_ge (i : Nat) : 32767 ≤ primeF i ∧ primeF i ≤ 65535 := by unfold primeF; split <;> (try split) <;> omega
theorem difF_le (x y i : Nat) : difF x y i ≤ 17592186044416 := by have := d16_lt x i; have := primeF_ge i; unfold difF; omega
theorem difF_v (x y : F) : v16 (difF x.val y.val) 16 % Pq = (x - y).val := by
  have h1 : v16 (fun i => difF x.val y.val i + d16 y.val i) 16 = v16 (fun i => d16 x.val i + 4 * primeF i) 16 := v16_congr 16 fun i _ => by
    have := d16_lt y.val i; have := primeF_ge i; unfold difF; omega
  rw [v16_add, v16_add, v16_mul, d16_v x.isLt, d16_v y.isLt, primeF_v] at h1
  rw [Fin.sub_def]
  show _ = (Pq - y.val + x.val) % Pq
  have hy := y.isLt
  have e : v16 (difF x.val y.val) 16 = Pq - y.val + x.val + Pq * 3 := by omega
  rw [e, Nat.add_mul_mod_self_left]
theorem dif_step (x y i : Nat) : ∃ s1 s2 : Nat, IntKind.u64.wrap (4 * (primeF i : Nat) : Int) = (s1 : Int) ∧ IntKind.u64.wrap ((d16 x i : Nat) + (s1 : Nat) : Int) = (s2 : Int) ∧ IntKind.u64.wrap ((s2 : Nat) - (d16 y i : Nat) : Int) = (difF x y i : Nat) := by
  have h1 := d16_lt x i; have h2 := d16_lt y i; have h3 := primeF_ge i
  refine ⟨4 * primeF i, d16 x i + 4 * primeF i, ?_, ?_, ?_⟩
  · rw [wrapU]; omega
  · rw [wrapU]; omega
  · rw [wrapU]; unfold difF; omega
set_option maxHeartbeats 1000000 in
theorem rsubM (x y : F) (w : World) :
    Calls Try.prog 34 #[.agg (row 16 (fV (d16 x.val))).toArray, .agg (row 16 (fV (d16 y.val))).toArray] w fun e w' => e = .returned (.agg (row 16 (fV (d16 (x - y).val))).toArray) ∧ Below w.heap.size w w' := by
  have HV := Lib.hid (difF_v x y)
  have HT := Lib.hid (difF_le x.val y.val)
  generalize (x - y).val = R at *
  have HS := Lib.hid (dif_step x.val y.val)
  generalize difF x.val y.val = s at *
  generalize d16 x.val = f at *
  generalize d16 y.val = g at *
  have hSN := fun W => st_new W primeF
  go_enter Try.func34, Try.ntmps34
  go_upto_region 2 with (go_at_call 47; (with_reducible refine (rprimeA _).mono ?_; rintro e w1 ⟨rfl, hb⟩; have hA := (((Blk.new w (row 16 (fV f)).toArray 54).alloc (.cells (row 16 (fV g)).toArray 54)).alloc (.cells #[.int .u64 0, .int .u64 0, .int .u64 0, .int .u64 0, .int .u64 0, .int .u64 0, .int .u64 0, .int .u64 0, .int .u64 0, .int .u64 0, .int .u64 0, .int .u64 0, .int .u64 0, .int .u64 0, .int .u64 0, .int .u64 0] 54)).below' hb; have hB := ((Blk.new' (w := w.alloc (.cells (row 16 (fV f)).toArray 54)) (cs := (row 16 (fV g)).toArray) (E := 54) (g := w.heap.size + 1) (by simp)).alloc (.cells #[.int .u64 0, .int .u64 0, .int .u64 0, .int .u64 0, .int .u64 0, .int .u64 0, .int .u64 0, .int .u64 0, .int .u64 0, .int .u64 0, .int .u64 0, .int .u64 0, .int .u64 0, .int .u64 0, .int .u64 0, .int .u64 0] 54)).below' hb; have hO := (Blk.new' (w := (w.alloc (.cells (row 16 (fV f)).toArray 54)).alloc (.cells (row 16 (fV g)).toArray 54)) (cs := #[.int .u64 0, .int .u64 0, .int .u64 0, .int .u64 0, .int .u64 0, .int .u64 0, .int .u64 0, .int .u64 0, .int .u64 0, .int .u64 0, .int .u64 0, .int .u64 0, .int .u64 0, .int .u64 0, .int .u64 0, .int .u64 0]) (E := 54) (g := w.heap.size + 1 + 1) (by simp)).below' hb; have hbel := Below.call (show Below w.heap.size w _ from (by repeat (first | (with_reducible refine Below.alloc' ?_ _) | (with_reducible refine Below.drew ?_) | (with_reducible refine below_drewN ?_ _) | ((with_reducible refine Below.setCell ?_ ?_ _); rotate_left; (focus (first | exact Nat.le_refl _ | (simp; done) | (simp; omega)))) | (with_reducible assumption) | (with_reducible exact Below.refl _ _)))) hb; clear hb))
  have hq : w.heap.size + 1 + 1 < w1.heap.size := hO.lt
  refine wp_gen (fun W => Blk W w.heap.size (row 16 (fV (mxV f s 0))) 54 ∧ Blk W (w.heap.size + 1) (row 16 (fV g)) 54 ∧ Blk W (w.heap.size + 1 + 1) [.int .u64 0, .int .u64 0, .int .u64 0, .int .u64 0, .int .u64 0, .int .u64 0, .int .u64 0, .int .u64 0, .int .u64 0, .int .u64 0, .int .u64 0, .int .u64 0, .int .u64 0, .int .u64 0, .int .u64 0, .int .u64 0] 54 ∧ Blk W w1.heap.size (row 16 (fV primeF)) 54 ∧ Below w.heap.size w W) ?_ (fun W0 hW => ?_)
  · rw [mxV_zero]
    exact ⟨hA.alloc _, hB.alloc _, hO.alloc _, Blk.new' rfl, (by repeat (first | (with_reducible refine Below.alloc' ?_ _) | (with_reducible refine Below.drew ?_) | (with_reducible refine below_drewN ?_ _) | ((with_reducible refine Below.setCell ?_ ?_ _); rotate_left; (focus (first | exact Nat.le_refl _ | (simp; done) | (simp; omega)))) | (with_reducible assumption) | (with_reducible exact Below.refl _ _)))⟩
  clear hA hB hO hbel hSN
  generalize w1.heap.size = q at *
  have HQ := Lib.hid hq
  clear hq w1
  obtain ⟨hA, hB, hO, hP, hbel⟩ := hW
  go_wp2
  go_loopw [6] (fun i wr => ∃ j : Nat, j ≤ 16 ∧ i = .int .i64 j ∧ Blk wr w.heap.size (row 16 (fV (mxV f s j))) 54 ∧ Blk wr (w.heap.size + 1) (row 16 (fV g)) 54 ∧ Blk wr (w.heap.size + 1 + 1) [.int .u64 0, .int .u64 0, .int .u64 0, .int .u64 0, .int .u64 0, .int .u64 0, .int .u64 0, .int .u64 0, .int .u64 0, .int .u64 0, .int .u64 0, .int .u64 0, .int .u64 0, .int .u64 0, .int .u64 0, .int .u64 0] 54 ∧ Blk wr q (row 16 (fV primeF)) 54 ∧ Below w.heap.size w wr) (fun i _ => 16 - (intOf i).toNat)
  case atStart => exact ⟨0, by omega, rfl, hA, hB, hO, hP, hbel⟩
  case round =>
    clear hA hB hO hP hbel W0
    obtain ⟨j, hj, rfl, hA, hB, hO, hP, hbel⟩ := hrel
    by_cases hlj : j < 16
    · have ca : wr.cell? ⟨w.heap.size, j, none⟩ = some (.int .u64 (f j : Nat)) := by rw [hA.at hlj, mxV_at]
      have cb : wr.cell? ⟨w.heap.size + 1, j, none⟩ = some (.int .u64 (g j : Nat)) := hB.at hlj
      have cp : wr.cell? ⟨q, j, none⟩ = some (.int .u64 (primeF j : Nat)) := hP.at hlj
      obtain ⟨s1, s2, e1, e2, e3⟩ := HS.out j
      have hfr := hA.frozen j
      have hA2 := hA.set j (.int .u64 (s j : Nat))
      rw [mxV_step] at hA2
      have HA := Lib.hid hA2
      have HB := Lib.hid (hB.other ⟨w.heap.size, j, none⟩ (by simp) (.int .u64 (s j : Nat)))
      have HO := Lib.hid (hO.other ⟨w.heap.size, j, none⟩ (by simp <;> omega) (.int .u64 (s j : Nat)))
      have HP := Lib.hid (hP.other ⟨w.heap.size, j, none⟩ (by have := HQ.out; simp; omega) (.int .u64 (s j : Nat)))
      clear hA hA2 hO hB hP
      generalize primeF j = pj at *
      go_wp2
      go_region
      go_wp2
      go_roundw
      case rel => exact ⟨j + 1, by omega, by go_num, HA.out.drew, HB.out.drew, HO.out.drew, HP.out.drew, (by repeat (first | (with_reducible refine Below.alloc' ?_ _) | (with_reducible refine Below.drew ?_) | (with_reducible refine below_drewN ?_ _) | ((with_reducible refine Below.setCell ?_ ?_ _); rotate_left; (focus (first | exact Nat.le_refl _ | (simp; done) | (simp; omega)))) | (with_reducible assumption) | (with_reducible exact Below.refl _ _)))⟩
      case measure => simp [intOf]; omega
    · obtain rfl : j = 16 := by omega
      rw [mxV_full] at hA
      have hAr := hA.range
      have HO := Lib.hid hO
      clear hA hO hB hP hlj hj
      go_wp2_with (first | (refine wpList_load_mid rfl 54 (.tmp 2) rfl w.heap.size 0 rfl (row 16 (fV s)) _ hAr Try.underlying54 rfl (infoFe _) ?_) | (go_at_call 46; (with_reducible refine (rcarried_any s HT.out _).mono ?_; rintro e w2 ⟨rfl, hb⟩; rw [HV.out]; obtain ⟨W3, hst3, hB3, hbel3, _, _⟩ := st_row (n := 16) (HO.out.below' hb) rfl (Below.call hbel hb) (by omega) (d16 R); clear hAr hb; have HB3 := Lib.hid hB3; clear hB3)))
      refine bodyPost_ret (v := .agg (row 16 (fV (d16 R))).toArray) (results_cell_row Try.results34 _ _ (w.heap.size + 1 + 1) _ _ _ _ ?_ HB3.out Try.underlying54 ?_ (infoFeA _)) ?_ ?_
      · rfl
      · rfl
      · rfl
      · exact ⟨rfl, hbel3⟩
end Go.Proofs.Ytmoggjbnlimepaa
