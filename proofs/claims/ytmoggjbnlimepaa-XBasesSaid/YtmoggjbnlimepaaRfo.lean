/- The walks of the document's own field, eleventh part: powers, the walk; inverses. -/
import Derived.Test.YtmoggjbnlimepaaRfm
namespace Go.Proofs.Ytmoggjbnlimepaa
open Go.RowKit

theorem rmulN (x y : F) (b : Nat) (h : (x * y).val = b) (w : World) :
    Calls Try.prog 33 #[.agg (row 16 (fV (d16 x.val))).toArray, .agg (row 16 (fV (d16 y.val))).toArray] w fun e w' => e = .returned (.agg (row 16 (fV (d16 b))).toArray) ∧ Below w.heap.size w w' := by subst h; exact rmulM x y w
theorem rsmall1 (w : World) : Calls Try.prog 31 #[.int .u64 1] w fun e w' => e = .returned (.agg (row 16 (fV (d16 (1 : F).val))).toArray) ∧ Below w.heap.size w w' := rsmallM 1 (by omega) w
set_option maxHeartbeats 4000000 in
theorem rpowM (x : F) {n : Nat} (ln : Nat) (hln : ln = n) (hn : n ≤ 1000) (w : World) (ge : Nat) (f : Nat → Nat) (hf : ∀ i, f i < 256) (hE : Blk w ge (row n (uV f)) 5) :
    Calls Try.prog 48 #[.agg (row 16 (fV (d16 x.val))).toArray, .slice (some ⟨ge, 0, none⟩) ln ln] w fun e w' => e = .returned (.agg (row 16 (fV (d16 (fpow x (beF f n)).val))).toArray) ∧ Below w.heap.size w w' := by
  subst hln
  have hSN := fun W => st_new W (d16 (1 : F).val)
  have hge := hE.lt
  have HNn := Lib.hid hn
  clear hn
  have HFF := Lib.hid hf
  clear hf
  go_enter Try.func48, Try.ntmps48
  go_upto_region 2 with (go_at_call 31; (with_reducible refine (rsmall1 _).mono ?_; rintro e w1 ⟨rfl, hb⟩; have hX := ((Blk.new w (row 16 (fV (d16 x.val))).toArray 54).alloc (.cells #[.int .u64 0, .int .u64 0, .int .u64 0, .int .u64 0, .int .u64 0, .int .u64 0, .int .u64 0, .int .u64 0, .int .u64 0, .int .u64 0, .int .u64 0, .int .u64 0, .int .u64 0, .int .u64 0, .int .u64 0, .int .u64 0] 54)).below' hb; have hO := (Blk.new' (w := w.alloc (.cells (row 16 (fV (d16 x.val))).toArray 54)) (cs := #[.int .u64 0, .int .u64 0, .int .u64 0, .int .u64 0, .int .u64 0, .int .u64 0, .int .u64 0, .int .u64 0, .int .u64 0, .int .u64 0, .int .u64 0, .int .u64 0, .int .u64 0, .int .u64 0, .int .u64 0, .int .u64 0]) (E := 54) (g := w.heap.size + 1) (by simp)).below' hb; have hE1 := (hE.below' (show Below w.heap.size w ((w.alloc (.cells (row 16 (fV (d16 x.val))).toArray 54)).alloc (.cells #[.int .u64 0, .int .u64 0, .int .u64 0, .int .u64 0, .int .u64 0, .int .u64 0, .int .u64 0, .int .u64 0, .int .u64 0, .int .u64 0, .int .u64 0, .int .u64 0, .int .u64 0, .int .u64 0, .int .u64 0, .int .u64 0] 54)) from (by repeat (first | (with_reducible refine Below.alloc' ?_ _) | (with_reducible refine Below.drew ?_) | (with_reducible refine below_drewN ?_ _) | ((with_reducible refine Below.setCell ?_ ?_ _); rotate_left; (focus (first | exact Nat.le_refl _ | (simp; done) | (simp; omega)))) | (with_reducible assumption) | (with_reducible exact Below.refl _ _))))).below' hb; have hbel := Below.call (show Below w.heap.size w _ from (by repeat (first | (with_reducible refine Below.alloc' ?_ _) | (with_reducible refine Below.drew ?_) | (with_reducible refine below_drewN ?_ _) | ((with_reducible refine Below.setCell ?_ ?_ _); rotate_left; (focus (first | exact Nat.le_refl _ | (simp; done) | (simp; omega)))) | (with_reducible assumption) | (with_reducible exact Below.refl _ _)))) hb; clear hb))
  have hq : w.heap.size + 1 < w1.heap.size := hO.lt
  refine wp_gen (fun W => Blk W ge (row ln (uV f)) 5 ∧ Blk W w.heap.size (row 16 (fV (d16 x.val))) 54 ∧ Blk W (w.heap.size + 1) [.int .u64 0, .int .u64 0, .int .u64 0, .int .u64 0, .int .u64 0, .int .u64 0, .int .u64 0, .int .u64 0, .int .u64 0, .int .u64 0, .int .u64 0, .int .u64 0, .int .u64 0, .int .u64 0, .int .u64 0, .int .u64 0] 54 ∧ Blk W w1.heap.size (row 16 (fV (d16 (fpow x 0).val))) 54 ∧ Below w.heap.size w W) ?_ (fun W0 hW => ?_)
  · rw [fpow_zero]
    exact ⟨hE1.alloc _, hX.alloc _, hO.alloc _, Blk.new' rfl, (by repeat (first | (with_reducible refine Below.alloc' ?_ _) | (with_reducible refine Below.drew ?_) | (with_reducible refine below_drewN ?_ _) | ((with_reducible refine Below.setCell ?_ ?_ _); rotate_left; (focus (first | exact Nat.le_refl _ | (simp; done) | (simp; omega)))) | (with_reducible assumption) | (with_reducible exact Below.refl _ _)))⟩
  clear hE hE1 hX hO hbel hSN
  generalize w1.heap.size = q at *
  have HQ := Lib.hid (show w.heap.size + 1 < q ∧ ge < w.heap.size from ⟨hq, hge⟩)
  clear hq hge w1
  obtain ⟨hE, hX, hO, hA, hbel⟩ := hW
  go_wp2
  go_loopw [6] (fun i wr => ∃ j : Nat, j ≤ ln ∧ i = .int .i64 j ∧ Blk wr ge (row ln (uV f)) 5 ∧ Blk wr w.heap.size (row 16 (fV (d16 x.val))) 54 ∧ Blk wr (w.heap.size + 1) [.int .u64 0, .int .u64 0, .int .u64 0, .int .u64 0, .int .u64 0, .int .u64 0, .int .u64 0, .int .u64 0, .int .u64 0, .int .u64 0, .int .u64 0, .int .u64 0, .int .u64 0, .int .u64 0, .int .u64 0, .int .u64 0] 54 ∧ Blk wr q (row 16 (fV (d16 (fpow x (beF f j)).val))) 54 ∧ Below w.heap.size w wr) (fun i _ => ln - (intOf i).toNat)
  case atStart => exact ⟨0, by omega, rfl, hE, hX, hO, hA, hbel⟩
  case round =>
    clear hE hX hO hA hbel W0
    obtain ⟨j, hj, rfl, hE, hX, hO, hA, hbel⟩ := hrel
    have hn2 : ln ≤ 1000 := HNn.out
    by_cases hlj : j < ln
    · have HE := Lib.hid hE; have HX := Lib.hid hX; have HO := Lib.hid hO
      have HA := Lib.hid (show Blk wr q (row 16 (fV (d16 (fpow x (pwN (beF f j) (f j) 8)).val))) 54 from by rw [pwN_top _ _ (HFF.out j)]; exact hA)
      have hd : decide ((j : Int) < (ln : Int)) = true := by simp; omega
      clear hE hX hO hA
      obtain ⟨wo, rfl⟩ : ∃ wo : World, wo = wr := ⟨_, rfl⟩
      go_wp2
      clear hd
      go_loopw [7] (fun i wr => ∃ k : Nat, k ≤ 8 ∧ i = .int .i64 ((k : Int) - 1) ∧ Blk wr ge (row ln (uV f)) 5 ∧ Blk wr w.heap.size (row 16 (fV (d16 x.val))) 54 ∧ Blk wr (w.heap.size + 1) [.int .u64 0, .int .u64 0, .int .u64 0, .int .u64 0, .int .u64 0, .int .u64 0, .int .u64 0, .int .u64 0, .int .u64 0, .int .u64 0, .int .u64 0, .int .u64 0, .int .u64 0, .int .u64 0, .int .u64 0, .int .u64 0] 54 ∧ Blk wr q (row 16 (fV (d16 (fpow x (pwN (beF f j) (f j) k)).val))) 54 ∧ Below w.heap.size w wr) (fun i _ => (intOf i + 1).toNat)
      case atStart => exact ⟨8, by omega, rfl, HE.out, HX.out, HO.out, HA.out, hbel⟩
      case round =>
        clear HE HX HO HA hbel
        obtain ⟨k', hk, rfl, hE, hX, hO, hA, hbel⟩ := hrel
        by_cases hk0 : k' = 0
        · subst hk0
          have HE := Lib.hid hE; have HX := Lib.hid hX; have HO := Lib.hid hO
          have HA := Lib.hid (show Blk wr q (row 16 (fV (d16 (fpow x (beF f (j + 1))).val))) 54 from by rw [pwN_low] at hA; exact hA)
          clear hE hX hO hA
          rw [show (((0 : Nat) : Int) - 1) = -1 from rfl]
          go_wp2
          go_roundw
          case rel => exact ⟨j + 1, by omega, by go_num, HE.out, HX.out, HO.out, HA.out, hbel⟩
          case measure => simp [intOf]; omega
        · obtain ⟨k, rfl⟩ : ∃ k, k' = k + 1 := ⟨k' - 1, by omega⟩
          rw [show (((k + 1 : Nat) : Int) - 1) = (k : Int) from by omega]
          have hk8 : k < 8 := by omega
          have hstep := pwN_step (beF f j) (f j) k hk8
          have hbit := bit8 (f j) k (HFF.out j)
          generalize hN : pwN (beF f j) (f j) k = N at *
          generalize pwN (beF f j) (f j) (k + 1) = M at *
          have HN := Lib.hid hN
          clear hN
          have hAr := hA.range
          have HE := Lib.hid hE; have HX := Lib.hid hX; have HO := Lib.hid hO; have HA := Lib.hid hA
          clear hE hX hO hA
          have HB := Lib.hid hbit; have HS := Lib.hid hstep
          clear hbit hstep
          go_upto_region 9 with (first | (refine wpList_load_mid rfl 54 (.tmp 5) rfl q 0 rfl (row 16 (fV (d16 (fpow x M).val))) _ hAr Try.underlying54 rfl (infoFe _) ?_) | (go_at_call 33; (with_reducible refine (rmulM (fpow x M) (fpow x M) _).mono ?_; rintro e w2 ⟨rfl, hb⟩; obtain ⟨W3, hst3, hA3, hbel3, hsz3, hk3⟩ := st_row (n := 16) (HA.out.below' hb) rfl (Below.call hbel hb) (by have := HQ.out; omega) (d16 (fpow x M * fpow x M).val); have HE3 := Lib.hid (hk3 _ _ _ (by have := HQ.out; omega) (HE.out.below' hb)); have HX3 := Lib.hid (hk3 _ _ _ (by have := HQ.out; omega) (HX.out.below' hb)); have HO3 := Lib.hid (hk3 _ _ _ (by have := HQ.out; omega) (HO.out.below' hb)); have HA3 := Lib.hid hA3; have HK3 := Lib.hid hk3; clear hb hk3 hA3 hsz3 hAr)))
          refine wp_gen (fun W => Blk W ge (row ln (uV f)) 5 ∧ Blk W w.heap.size (row 16 (fV (d16 x.val))) 54 ∧ Blk W (w.heap.size + 1) [.int .u64 0, .int .u64 0, .int .u64 0, .int .u64 0, .int .u64 0, .int .u64 0, .int .u64 0, .int .u64 0, .int .u64 0, .int .u64 0, .int .u64 0, .int .u64 0, .int .u64 0, .int .u64 0, .int .u64 0, .int .u64 0] 54 ∧ Blk W q (row 16 (fV (d16 (fpow x M * fpow x M).val))) 54 ∧ Below w.heap.size w W) ?_ (fun W0 hW => ?_)
          · exact ⟨HE3.out, HX3.out, HO3.out, HA3.out, hbel3⟩
          clear HE HX HO HA HE3 HX3 HO3 HA3 HK3 hbel hbel3 hst3 W3 w2 wr
          obtain ⟨hE, hX, hO, hA, hbel⟩ := hW
          obtain ⟨c, hc⟩ : ∃ c : Int, c = (f j : Nat) := ⟨_, rfl⟩
          have hce : W0.cell? ⟨ge, j, none⟩ = some (.int .u8 c) := by rw [hc]; exact hE.at hlj
          have hAr := hA.range
          have hXr := hX.range
          have HE := Lib.hid hE; have HX := Lib.hid hX; have HO := Lib.hid hO; have HA := Lib.hid hA
          clear hE hX hO hA
          have hf0 : 0 ≤ c := by omega
          have hf1 : c < 256 := by have := HFF.out j; omega
          have HC := Lib.hid hc
          clear hc
          by_cases hbv : f j / 2 ^ k % 2 = 1
          · have hbb : bits BinOp.and IntKind.u8 (c / 2 ^ k) 1 = 1 := by rw [HC.out, HB.out, hbv]; rfl
            have HM : Hid ((fpow x M * fpow x M * x).val = (fpow x N).val) := Lib.hid (by rw [HS.out, hbv, fpow_dbl1])
            clear hbv
            go_wp2_with (first | (refine wpList_load_mid rfl 54 (.tmp 5) rfl q 0 rfl (row 16 (fV (d16 (fpow x M * fpow x M).val))) _ hAr Try.underlying54 rfl (infoFe _) ?_) | (refine wpList_load_mid rfl 54 (.tmp 2) rfl w.heap.size 0 rfl (row 16 (fV (d16 x.val))) _ hXr Try.underlying54 rfl (infoFe _) ?_) | (go_at_call 33; (with_reducible refine (rmulN (fpow x M * fpow x M) x _ HM.out _).mono ?_; rintro e w2 ⟨rfl, hb⟩; obtain ⟨W3, hst3, hA3, hbel3, hsz3, hk3⟩ := st_row (n := 16) (HA.out.below' hb) rfl (Below.call hbel hb) (by have := HQ.out; omega) (d16 (fpow x N).val); have HE3 := Lib.hid (hk3 _ _ _ (by have := HQ.out; omega) (HE.out.below' hb)); have HX3 := Lib.hid (hk3 _ _ _ (by have := HQ.out; omega) (HX.out.below' hb)); have HO3 := Lib.hid (hk3 _ _ _ (by have := HQ.out; omega) (HO.out.below' hb)); have HA3 := Lib.hid hA3; have HK3 := Lib.hid hk3; clear hb hk3 hA3 hsz3 hAr hXr)))
            go_roundw
            case rel => exact ⟨k, by omega, rfl, HE3.out, HX3.out, HO3.out, by rw [HN.out]; exact HA3.out, hbel3⟩
            case measure => simp [intOf] <;> omega
          · have hbv0 : f j / 2 ^ k % 2 = 0 := by omega
            have hbb : bits BinOp.and IntKind.u8 (c / 2 ^ k) 1 = 0 := by rw [HC.out, HB.out, hbv0]; rfl
            have HM : Hid (fpow x M * fpow x M = fpow x N) := Lib.hid (by rw [HS.out, hbv0, fpow_dbl, Nat.add_zero])
            clear hbv hbv0
            go_wp2
            go_roundw
            case rel => exact ⟨k, by omega, rfl, HE.out, HX.out, HO.out, by rw [HN.out, ← HM.out]; exact HA.out, hbel⟩
            case measure => simp [intOf] <;> omega
    · obtain rfl : j = ln := by omega
      obtain ⟨W3, hst3, hB3, hbel3, _, _⟩ := st_row (n := 16) hO rfl hbel (by omega) (d16 (fpow x (beF f j)).val)
      have hAr := hA.range
      have HB3 := Lib.hid hB3
      clear hE hX hO hA hB3 hj hlj
      go_wp2_with (refine wpList_load_mid rfl 54 (.tmp 5) rfl q 0 rfl (row 16 (fV (d16 (fpow x (beF f j)).val))) _ hAr Try.underlying54 rfl (infoFe _) ?_)
      refine bodyPost_ret (v := .agg (row 16 (fV (d16 (fpow x (beF f j)).val))).toArray) (results_cell_row Try.results48 _ _ (w.heap.size + 1) _ _ _ _ ?_ HB3.out Try.underlying54 ?_ (infoFeA _)) ?_ ?_
      · rfl
      · rfl
      · rfl
      · exact ⟨rfl, hbel3⟩
end Go.Proofs.Ytmoggjbnlimepaa
