/- What PB rests on, part 3 of 6: my own texts, put together (merge.py). -/
import Derived.Test.YtjchdhpijopikaaRows
import Derived.WalkKit
import Derived.ProofKit
import Derived.Lib.Hide
import Derived.OpenShut
import Derived.WalkSpells
import Derived.StillTactics
import Derived.Laws.Pointers
import Derived.Laws.CopyOwn
import Derived.Laws.AppendOwnNone
import Derived.Deep.RegionHeld3
import Derived.RowKit3
import Derived.BigQuiet
import Derived.Deep.QuietTactic
import Derived.Deep.LoopGhost
import Derived.Deep.DeepFit
import Derived.WalkLawsBesides
import Derived.Shelf.Spec.BitsCarry
import Derived.Deep.MidRow
import Derived.Laws.IdiomStrings
import Derived.Deep.DeepCutAuto
import Derived.Deep.WholeRow
import Derived.Laws.Rows
import Derived.Lib.AppendZerosOnto
import Derived.Lib.SliceRun
import Derived.Deep.AppendLies
import Derived.ShutString
import Derived.ChangeOld
import Derived.Test.YtjchdhpijopikaaZPBB
namespace Go.Proofs.Ytjchdhpijopikaa
open Go.RowKit
theorem rmulN (x y : F) (b : Nat) (h : (x * y).val = b) (w : World) :
    Calls Try.prog 50 #[.agg (row 16 (fV (d16 x.val))).toArray, .agg (row 16 (fV (d16 y.val))).toArray] w fun e w' => e = .returned (.agg (row 16 (fV (d16 b))).toArray) ∧ Below w.heap.size w w' := by subst h; exact rmulM x y w
theorem rsmall1 (w : World) : Calls Try.prog 52 #[.int .u64 1] w fun e w' => e = .returned (.agg (row 16 (fV (d16 (1 : F).val))).toArray) ∧ Below w.heap.size w w' := rsmallM 1 (by omega) w
set_option maxRecDepth 100000 in
set_option maxHeartbeats 4000000 in
theorem rpowM (x : F) {n : Nat} (ln : Nat) (hln : ln = n) (hn : n ≤ 1000) (w : World) (ge : Nat) (f : Nat → Nat) (hf : ∀ i, f i < 256) (hE : Blk w ge (row n (uV f)) 5) :
    Calls Try.prog 91 #[.agg (row 16 (fV (d16 x.val))).toArray, .slice (some ⟨ge, 0, none⟩) ln ln] w fun e w' => e = .returned (.agg (row 16 (fV (d16 (fpow x (beF f n)).val))).toArray) ∧ Below w.heap.size w w' := by
  subst hln
  have hSN := fun W => st_new W (d16 (1 : F).val)
  have hge := hE.lt
  have HNn := Lib.hid hn
  clear hn
  have HFF := Lib.hid hf
  clear hf
  go_enter Try.func91, Try.ntmps91
  go_upto_region 2 with (go_at_call 52; (with_reducible refine (rsmall1 _).mono ?_; rintro e w1 ⟨rfl, hb⟩; have hX := ((Blk.new w (row 16 (fV (d16 x.val))).toArray 34).alloc (.cells #[.int .u64 0, .int .u64 0, .int .u64 0, .int .u64 0, .int .u64 0, .int .u64 0, .int .u64 0, .int .u64 0, .int .u64 0, .int .u64 0, .int .u64 0, .int .u64 0, .int .u64 0, .int .u64 0, .int .u64 0, .int .u64 0] 34)).below' hb; have hO := (Blk.new' (w := w.alloc (.cells (row 16 (fV (d16 x.val))).toArray 34)) (cs := #[.int .u64 0, .int .u64 0, .int .u64 0, .int .u64 0, .int .u64 0, .int .u64 0, .int .u64 0, .int .u64 0, .int .u64 0, .int .u64 0, .int .u64 0, .int .u64 0, .int .u64 0, .int .u64 0, .int .u64 0, .int .u64 0]) (E := 34) (g := w.heap.size + 1) (by simp)).below' hb; have hE1 := (hE.below' (show Below w.heap.size w ((w.alloc (.cells (row 16 (fV (d16 x.val))).toArray 34)).alloc (.cells #[.int .u64 0, .int .u64 0, .int .u64 0, .int .u64 0, .int .u64 0, .int .u64 0, .int .u64 0, .int .u64 0, .int .u64 0, .int .u64 0, .int .u64 0, .int .u64 0, .int .u64 0, .int .u64 0, .int .u64 0, .int .u64 0] 34)) from (by repeat (first | (with_reducible refine Below.alloc' ?_ _) | (with_reducible refine Below.drew ?_) | (with_reducible refine below_drewN ?_ _) | ((with_reducible refine Below.setCell ?_ ?_ _); rotate_left; (focus (first | exact Nat.le_refl _ | (simp; done) | (simp; omega)))) | (with_reducible assumption) | (with_reducible exact Below.refl _ _))))).below' hb; have hbel := Below.call (show Below w.heap.size w _ from (by repeat (first | (with_reducible refine Below.alloc' ?_ _) | (with_reducible refine Below.drew ?_) | (with_reducible refine below_drewN ?_ _) | ((with_reducible refine Below.setCell ?_ ?_ _); rotate_left; (focus (first | exact Nat.le_refl _ | (simp; done) | (simp; omega)))) | (with_reducible assumption) | (with_reducible exact Below.refl _ _)))) hb; clear hb))
  have hq : w.heap.size + 1 < w1.heap.size := hO.lt
  refine wp_gen (fun W => Blk W ge (row ln (uV f)) 5 ∧ Blk W w.heap.size (row 16 (fV (d16 x.val))) 34 ∧ Blk W (w.heap.size + 1) [.int .u64 0, .int .u64 0, .int .u64 0, .int .u64 0, .int .u64 0, .int .u64 0, .int .u64 0, .int .u64 0, .int .u64 0, .int .u64 0, .int .u64 0, .int .u64 0, .int .u64 0, .int .u64 0, .int .u64 0, .int .u64 0] 34 ∧ Blk W w1.heap.size (row 16 (fV (d16 (fpow x 0).val))) 34 ∧ Below w.heap.size w W) ?_ (fun W0 hW => ?_)
  · rw [fpow_zero]
    exact ⟨hE1.alloc _, hX.alloc _, hO.alloc _, Blk.new' rfl, (by repeat (first | (with_reducible refine Below.alloc' ?_ _) | (with_reducible refine Below.drew ?_) | (with_reducible refine below_drewN ?_ _) | ((with_reducible refine Below.setCell ?_ ?_ _); rotate_left; (focus (first | exact Nat.le_refl _ | (simp; done) | (simp; omega)))) | (with_reducible assumption) | (with_reducible exact Below.refl _ _)))⟩
  clear hE hE1 hX hO hbel hSN
  generalize w1.heap.size = q at *
  have HQ := Lib.hid (show w.heap.size + 1 < q ∧ ge < w.heap.size from ⟨hq, hge⟩)
  clear hq hge w1
  obtain ⟨hE, hX, hO, hA, hbel⟩ := hW
  go_wp2
  go_loopw [6] (fun i wr => ∃ j : Nat, j ≤ ln ∧ i = .int .i64 j ∧ Blk wr ge (row ln (uV f)) 5 ∧ Blk wr w.heap.size (row 16 (fV (d16 x.val))) 34 ∧ Blk wr (w.heap.size + 1) [.int .u64 0, .int .u64 0, .int .u64 0, .int .u64 0, .int .u64 0, .int .u64 0, .int .u64 0, .int .u64 0, .int .u64 0, .int .u64 0, .int .u64 0, .int .u64 0, .int .u64 0, .int .u64 0, .int .u64 0, .int .u64 0] 34 ∧ Blk wr q (row 16 (fV (d16 (fpow x (beF f j)).val))) 34 ∧ Below w.heap.size w wr) (fun i _ => ln - (intOf i).toNat)
  case atStart => exact ⟨0, by omega, rfl, hE, hX, hO, hA, hbel⟩
  case round =>
    clear hE hX hO hA hbel W0
    obtain ⟨j, hj, rfl, hE, hX, hO, hA, hbel⟩ := hrel
    have hn2 : ln ≤ 1000 := HNn.out
    by_cases hlj : j < ln
    · have HE := Lib.hid hE; have HX := Lib.hid hX; have HO := Lib.hid hO
      have HA := Lib.hid (show Blk wr q (row 16 (fV (d16 (fpow x (pwN (beF f j) (f j) 8)).val))) 34 from by rw [pwN_top _ _ (HFF.out j)]; exact hA)
      have hd : decide ((j : Int) < (ln : Int)) = true := by simp; omega
      clear hE hX hO hA
      obtain ⟨wo, rfl⟩ : ∃ wo : World, wo = wr := ⟨_, rfl⟩
      go_wp2
      clear hd
      go_loopw [7] (fun i wr => ∃ k : Nat, k ≤ 8 ∧ i = .int .i64 ((k : Int) - 1) ∧ Blk wr ge (row ln (uV f)) 5 ∧ Blk wr w.heap.size (row 16 (fV (d16 x.val))) 34 ∧ Blk wr (w.heap.size + 1) [.int .u64 0, .int .u64 0, .int .u64 0, .int .u64 0, .int .u64 0, .int .u64 0, .int .u64 0, .int .u64 0, .int .u64 0, .int .u64 0, .int .u64 0, .int .u64 0, .int .u64 0, .int .u64 0, .int .u64 0, .int .u64 0] 34 ∧ Blk wr q (row 16 (fV (d16 (fpow x (pwN (beF f j) (f j) k)).val))) 34 ∧ Below w.heap.size w wr) (fun i _ => (intOf i + 1).toNat)
      case atStart => exact ⟨8, by omega, rfl, HE.out, HX.out, HO.out, HA.out, hbel⟩
      case round =>
        clear HE HX HO HA hbel
        obtain ⟨k', hk, rfl, hE, hX, hO, hA, hbel⟩ := hrel
        by_cases hk0 : k' = 0
        · subst hk0
          have HE := Lib.hid hE; have HX := Lib.hid hX; have HO := Lib.hid hO
          have HA := Lib.hid (show Blk wr q (row 16 (fV (d16 (fpow x (beF f (j + 1))).val))) 34 from by rw [pwN_low] at hA; exact hA)
          clear hE hX hO hA
          rw [show (((0 : Nat) : Int) - 1) = -1 from rfl]
          go_wp2
          go_roundw
          case rel => exact ⟨j + 1, by omega, by go_num, HE.out, HX.out, HO.out, HA.out, hbel⟩
          case measure => simp [intOf]; omega
        · obtain ⟨k, rfl⟩ : ∃ k, k' = k + 1 := ⟨k' - 1, by omega⟩
          rw [show (((k + 1 : Nat) : Int) - 1) = (k : Int) from by omega]
          have hk8 : k < 8 := by omega
          have hstep := pwN_step (beF f j) (f j) k hk8
          have hbit := bit8 (f j) k (HFF.out j)
          generalize hN : pwN (beF f j) (f j) k = N at *
          generalize pwN (beF f j) (f j) (k + 1) = M at *
          have HN := Lib.hid hN
          clear hN
          have hAr := hA.range
          have HE := Lib.hid hE; have HX := Lib.hid hX; have HO := Lib.hid hO; have HA := Lib.hid hA
          clear hE hX hO hA
          have HB := Lib.hid hbit; have HS := Lib.hid hstep
          clear hbit hstep
          go_upto_region 9 with (first | (refine wpList_load_mid rfl 34 (.tmp 5) rfl q 0 rfl (row 16 (fV (d16 (fpow x M).val))) _ hAr Try.underlying34 rfl (infoFe _) ?_) | (go_at_call 50; (with_reducible refine (rmulM (fpow x M) (fpow x M) _).mono ?_; rintro e w2 ⟨rfl, hb⟩; obtain ⟨W3, hst3, hA3, hbel3, hsz3, hk3⟩ := st_row (n := 16) (HA.out.below' hb) rfl (Below.call hbel hb) (by have := HQ.out; omega) (d16 (fpow x M * fpow x M).val); have HE3 := Lib.hid (hk3 _ _ _ (by have := HQ.out; omega) (HE.out.below' hb)); have HX3 := Lib.hid (hk3 _ _ _ (by have := HQ.out; omega) (HX.out.below' hb)); have HO3 := Lib.hid (hk3 _ _ _ (by have := HQ.out; omega) (HO.out.below' hb)); have HA3 := Lib.hid hA3; have HK3 := Lib.hid hk3; clear hb hk3 hA3 hsz3 hAr)))
          refine wp_gen (fun W => Blk W ge (row ln (uV f)) 5 ∧ Blk W w.heap.size (row 16 (fV (d16 x.val))) 34 ∧ Blk W (w.heap.size + 1) [.int .u64 0, .int .u64 0, .int .u64 0, .int .u64 0, .int .u64 0, .int .u64 0, .int .u64 0, .int .u64 0, .int .u64 0, .int .u64 0, .int .u64 0, .int .u64 0, .int .u64 0, .int .u64 0, .int .u64 0, .int .u64 0] 34 ∧ Blk W q (row 16 (fV (d16 (fpow x M * fpow x M).val))) 34 ∧ Below w.heap.size w W) ?_ (fun W0 hW => ?_)
          · exact ⟨HE3.out, HX3.out, HO3.out, HA3.out, hbel3⟩
          clear HE HX HO HA HE3 HX3 HO3 HA3 HK3 hbel hbel3 hst3 W3 w2 wr
          obtain ⟨hE, hX, hO, hA, hbel⟩ := hW
          obtain ⟨c, hc⟩ : ∃ c : Int, c = (f j : Nat) := ⟨_, rfl⟩
          have hce : W0.cell? ⟨ge, j, none⟩ = some (.int .u8 c) := by rw [hc]; exact hE.at hlj
          have hAr := hA.range
          have hXr := hX.range
          have HE := Lib.hid hE; have HX := Lib.hid hX; have HO := Lib.hid hO; have HA := Lib.hid hA
          clear hE hX hO hA
          have hf0 : 0 ≤ c := by omega
          have hf1 : c < 256 := by have := HFF.out j; omega
          have HC := Lib.hid hc
          clear hc
          by_cases hbv : f j / 2 ^ k % 2 = 1
          · have hbb : bits BinOp.and IntKind.u8 (c / 2 ^ k) 1 = 1 := by rw [HC.out, HB.out, hbv]; rfl
            have HM : Hid ((fpow x M * fpow x M * x).val = (fpow x N).val) := Lib.hid (by rw [HS.out, hbv, fpow_dbl1])
            clear hbv
            go_wp2_with (first | (refine wpList_load_mid rfl 34 (.tmp 5) rfl q 0 rfl (row 16 (fV (d16 (fpow x M * fpow x M).val))) _ hAr Try.underlying34 rfl (infoFe _) ?_) | (refine wpList_load_mid rfl 34 (.tmp 2) rfl w.heap.size 0 rfl (row 16 (fV (d16 x.val))) _ hXr Try.underlying34 rfl (infoFe _) ?_) | (go_at_call 50; (with_reducible refine (rmulN (fpow x M * fpow x M) x _ HM.out _).mono ?_; rintro e w2 ⟨rfl, hb⟩; obtain ⟨W3, hst3, hA3, hbel3, hsz3, hk3⟩ := st_row (n := 16) (HA.out.below' hb) rfl (Below.call hbel hb) (by have := HQ.out; omega) (d16 (fpow x N).val); have HE3 := Lib.hid (hk3 _ _ _ (by have := HQ.out; omega) (HE.out.below' hb)); have HX3 := Lib.hid (hk3 _ _ _ (by have := HQ.out; omega) (HX.out.below' hb)); have HO3 := Lib.hid (hk3 _ _ _ (by have := HQ.out; omega) (HO.out.below' hb)); have HA3 := Lib.hid hA3; have HK3 := Lib.hid hk3; clear hb hk3 hA3 hsz3 hAr hXr)))
            go_roundw
            case rel => exact ⟨k, by omega, rfl, HE3.out, HX3.out, HO3.out, by rw [HN.out]; exact HA3.out, hbel3⟩
            case measure => simp [intOf] <;> omega
          · have hbv0 : f j / 2 ^ k % 2 = 0 := by omega
            have hbb : bits BinOp.and IntKind.u8 (c / 2 ^ k) 1 = 0 := by rw [HC.out, HB.out, hbv0]; rfl
            have HM : Hid (fpow x M * fpow x M = fpow x N) := Lib.hid (by rw [HS.out, hbv0, fpow_dbl, Nat.add_zero])
            clear hbv hbv0
            go_wp2
            go_roundw
            case rel => exact ⟨k, by omega, rfl, HE.out, HX.out, HO.out, by rw [HN.out, ← HM.out]; exact HA.out, hbel⟩
            case measure => simp [intOf] <;> omega
    · obtain rfl : j = ln := by omega
      obtain ⟨W3, hst3, hB3, hbel3, _, _⟩ := st_row (n := 16) hO rfl hbel (by omega) (d16 (fpow x (beF f j)).val)
      have hAr := hA.range
      have HB3 := Lib.hid hB3
      clear hE hX hO hA hB3 hj hlj
      go_wp2_with (refine wpList_load_mid rfl 34 (.tmp 5) rfl q 0 rfl (row 16 (fV (d16 (fpow x (beF f j)).val))) _ hAr Try.underlying34 rfl (infoFe _) ?_)
      refine bodyPost_ret (v := .agg (row 16 (fV (d16 (fpow x (beF f j)).val))).toArray) (results_cell_row Try.results91 _ _ (w.heap.size + 1) _ _ _ _ ?_ HB3.out Try.underlying34 ?_ (infoFeA _)) ?_ ?_
      · rfl
      · rfl
      · rfl
      · exact ⟨rfl, hbel3⟩
end Go.Proofs.Ytjchdhpijopikaa
namespace Go.Proofs.Ytjchdhpijopikaa
open Go.RowKit
/-- Cells set one by one into a whole block: the row. -/
theorem setCells_row {w : World} {g E : Nat} {old cs : List Value} (h : Blk w g old E) (hl : cs.length = old.length) (h1 : ∀ v ∈ cs, v.oneCell' = true) :
    w.setCells g 0 cs = w.setRow g cs.toArray := by
  have a := st_blk h hl h1
  have b := run_storeCells_cells (P := Try.prog) g 0 cs 0 w (fun j hj => by rw [Nat.zero_add, h.cell, List.getElem?_eq_getElem (by omega)]; rfl) (fun j _ => h.frozen _) h1
  rw [a] at b
  injection b with _ b
  exact b.symm
theorem Blk.there {w : World} {g E n : Nat} {cs : List Value} (h : Blk w g cs E) (hn : cs.length = n) : w.there g 0 n := fun j hj => by
  rw [Nat.zero_add]
  exact ⟨by rw [h.cell, List.getElem?_eq_getElem (by omega)]; rfl, h.frozen j⟩
theorem pwF_lt {a b : Nat} (ha : a < 256) (hb : b < 256) (i : Nat) : pwF a b i < 256 := by unfold pwF; split <;> (try split) <;> omega
theorem be_inv : beF (pwF 127 235) 32 = expInv := by decide +kernel
theorem be_8 : beF (pwF 15 254) 32 = exp8 := by decide +kernel
theorem rpowK (x : F) (a b N : Nat) (ha : a < 256) (hb : b < 256) (hN : beF (pwF a b) 32 = N) (w : World) (ge : Nat) (hE : Blk w ge (row 32 (uV (pwF a b))) 5) :
    Calls Try.prog 91 #[.agg (row 16 (fV (d16 x.val))).toArray, .slice (some ⟨ge, 0, none⟩) 32 32] w fun e w' => e = .returned (.agg (row 16 (fV (d16 (fpow x N).val))).toArray) ∧ Below w.heap.size w w' := by
  subst hN; exact rpowM x 32 rfl (by omega) w ge _ (pwF_lt ha hb) hE
theorem rpow127 (w : World) : Calls Try.prog 92 #[.int .u8 127, .int .u8 235] w fun e w' => e = .returned (.slice (some ⟨w.heap.size, 0, none⟩) 32 32) ∧ Blk w' w.heap.size (row 32 (uV (pwF 127 235))) 5 ∧ Below w.heap.size w w' := rpower_any 127 235 w
theorem rpow15 (w : World) : Calls Try.prog 92 #[.int .u8 15, .int .u8 254] w fun e w' => e = .returned (.slice (some ⟨w.heap.size, 0, none⟩) 32 32) ∧ Blk w' w.heap.size (row 32 (uV (pwF 15 254))) 5 ∧ Below w.heap.size w w' := rpower_any 15 254 w
theorem rpow31 (w : World) : Calls Try.prog 92 #[.int .u8 31, .int .u8 251] w fun e w' => e = .returned (.slice (some ⟨w.heap.size, 0, none⟩) 32 32) ∧ Blk w' w.heap.size (row 32 (uV (pwF 31 251))) 5 ∧ Below w.heap.size w w' := rpower_any 31 251 w
/-- A load of 16 limbs, at a step of a region that draws. -/
theorem exec_load16 {ev : Operand → Value} {o : Oper} {W : World} {g E : Nat} {f : Nat → Nat} (x : Operand) (ho : o.op = .load 34 x) (hx : ev x = .pointer (some ⟨g, 0, none⟩)) (h : Blk W g (row 16 (fV f)) E) :
    (execOp ev o).run Try.prog W = .ok (.value (.agg (row 16 (fV f)).toArray)) W := by
  have := run_loadAt_mid (P := Try.prog) W g 0 34 _ _ h.range Try.underlying34 rfl (infoFe f)
  unfold execOp
  simp only [ho, hx]
  simp [this]
/-- A store of 16 limbs, at a step of a region that draws. -/
theorem step_store16 {ops : Array Oper} {o : Oper} {a : Act} {w : World} {K : Act → World → Prop} {Q : Exit → Act → World → Prop} {E : Prop} (hgd : o.guard = none) (x y : Operand) (ho : o.op = .store 34 x y)
    {g T : Nat} {f : Nat → Nat} {old : List Value} (hx : a.eval x = .pointer (some ⟨g, 0, none⟩)) (hy : a.eval y = .agg (row 16 (fV f)).toArray) (hB : Blk w g old T) (hl : old.length = 16)
    (h : K (a.put o.dst undef) (w.setRow g (row 16 (fV f)).toArray)) : if Region.wanted o (yielded ops a.tmps) = true then Oper.wp Try.prog o a w K Q else E := by
  have hw : Region.wanted o (yielded ops a.tmps) = true := by simp [Region.wanted, hgd]
  rw [if_pos hw]
  refine wp_store_mid 34 x y ho g 0 _ hx hy (hB.there (by rw [hl, List.size_toArray, row_len])) (infoFeA f) (all_oneCell_toArray (one_row 16 f)) ?_
  rw [show (row 16 (fV f)).toArray.toList = row 16 (fV f) from rfl, setCells_row hB (by rw [row_len, hl]) (one_row 16 f)]
  exact h
set_option maxRecDepth 100000 in
set_option maxHeartbeats 1000000 in
theorem rinv_core (f r : Nat → Nat) (hC : ∀ w ge, Blk w ge (row 32 (uV (pwF 127 235))) 5 → Calls Try.prog 91 #[.agg (row 16 (fV f)).toArray, .slice (some ⟨ge, 0, none⟩) 32 32] w fun e w' => e = .returned (.agg (row 16 (fV r)).toArray) ∧ Below w.heap.size w w') (w : World) :
    Calls Try.prog 55 #[.agg (row 16 (fV f)).toArray] w fun e w' => e = .returned (.agg (row 16 (fV r)).toArray) ∧ Below w.heap.size w w' := by
  have HC := Lib.hid hC
  clear hC
  go_enter Try.func55, Try.ntmps55
  go_upto_region 1 with fail
  refine wp_gen (fun W => Blk W w.heap.size (row 16 (fV f)) 34 ∧ (∃ cs : List Value, cs.length = 16 ∧ Blk W (w.heap.size + 1) cs 34) ∧ Below w.heap.size w W) ?_ (fun W0 hW => ?_)
  · exact ⟨(Blk.new w _ _).alloc _, ⟨_, rfl, Blk.new' (by simp)⟩, (by repeat (first | (with_reducible refine Below.alloc' ?_ _) | (with_reducible refine Below.drew ?_) | (with_reducible refine below_drewN ?_ _) | ((with_reducible refine Below.setCell ?_ ?_ _); rotate_left; (focus (first | exact Nat.le_refl _ | (simp; done) | (simp; omega)))) | (with_reducible assumption) | (with_reducible exact Below.refl _ _)))⟩
  have hst := Lib.hid (show ∀ W W' : World, (Blk W w.heap.size (row 16 (fV f)) 34 ∧ (∃ cs : List Value, cs.length = 16 ∧ Blk W (w.heap.size + 1) cs 34) ∧ Below w.heap.size w W) → Below W.heap.size W W' → (Blk W' w.heap.size (row 16 (fV f)) 34 ∧ (∃ cs : List Value, cs.length = 16 ∧ Blk W' (w.heap.size + 1) cs 34) ∧ Below w.heap.size w W') from by
    rintro W W' ⟨h1, ⟨cs, hl, h2⟩, h3⟩ hb
    exact ⟨h1.below' hb, ⟨cs, hl, h2.below' hb⟩, Below.call h3 hb⟩)
  have HS := Lib.hid (hst.out _ _ hW (Below.drew (Below.refl _ _)))
  clear hW
  refine wp_region_held_drew (S := fun W => Blk W w.heap.size (row 16 (fV f)) 34 ∧ (∃ cs : List Value, cs.length = 16 ∧ Blk W (w.heap.size + 1) cs 34) ∧ Below w.heap.size w W) (by kernel_rfl) (by exact HS.out) (fun hHeld => ?_)
  refine wpAnyH_take (i := 0) (oi := _) (v := .agg (row 16 (fV f)).toArray) rfl (by kernel_rfl) (by kernel_rfl) (by kernel_rfl) (fun _ _ _ h => h) (Or.inl ⟨by rfl, fun W hSW => exec_load16 (.tmp 1) (by rfl) (by rfl) hSW.1⟩) (by assumption) ?_
  (try simp only [Act.put, List.setIfInBounds_toArray, List.set_cons_zero, List.set_cons_succ, List.getElem_toArray, List.getElem_cons_zero])
  refine wpAnyH_ready (rs := [1]) (by kernel_rfl) (by simp) ?_
  refine (AllReadyH.cons rfl (fun K hK => ?_) AllReadyH.nil)
  (try simp only [List.getElem_toArray, List.getElem_cons_zero, List.getElem_cons_succ])
  go_simp
  go_at_call 92
  (with_reducible refine (rpow127 _).mono ?_); rintro e w1 ⟨rfl, hP0, hb⟩
  have hP : Blk w1 W0.heap.size (row 32 (uV (pwF 127 235))) 5 := hP0
  refine hK.out _ _ (hst.out _ _ hHeld hb) (fun hHeld' => ?_)
  clear hK K hHeld
  (try simp only [Act.put, List.setIfInBounds_toArray, List.set_cons_zero, List.set_cons_succ, List.getElem_toArray, List.getElem_cons_zero, List.getElem_cons_succ])
  refine wpAnyH_ready (rs := [2]) (by kernel_rfl) (by simp) ?_
  refine (AllReadyH.cons rfl (fun K hK => ?_) AllReadyH.nil)
  (try simp only [List.getElem_toArray, List.getElem_cons_zero, List.getElem_cons_succ])
  go_simp
  go_at_call 91
  (with_reducible refine (HC.out _ _ hP).mono ?_); rintro e w2 ⟨rfl, hb⟩
  refine hK.out _ _ (hst.out _ _ hHeld' hb) (fun hHeld => ?_)
  clear hK K hHeld'
  (try simp only [Act.put, List.setIfInBounds_toArray, List.set_cons_zero, List.set_cons_succ, List.getElem_toArray, List.getElem_cons_zero, List.getElem_cons_succ])
  refine wpAnyH_ready (rs := [3]) (by kernel_rfl) (by simp) ?_
  refine (AllReadyH.cons rfl (fun K hK => ?_) AllReadyH.nil)
  obtain ⟨h1, ⟨cs, hl, h2⟩, h3⟩ := hHeld
  have HB3 := Lib.hid (h2.row (row 16 (fV r)))
  have hbel3 := below_setRow h3 (show w.heap.size ≤ w.heap.size + 1 by omega) (row 16 (fV r)).toArray
  refine step_store16 (by rfl) (.tmp 2) (.tmp 5) (by rfl) (by rfl) (by rfl) h2 hl ?_
  refine hK.out _ _ ⟨h1.rowOther _ (by omega) _, ⟨_, row_len _ _, HB3.out⟩, hbel3⟩ (fun _ => ?_)
  clear hK K h2
  (try simp only [Act.put, List.getElem_toArray, List.getElem_cons_zero, List.getElem_cons_succ])
  refine wpAnyH_done (by kernel_rfl) ?_ _
  generalize w2.setRow (w.heap.size + 1) (row 16 (fV r)).toArray = W3 at *
  go_wp2
  refine bodyPost_ret (v := .agg (row 16 (fV r)).toArray) (results_cell_row Try.results55 _ _ (w.heap.size + 1) _ _ _ _ ?_ HB3.out Try.underlying34 ?_ (infoFeA _)) ?_ ?_
  · rfl
  · rfl
  · rfl
  · exact ⟨rfl, hbel3⟩
theorem rinvM (x : F) (w : World) : Calls Try.prog 55 #[.agg (row 16 (fV (d16 x.val))).toArray] w fun e w' => e = .returned (.agg (row 16 (fV (d16 (finv x).val))).toArray) ∧ Below w.heap.size w w' :=
  rinv_core (d16 x.val) (d16 (finv x).val) (fun w ge hE => rpowK x 127 235 expInv (by omega) (by omega) be_inv w ge hE) w
end Go.Proofs.Ytjchdhpijopikaa
namespace Go.Proofs.Ytjchdhpijopikaa
open Go.RowKit
theorem row_ints (n : Nat) (f : Nat → Nat) : row n (fV f) = ((List.range n).map fun i => ((f i : Nat) : Int)).map (Value.int .u64) := by
  simp [row, fV, Function.comp_def]
theorem infoU64 : (Try.prog.info? 24).map (·.size) = some 1 := by kernel_rfl
theorem size_u64 (w : World) : (sizeOf 24).run Try.prog w = .ok 1 w := by
  have h := infoU64
  cases hq : Try.prog.info? 24 with
  | none => simp [hq] at h
  | some i =>
    simp [hq] at h
    simp [sizeOf, typeInfo, hq, h]
theorem d16_inj {x y : F} (h : ∀ i, i < 16 → d16 x.val i = d16 y.val i) : x = y := by
  apply F.ext'
  rw [← d16_v x.isLt, ← d16_v y.isLt]
  exact v16_congr 16 h
set_option maxRecDepth 100000 in
theorem eq_row (x y : F) (w : World) : (Op.equal 34 (.agg (row 16 (fV (d16 x.val))).toArray) (.agg (row 16 (fV (d16 y.val))).toArray)).run Try.prog w = .ok (decide (x = y)) w := by
  rw [row_ints, row_ints]
  have h := eqArr (P := Try.prog) w 9998 34 24 16 .u64 Try.underlying34 Try.underlying24 size_u64 ((List.range 16).map fun i => ((d16 x.val i : Nat) : Int)) ((List.range 16).map fun i => ((d16 y.val i : Nat) : Int)) (by simp) (by simp)
  refine Eq.trans h ?_
  congr 1
  rw [Bool.eq_iff_iff, beq_iff_eq, decide_eq_true_iff]
  constructor
  · intro e
    apply d16_inj
    intro i hi
    have := congrArg (fun l => l[i]?) e
    simp [hi] at this
    omega
  · rintro rfl; rfl
theorem exec_neqF {ev : Operand → Value} {o : Oper} {W : World} (x y : F) (a b : Operand) (t : TypeId) (ho : o.op = .binOp .neq 34 a b t) (ha : ev a = .agg (row 16 (fV (d16 x.val))).toArray) (hb : ev b = .agg (row 16 (fV (d16 y.val))).toArray) :
    (execOp ev o).run Try.prog W = .ok (.value (.bool (!decide (x = y)))) W := by
  have hg : Try.prog.eqGuardType Try.prog.depth 34 = false := by kernel_rfl
  unfold execOp
  simp only [ho, ha, hb]
  simp [eqGuard, binOp, hg, eq_row]
theorem be_31 : beF (pwF 31 251) 32 = 14474011154664524427946373126085988481658748083205070504932198000989141204987 := by decide +kernel
theorem two_turn : fpow (fn 2) (beF (pwF 31 251) 32) = sqm1 := by
  rw [be_31]
  apply F.ext'
  rw [fpow_val, show (fn 2).val = 2 from rfl, ← powMod_spec Pq 256 2 14474011154664524427946373126085988481658748083205070504932198000989141204987 (by decide +kernel)]
  decide +kernel
theorem odd16 (v : Nat) : bits BinOp.and IntKind.u64 ((d16 v 0 : Nat) : Int) 1 = ((v % 2 : Nat) : Int) := by
  have h := d16_lt v 0
  rw [show (1 : Int) = ((1 : Nat) : Int) from rfl, u64_and_nat _ 1 (by omega) (by omega), Nat.and_one_is_mod]
  simp only [d16, Nat.pow_zero, Nat.div_one]; omega
end Go.Proofs.Ytjchdhpijopikaa
namespace Go.Proofs.Ytjchdhpijopikaa
open Go Go.RowKit
def rR : Rp F where
  n := 16
  rep := fun x cs => cs = row 16 (fV (d16 x.val))
  pos := by omega
  len := fun _ _ h => by rw [h, row_len]
  one := fun _ _ h v hv => by subst h; exact one_row 16 _ v hv
theorem isR (x : F) : IsFs rR (.agg (row 16 (fV (d16 x.val))).toArray) [x] := ⟨_, rfl, Lims.single (R := rR) rfl⟩
theorem of_isR {v : Value} {x : F} (h : IsFs rR v [x]) : v = .agg (row 16 (fV (d16 x.val))).toArray := by
  obtain ⟨cs, rfl, hc⟩ := h
  have := Lims.of_single hc
  rw [show cs = row 16 (fV (d16 x.val)) from this]
theorem kAdd {v v' : Value} {x y : F} (h : IsFs rR v [x]) (h' : IsFs rR v' [y]) (w : World) :
    Calls Try.prog 54 #[v, v'] w fun e w' => ∃ r, e = .returned r ∧ IsFs rR r [x + y] ∧ Below w.heap.size w w' := by
  rw [of_isR h, of_isR h']
  exact (raddM x y w).mono fun _ _ ⟨he, hb⟩ => ⟨_, he, isR _, hb⟩
theorem kSub {v v' : Value} {x y : F} (h : IsFs rR v [x]) (h' : IsFs rR v' [y]) (w : World) :
    Calls Try.prog 51 #[v, v'] w fun e w' => ∃ r, e = .returned r ∧ IsFs rR r [x - y] ∧ Below w.heap.size w w' := by
  rw [of_isR h, of_isR h']
  exact (rsubM x y w).mono fun _ _ ⟨he, hb⟩ => ⟨_, he, isR _, hb⟩
theorem kMul {v v' : Value} {x y : F} (h : IsFs rR v [x]) (h' : IsFs rR v' [y]) (w : World) :
    Calls Try.prog 50 #[v, v'] w fun e w' => ∃ r, e = .returned r ∧ IsFs rR r [x * y] ∧ Below w.heap.size w w' := by
  rw [of_isR h, of_isR h']
  exact (rmulM x y w).mono fun _ _ ⟨he, hb⟩ => ⟨_, he, isR _, hb⟩
theorem kNeg {v : Value} {x : F} (h : IsFs rR v [x]) (w : World) :
    Calls Try.prog 57 #[v] w fun e w' => ∃ r, e = .returned r ∧ IsFs rR r [-x] ∧ Below w.heap.size w w' := by
  rw [of_isR h]
  exact (rnegM x w).mono fun _ _ ⟨he, hb⟩ => ⟨_, he, isR _, hb⟩
theorem kInv {v : Value} {x : F} (h : IsFs rR v [x]) (w : World) :
    Calls Try.prog 55 #[v] w fun e w' => ∃ r, e = .returned r ∧ IsFs rR r [finv x] ∧ Below w.heap.size w w' := by
  rw [of_isR h]
  exact (rinvM x w).mono fun _ _ ⟨he, hb⟩ => ⟨_, he, isR _, hb⟩
theorem kSmallI {n : Nat} {z : Int} (hz : z = (n : Nat)) (hn : n < 18446744073709551616) (w : World) :
    Calls Try.prog 52 #[.int .u64 z] w fun e w' => ∃ r, e = .returned r ∧ IsFs rR r [fn n] ∧ Below w.heap.size w w' := by
  subst hz
  exact (rsmallM n hn w).mono fun _ _ ⟨he, hb⟩ => ⟨_, he, by have := isR (fn n); exact this, hb⟩
theorem kPow {v : Value} {x r : F} (a b N : Nat) (ha : a < 256) (hb : b < 256) (hN : beF (pwF a b) 32 = N) (hr : fpow x N = r) (h : IsFs rR v [x]) {w : World} {ge : Nat} (hE : Blk w ge (row 32 (uV (pwF a b))) 5) :
    Calls Try.prog 91 #[v, .slice (some ⟨ge, 0, none⟩) 32 32] w fun e w' => ∃ r', e = .returned r' ∧ IsFs rR r' [r] ∧ Below w.heap.size w w' := by
  rw [of_isR h]
  subst hr
  exact (rpowK x a b N ha hb hN w ge hE).mono fun _ _ ⟨he, hb⟩ => ⟨_, he, isR _, hb⟩
theorem tyFe : TyOk rR 34 1 := ⟨⟨_, Try.underlying34, rfl⟩, by kernel_rfl⟩
theorem allocFe (w : World) : (Instr.alloc 34 true (.tuple #[])).run Try.prog w = .ok (.pointer (some ⟨w.heap.size, 0, none⟩)) (w.alloc (.cells #[.int .u64 0, .int .u64 0, .int .u64 0, .int .u64 0, .int .u64 0, .int .u64 0, .int .u64 0, .int .u64 0, .int .u64 0, .int .u64 0, .int .u64 0, .int .u64 0, .int .u64 0, .int .u64 0, .int .u64 0, .int .u64 0] 34)) := by kernel_rfl
theorem buildFe0 (w : World) : ∃ r, (Instr.build 34 #[]).run Try.prog w = .ok r w ∧ IsFs rR r [0] := by
  have h := isR 0
  rw [show row 16 (fV (d16 (0 : F).val)) = [.int .u64 0, .int .u64 0, .int .u64 0, .int .u64 0, .int .u64 0, .int .u64 0, .int .u64 0, .int .u64 0, .int .u64 0, .int .u64 0, .int .u64 0, .int .u64 0, .int .u64 0, .int .u64 0, .int .u64 0, .int .u64 0] from by kernel_rfl] at h
  exact ⟨_, by kernel_rfl, h⟩
theorem run_neqR {ev : Operand → Value} {o : Oper} {W : World} {x y : F} {a b : Operand} {t : TypeId} (ho : o.op = .binOp .neq 34 a b t) (ha : IsFs rR (ev a) [x]) (hb : IsFs rR (ev b) [y]) :
    (execOp ev o).run Try.prog W = .ok (.value (.bool (!decide (x = y)))) W := exec_neqF x y a b t ho (of_isR ha) (of_isR hb)
theorem HasFs.cell0 {w : World} {g : Nat} {x : F} (h : HasFs rR w g 0 [x]) : w.cell? ⟨g, 0, none⟩ = some (.int .u64 (d16 x.val 0 : Nat)) := by
  obtain ⟨cs, hc, hr⟩ := h
  have e : cs = row 16 (fV (d16 x.val)) := Lims.of_single hc
  subst e
  exact hr 0 _ (row_get (by omega))
end Go.Proofs.Ytjchdhpijopikaa
namespace Go.Proofs.Ytjchdhpijopikaa
open Go Go.RowKit
theorem run_eqlR {ev : Operand → Value} {o : Oper} {W : World} {x y : F} {a b : Operand} {t : TypeId} (ho : o.op = .binOp .eql 34 a b t) (ha : IsFs rR (ev a) [x]) (hb : IsFs rR (ev b) [y]) :
    (execOp ev o).run Try.prog W = .ok (.value (.bool (decide (x = y)))) W := by
  have hg : Try.prog.eqGuardType Try.prog.depth 34 = false := by kernel_rfl
  have h1 := of_isR ha
  have h2 := of_isR hb
  unfold execOp
  simp only [ho, h1, h2]
  simp [eqGuard, binOp, hg, eq_row]
theorem kOf' {a : Option Addr} {n cap : Nat} {l : List UInt8} {x : F} {w : World} (hx : feF l = x) (h : RdB w a n cap l) :
    Calls Try.prog 88 #[.slice a n cap] w fun e w' => ∃ r, e = .returned r ∧ IsFs rR r [x] ∧ Below w.heap.size w w' := by
  subst hx
  exact (rofM w h).mono fun _ _ ⟨he, hb⟩ => ⟨_, he, isR _, hb⟩
theorem kBytes {v : Value} {x : F} (h : IsFs rR v [x]) (w : World) :
    Calls Try.prog 69 #[v] w fun e w' => ∃ g n cap r, e = .returned (.slice (some ⟨g, 0, none⟩) n cap) ∧ w.heap.size ≤ g ∧ Blk w' g ((leB 32 x.val).map bV ++ r) 5 ∧ (leB 32 x.val).length = n ∧ n ≤ cap ∧ cap ≤ maxLen ∧ Below w.heap.size w w' := by
  rw [of_isR h]
  exact (rbytes_any x.val w).mono fun _ _ ⟨g, cap, r, he, hg, hB, h1, h2, hb⟩ => ⟨g, 32, cap, r, he, hg, hB, leB_len _ _, h1, h2, hb⟩
theorem feOk_len {l : List UInt8} (h : l.length ≠ 32) : feOk l = false := by simp [feOk, h]
theorem feOk_high {l : List UInt8} (h : l.length = 32) (h2 : 127 < (l[31]'(by omega)).toNat) : feOk l = false := by
  have h3 := leN_take l 31 (by omega)
  rw [List.take_of_length_le (by omega)] at h3
  have : Pq ≤ leN l := by
    rw [h3]
    have : Pq ≤ 128 * 256 ^ 31 := by decide +kernel
    refine Nat.le_trans this (Nat.le_trans (Nat.mul_le_mul_right _ ?_) (Nat.le_add_left _ _))
    omega
  simp [feOk]; omega
set_option maxRecDepth 100000 in
set_option maxHeartbeats 4000000 in
theorem rstrict_len {a : Option Addr} {n cap : Nat} {l : List UInt8} (w : World) (_ha : RdB w a n cap l) (hn : n ≠ 32) :
    Calls Try.prog 49 #[.slice a n cap] w fun e w' => ∃ r, e = .returned (.tuple #[r, .int .i64 2]) ∧ IsFs rR r [0] ∧ Below w.heap.size w w' := by
  have f1 : (((n : Nat) : Int) != 32) = true := by simp; omega
  have F1 := Lib.hid f1
  clear hn f1
  go_enter Try.func49, Try.ntmps49
  have hbel : Below w.heap.size w w := Below.refl _ _
  have hbel0 := hbel
  go_upto_region 0 with fail
  refine wp_region_turn (fun u => #[.slice a n cap, undef, u 0, u 1, undef, undef, undef, undef, undef, undef, undef, undef, undef, undef, undef, undef, undef, undef, undef, undef, undef, undef, undef, undef, undef]) (Holds [.new 16, .oth (fun v => v = .int .i64 0)] w) (Keep [.new 16, .oth (fun v => v = .int .i64 0)] w) (fun _ => undef) ?_ (by rfl) Keep.start (holds_soft (by kernel_rfl)) ?_ ?_
  · intro u i v h
    rcases i with _ | _ | i
    all_goals first | (simp [Act.put, putV]; done) | (exfalso; simp at h; omega)
  · intro hs
    refine ⟨?_, ?_, trivial⟩
    · exact step_alloc hs (wants_none rfl) rfl rfl (by omega) rfl allocFe
    · exact step_pureO hs (wants_none rfl) rfl fun L u W hG hdep => ⟨_, run_assign rfl, rfl⟩
  intro L0 u0 W0 hall hJ hG
  obtain ⟨q2, e2, hq2, _, ht2⟩ := (show ∃ g, u0 0 = .pointer (some ⟨g, 0, none⟩) ∧ w.heap.size ≤ g ∧ 0 < 16 ∧ W0.there g 0 16 from hG 0 (by simp))
  have hq2 : w.heap.size ≤ q2 := by have := hbel0.size; omega
  have E2 := Lib.hid e2; clear e2
  have hb := hJ.all rfl
  have hbel := Below.call hbel hb
  have HC3 := Lib.hid (show u0 1 = .int .i64 0 from hG 1 (by simp))
  have hbel0 := hbel
  clear hJ hG hall hb
  go_upto_region 1 with fail
  refine wp_region_mid (fun u => #[.slice a n cap, undef, u0 0, u0 1, u 0, u 1, u 2, u 3, u 4, u 5, u 6, u 7, u 8, u 9, u 10, u 11, u 12, u 13, u 14, u 15, u 16, u 17, undef, undef, undef]) (Holds [.oth (fun v => v = .slice a n cap), .oth (fun v => v = .int .i64 (n : Nat)), .oth (fun v => v = .bool true), .oth (fun v => v = .bool true), .oth (fun v => v = undef), .oth (fun v => v = undef), .oth (fun v => v = undef), .oth (fun v => v = undef), .oth (fun v => v = .bool true), .oth (fun v => v = .bool true), .oth (fun v => v = undef), .oth (fun v => v = undef), .oth (fun v => v = undef), .oth (fun v => v = undef), .oth (fun v => v = undef), .oth (fun v => v = undef), .oth (fun v => v = undef), .oth (fun v => v = .bool true)] W0) (Keep [.oth (fun v => v = .slice a n cap), .oth (fun v => v = .int .i64 (n : Nat)), .oth (fun v => v = .bool true), .oth (fun v => v = .bool true), .oth (fun v => v = undef), .oth (fun v => v = undef), .oth (fun v => v = undef), .oth (fun v => v = undef), .oth (fun v => v = .bool true), .oth (fun v => v = .bool true), .oth (fun v => v = undef), .oth (fun v => v = undef), .oth (fun v => v = undef), .oth (fun v => v = undef), .oth (fun v => v = undef), .oth (fun v => v = undef), .oth (fun v => v = undef), .oth (fun v => v = .bool true)] W0) (fun _ => undef) (by kernel_rfl) (by kernel_rfl) ?_ (by rfl) Keep.drew (holds_soft (by kernel_rfl)) ?_ ?_
  · intro u i v h
    rcases i with _ | _ | _ | _ | _ | _ | _ | _ | _ | _ | _ | _ | _ | _ | _ | _ | _ | _ | i
    all_goals first | (simp [Act.put, putV]; done) | (exfalso; simp at h; omega)
  · intro hs
    refine ⟨?_, ?_, ?_, ?_, ?_, ?_, ?_, ?_, ?_, ?_, ?_, ?_, ?_, ?_, ?_, ?_, ?_, ?_, trivial⟩
    · exact step_pureO hs (wants_none rfl) rfl fun L u W hG hdep => ⟨_, run_move rfl, rfl⟩
    · refine step_pureO hs (wants_none rfl) rfl fun L u W hG hdep => ⟨_, ?_, rfl⟩
      have e0 := (show u 0 = .slice a n cap from hG 0 (hdep 0 (by kernel_rfl)))
      go_simp
    · refine step_pureO hs (wants_none rfl) rfl fun L u W hG hdep => ⟨_, ?_, rfl⟩
      have e0 := (show u 1 = .int .i64 (n : Nat) from hG 1 (hdep 1 (by kernel_rfl)))
      have f1 := F1.out
      go_simp
    · exact step_pureO hs (wants_none rfl) rfl fun L u W hG hdep => ⟨_, run_move rfl, (show u 2 = .bool true from hG 2 (hdep 2 (by kernel_rfl)))⟩
    · exact step_outU hs (wants_off 3 rfl rfl rfl (by kernel_rfl) (fun _ => rfl)) rfl
    · exact step_outU hs (wants_off 3 rfl rfl rfl (by kernel_rfl) (fun _ => rfl)) rfl
    · exact step_outU hs (wants_off 3 rfl rfl rfl (by kernel_rfl) (fun _ => rfl)) rfl
    · exact step_outU hs (wants_off 3 rfl rfl rfl (by kernel_rfl) (fun _ => rfl)) rfl
    · exact step_pick true hs (wants_none rfl) rfl rfl (fun L u W hG hdep => (show u 3 = .bool true from hG 3 (hdep 3 (by kernel_rfl)))) (fun L u W hG hdep => rfl)
    · exact step_pureO hs (wants_none rfl) rfl fun L u W hG hdep => ⟨_, run_move rfl, (show u 8 = .bool true from hG 8 (hdep 8 (by kernel_rfl)))⟩
    · exact step_outU hs (wants_off 9 rfl rfl rfl (by kernel_rfl) (fun _ => rfl)) rfl
    · exact step_outU hs (wants_off 9 rfl rfl rfl (by kernel_rfl) (fun _ => rfl)) rfl
    · exact step_outU hs (wants_off 9 rfl rfl rfl (by kernel_rfl) (fun _ => rfl)) rfl
    · exact step_outU hs (wants_off 9 rfl rfl rfl (by kernel_rfl) (fun _ => rfl)) rfl
    · exact step_outU hs (wants_off 9 rfl rfl rfl (by kernel_rfl) (fun _ => rfl)) rfl
    · exact step_outU hs (wants_off 9 rfl rfl rfl (by kernel_rfl) (fun _ => rfl)) rfl
    · exact step_outU hs (wants_off 9 rfl rfl rfl (by kernel_rfl) (fun _ => rfl)) rfl
    · exact step_pick true hs (wants_none rfl) rfl rfl (fun L u W hG hdep => (show u 9 = .bool true from hG 9 (hdep 9 (by kernel_rfl)))) (fun L u W hG hdep => rfl)
  intro L1 u1 W1 hall hJ hG
  have hb := hJ.all rfl
  have hbel := Below.call hbel hb
  have ht2 := there_later ht2 hb
  have HC6 := Lib.hid (show u1 2 = .bool true from hG 2 (by simp))
  have HC7 := Lib.hid (show u1 3 = .bool true from hG 3 (by simp))
  have HC12 := Lib.hid (show u1 8 = .bool true from hG 8 (by simp))
  have HC13 := Lib.hid (show u1 9 = .bool true from hG 9 (by simp))
  have HC21 := Lib.hid (show u1 17 = .bool true from hG 17 (by simp))
  have hbel0 := hbel
  clear hJ hG hall hb
  have hx : u1 17 = .bool true := HC21.out
  go_wp2_with fail
  rw [hx]
  clear hx
  go_upto_region 2 with fail
  refine wp_region_turn (fun u => #[.slice a n cap, undef, u0 0, u 2, u1 0, u1 1, u1 2, u1 3, u1 4, u1 5, u1 6, u1 7, u1 8, u1 9, u1 10, u1 11, u1 12, u1 13, u1 14, u1 15, u1 16, .bool true, u 0, undef, undef]) (Holds [.val rR [0], .sto q2 rR [0], .oth (fun v => v = .int .i64 2)] W1) (Keep [.val rR [0], .sto q2 rR [0], .oth (fun v => v = .int .i64 2)] W1) (fun k => ((undef :: undef :: u0 1 :: []) : List Value).getD k undef) ?_ (by rfl) Keep.start (holds_soft (by kernel_rfl)) ?_ ?_
  · intro u i v h
    rcases i with _ | _ | _ | i
    all_goals first | (simp [Act.put, putV]; done) | (exfalso; simp at h; omega)
  · intro hs
    refine ⟨?_, ?_, ?_, trivial⟩
    · exact step_pure hs (wants_none rfl) rfl fun L u W hG hdep => run_build0 rfl (buildFe0 W)
    · refine step_storeO q2 16 hs (wants_none rfl) rfl rfl (by kernel_rfl) (fun k hk => ?_) (fun _ => E2.out) (there_lt ht2 (by omega)) ht2 (gives_op 0 rfl (by kernel_rfl) (fun _ => rfl)) tyFe rfl
      rcases k with _ | _ | _ | k
      all_goals first | (exact absurd rfl hk) | (intro e; cases e; done)
    · exact step_pureO hs (wants_none rfl) rfl fun L u W hG hdep => ⟨_, run_assign rfl, rfl⟩
  intro L2 u2 W2 hall hJ hG
  have hb : Below w.heap.size W1 W2 := hJ.below (by have := hbel.size; omega) (fun k b hf => by rcases k with _ | _ | _ | k <;> first | (cases hf; done) | (cases hf; omega))
  have hbel := hbel.trans hb
  obtain ⟨_, hs2_1t, hs2_1⟩ := (show _ ∧ W2.there q2 0 16 ∧ HasFs rR W2 q2 0 [0] from hG 1 (by simp))
  have HC3 := Lib.hid (show u2 2 = .int .i64 2 from hG 2 (by simp))
  have hbel0 := hbel
  clear hJ hG hall hb
  go_wp2
  exact ret_cell_slot (R := rR) Try.results49 (by exact E2.out) (by exact HC3.out) hs2_1 tyFe rfl (fun s hs => ⟨s, rfl, hs, hbel⟩)
set_option maxRecDepth 100000 in
set_option maxHeartbeats 4000000 in
theorem rstrict_high {a : Option Addr} {n cap : Nat} {l : List UInt8} (w : World) (ha : RdB w a n cap l) (hn : n = 32) (h2 : 127 < (l[31]'(by have := ha.hlen; omega)).toNat) :
    Calls Try.prog 49 #[.slice a n cap] w fun e w' => ∃ r, e = .returned (.tuple #[r, .int .i64 2]) ∧ IsFs rR r [0] ∧ Below w.heap.size w w' := by
  subst hn
  obtain ⟨b, o, ho, hc⟩ := ha.get 31 (by have := ha.hlen; omega)
  have hl : l.length = 32 := ha.hlen
  generalize hcc : l[31] = c at *
  subst ho
  have HCL := Lib.hid hc
  have hcl := c.toNat_lt
  clear hc hcc
  have H2 := Lib.hid (show decide ((127 : Int) < (c.toNat : Int)) = true by simp; omega)
  clear h2
  go_enter Try.func49, Try.ntmps49
  have hbel : Below w.heap.size w w := Below.refl _ _
  have hbel0 := hbel
  go_upto_region 0 with fail
  refine wp_region_turn (fun u => #[.slice (some ⟨b, o, none⟩) 32 cap, undef, u 0, u 1, undef, undef, undef, undef, undef, undef, undef, undef, undef, undef, undef, undef, undef, undef, undef, undef, undef, undef, undef, undef, undef]) (Holds [.new 16, .oth (fun v => v = .int .i64 0)] w) (Keep [.new 16, .oth (fun v => v = .int .i64 0)] w) (fun _ => undef) ?_ (by rfl) Keep.start (holds_soft (by kernel_rfl)) ?_ ?_
  · intro u i v h
    rcases i with _ | _ | i
    all_goals first | (simp [Act.put, putV]; done) | (exfalso; simp at h; omega)
  · intro hs
    refine ⟨?_, ?_, trivial⟩
    · exact step_alloc hs (wants_none rfl) rfl rfl (by omega) rfl allocFe
    · exact step_pureO hs (wants_none rfl) rfl fun L u W hG hdep => ⟨_, run_assign rfl, rfl⟩
  intro L0 u0 W0 hall hJ hG
  obtain ⟨q2, e2, hq2, _, ht2⟩ := (show ∃ g, u0 0 = .pointer (some ⟨g, 0, none⟩) ∧ w.heap.size ≤ g ∧ 0 < 16 ∧ W0.there g 0 16 from hG 0 (by simp))
  have hq2 : w.heap.size ≤ q2 := by have := hbel0.size; omega
  have E2 := Lib.hid e2; clear e2
  have hb := hJ.all rfl
  have hbel := Below.call hbel hb
  have HC3 := Lib.hid (show u0 1 = .int .i64 0 from hG 1 (by simp))
  have hbel0 := hbel
  clear hJ hG hall hb
  go_upto_region 1 with fail
  refine wp_region_mid (fun u => #[.slice (some ⟨b, o, none⟩) 32 cap, undef, u0 0, u0 1, u 0, u 1, u 2, u 3, u 4, u 5, u 6, u 7, u 8, u 9, u 10, u 11, u 12, u 13, u 14, u 15, u 16, u 17, undef, undef, undef]) (Holds [.oth (fun v => v = .slice (some ⟨b, o, none⟩) 32 cap), .oth (fun v => v = .int .i64 32), .oth (fun v => v = .bool false), .oth (fun v => v = .bool false), .oth (fun v => v = .slice (some ⟨b, o, none⟩) 32 cap), .oth (fun v => v = .pointer (some ⟨b, o + 31, none⟩)), .oth (fun v => v = .int .u8 (c.toNat : Int)), .oth (fun v => v = .bool true), .oth (fun v => v = .bool true), .oth (fun v => v = .bool true), .oth (fun v => v = undef), .oth (fun v => v = undef), .oth (fun v => v = undef), .oth (fun v => v = undef), .oth (fun v => v = undef), .oth (fun v => v = undef), .oth (fun v => v = undef), .oth (fun v => v = .bool true)] W0) (Keep [.oth (fun v => v = .slice (some ⟨b, o, none⟩) 32 cap), .oth (fun v => v = .int .i64 32), .oth (fun v => v = .bool false), .oth (fun v => v = .bool false), .oth (fun v => v = .slice (some ⟨b, o, none⟩) 32 cap), .oth (fun v => v = .pointer (some ⟨b, o + 31, none⟩)), .oth (fun v => v = .int .u8 (c.toNat : Int)), .oth (fun v => v = .bool true), .oth (fun v => v = .bool true), .oth (fun v => v = .bool true), .oth (fun v => v = undef), .oth (fun v => v = undef), .oth (fun v => v = undef), .oth (fun v => v = undef), .oth (fun v => v = undef), .oth (fun v => v = undef), .oth (fun v => v = undef), .oth (fun v => v = .bool true)] W0) (fun _ => undef) (by kernel_rfl) (by kernel_rfl) ?_ (by rfl) Keep.drew (holds_soft (by kernel_rfl)) ?_ ?_
  · intro u i v h
    rcases i with _ | _ | _ | _ | _ | _ | _ | _ | _ | _ | _ | _ | _ | _ | _ | _ | _ | _ | i
    all_goals first | (simp [Act.put, putV]; done) | (exfalso; simp at h; omega)
  · intro hs
    refine ⟨?_, ?_, ?_, ?_, ?_, ?_, ?_, ?_, ?_, ?_, ?_, ?_, ?_, ?_, ?_, ?_, ?_, ?_, trivial⟩
    · exact step_pureO hs (wants_none rfl) rfl fun L u W hG hdep => ⟨_, run_move rfl, rfl⟩
    · refine step_pureO hs (wants_none rfl) rfl fun L u W hG hdep => ⟨_, ?_, rfl⟩
      have e0 := (show u 0 = .slice (some ⟨b, o, none⟩) 32 cap from hG 0 (hdep 0 (by kernel_rfl)))
      go_simp
    · refine step_pureO hs (wants_none rfl) rfl fun L u W hG hdep => ⟨_, ?_, rfl⟩
      have e0 := (show u 1 = .int .i64 32 from hG 1 (hdep 1 (by kernel_rfl)))
      go_simp
      try simp [bne]
    · exact step_pureO hs (wants_none rfl) rfl fun L u W hG hdep => ⟨_, run_move rfl, (show u 2 = .bool false from hG 2 (hdep 2 (by kernel_rfl)))⟩
    · exact step_pureO hs (wants_on 3 rfl rfl (by kernel_rfl) (fun _ => rfl)) rfl fun L u W hG hdep => ⟨_, run_move rfl, rfl⟩
    · refine step_pureO hs (wants_on 3 rfl rfl (by kernel_rfl) (fun _ => rfl)) rfl fun L u W hG hdep => ⟨_, ?_, rfl⟩
      have e0 := (show u 4 = .slice (some ⟨b, o, none⟩) 32 cap from hG 4 (hdep 4 (by kernel_rfl)))
      have f0 : (31 : Nat) < 32 := by omega
      go_simp
    · exact step_cell b (o + 31) hs (wants_on 3 rfl rfl (by kernel_rfl) (fun _ => rfl)) rfl rfl (fun _ h => load_u8 h) (fun L u W hG hdep => (show u 5 = .pointer (some ⟨b, o + 31, none⟩) from hG 5 (hdep 5 (by kernel_rfl)))) (cell_keep HCL.out hbel) (noSto_apart (by kernel_rfl))
    · refine step_pureO hs (wants_on 3 rfl rfl (by kernel_rfl) (fun _ => rfl)) rfl fun L u W hG hdep => ⟨_, ?_, rfl⟩
      have e0 := (show u 6 = .int .u8 (c.toNat : Int) from hG 6 (hdep 6 (by kernel_rfl)))
      have f1 := H2.out
      go_simp
    · exact step_pick false hs (wants_none rfl) rfl rfl (fun L u W hG hdep => (show u 3 = .bool false from hG 3 (hdep 3 (by kernel_rfl)))) (fun L u W hG hdep => (show u 7 = .bool true from hG 7 (hdep 7 (by kernel_rfl))))
    · exact step_pureO hs (wants_none rfl) rfl fun L u W hG hdep => ⟨_, run_move rfl, (show u 8 = .bool true from hG 8 (hdep 8 (by kernel_rfl)))⟩
    · exact step_outU hs (wants_off 9 rfl rfl rfl (by kernel_rfl) (fun _ => rfl)) rfl
    · exact step_outU hs (wants_off 9 rfl rfl rfl (by kernel_rfl) (fun _ => rfl)) rfl
    · exact step_outU hs (wants_off 9 rfl rfl rfl (by kernel_rfl) (fun _ => rfl)) rfl
    · exact step_outU hs (wants_off 9 rfl rfl rfl (by kernel_rfl) (fun _ => rfl)) rfl
    · exact step_outU hs (wants_off 9 rfl rfl rfl (by kernel_rfl) (fun _ => rfl)) rfl
    · exact step_outU hs (wants_off 9 rfl rfl rfl (by kernel_rfl) (fun _ => rfl)) rfl
    · exact step_outU hs (wants_off 9 rfl rfl rfl (by kernel_rfl) (fun _ => rfl)) rfl
    · exact step_pick true hs (wants_none rfl) rfl rfl (fun L u W hG hdep => (show u 9 = .bool true from hG 9 (hdep 9 (by kernel_rfl)))) (fun L u W hG hdep => rfl)
  intro L1 u1 W1 hall hJ hG
  have hb := hJ.all rfl
  have hbel := Below.call hbel hb
  have ht2 := there_later ht2 hb
  have HC6 := Lib.hid (show u1 2 = .bool false from hG 2 (by simp))
  have HC7 := Lib.hid (show u1 3 = .bool false from hG 3 (by simp))
  have HC11 := Lib.hid (show u1 7 = .bool true from hG 7 (by simp))
  have HC12 := Lib.hid (show u1 8 = .bool true from hG 8 (by simp))
  have HC13 := Lib.hid (show u1 9 = .bool true from hG 9 (by simp))
  have HC21 := Lib.hid (show u1 17 = .bool true from hG 17 (by simp))
  have hbel0 := hbel
  clear hJ hG hall hb
  have hx : u1 17 = .bool true := HC21.out
  go_wp2_with fail
  rw [hx]
  clear hx
  go_upto_region 2 with fail
  refine wp_region_turn (fun u => #[.slice (some ⟨b, o, none⟩) 32 cap, undef, u0 0, u 2, u1 0, u1 1, u1 2, u1 3, u1 4, u1 5, u1 6, u1 7, u1 8, u1 9, u1 10, u1 11, u1 12, u1 13, u1 14, u1 15, u1 16, .bool true, u 0, undef, undef]) (Holds [.val rR [0], .sto q2 rR [0], .oth (fun v => v = .int .i64 2)] W1) (Keep [.val rR [0], .sto q2 rR [0], .oth (fun v => v = .int .i64 2)] W1) (fun k => ((undef :: undef :: u0 1 :: []) : List Value).getD k undef) ?_ (by rfl) Keep.start (holds_soft (by kernel_rfl)) ?_ ?_
  · intro u i v h
    rcases i with _ | _ | _ | i
    all_goals first | (simp [Act.put, putV]; done) | (exfalso; simp at h; omega)
  · intro hs
    refine ⟨?_, ?_, ?_, trivial⟩
    · exact step_pure hs (wants_none rfl) rfl fun L u W hG hdep => run_build0 rfl (buildFe0 W)
    · refine step_storeO q2 16 hs (wants_none rfl) rfl rfl (by kernel_rfl) (fun k hk => ?_) (fun _ => E2.out) (there_lt ht2 (by omega)) ht2 (gives_op 0 rfl (by kernel_rfl) (fun _ => rfl)) tyFe rfl
      rcases k with _ | _ | _ | k
      all_goals first | (exact absurd rfl hk) | (intro e; cases e; done)
    · exact step_pureO hs (wants_none rfl) rfl fun L u W hG hdep => ⟨_, run_assign rfl, rfl⟩
  intro L2 u2 W2 hall hJ hG
  have hb : Below w.heap.size W1 W2 := hJ.below (by have := hbel.size; omega) (fun k b hf => by rcases k with _ | _ | _ | k <;> first | (cases hf; done) | (cases hf; omega))
  have hbel := hbel.trans hb
  obtain ⟨_, hs2_1t, hs2_1⟩ := (show _ ∧ W2.there q2 0 16 ∧ HasFs rR W2 q2 0 [0] from hG 1 (by simp))
  have HC3 := Lib.hid (show u2 2 = .int .i64 2 from hG 2 (by simp))
  have hbel0 := hbel
  clear hJ hG hall hb
  go_wp2
  exact ret_cell_slot (R := rR) Try.results49 (by exact E2.out) (by exact HC3.out) hs2_1 tyFe rfl (fun s hs => ⟨s, rfl, hs, hbel⟩)
set_option maxRecDepth 100000 in
set_option maxHeartbeats 4000000 in
theorem rstrict_yes {a : Option Addr} {n cap : Nat} {l : List UInt8} (w : World) (ha : RdB w a n cap l) (hn : n = 32) (h2 : ¬ 127 < (l[31]'(by have := ha.hlen; omega)).toNat) (hok : feOk l = true) :
    Calls Try.prog 49 #[.slice a n cap] w fun e w' => ∃ r, e = .returned (.tuple #[r, .int .i64 0]) ∧ IsFs rR r [feF l] ∧ Below w.heap.size w w' := by
  subst hn
  obtain ⟨b, o, ho, hc⟩ := ha.get 31 (by have := ha.hlen; omega)
  have hl : l.length = 32 := ha.hlen
  generalize hcc : l[31] = c at *
  subst ho
  have HCL := Lib.hid hc
  have hcl := c.toNat_lt
  clear hc hcc
  have H2 := Lib.hid (show decide ((127 : Int) < (c.toNat : Int)) = false by simp; omega)
  have HQ := Lib.hid (show decide (leB 32 (feF l).val = l) = true from by rw [feOk_back, hok])
  clear h2 hok
  go_enter Try.func49, Try.ntmps49
  have hbel : Below w.heap.size w w := Below.refl _ _
  have hbel0 := hbel
  go_upto_region 0 with fail
  refine wp_region_turn (fun u => #[.slice (some ⟨b, o, none⟩) 32 cap, undef, u 0, u 1, undef, undef, undef, undef, undef, undef, undef, undef, undef, undef, undef, undef, undef, undef, undef, undef, undef, undef, undef, undef, undef]) (Holds [.new 16, .oth (fun v => v = .int .i64 0)] w) (Keep [.new 16, .oth (fun v => v = .int .i64 0)] w) (fun _ => undef) ?_ (by rfl) Keep.start (holds_soft (by kernel_rfl)) ?_ ?_
  · intro u i v h
    rcases i with _ | _ | i
    all_goals first | (simp [Act.put, putV]; done) | (exfalso; simp at h; omega)
  · intro hs
    refine ⟨?_, ?_, trivial⟩
    · exact step_alloc hs (wants_none rfl) rfl rfl (by omega) rfl allocFe
    · exact step_pureO hs (wants_none rfl) rfl fun L u W hG hdep => ⟨_, run_assign rfl, rfl⟩
  intro L0 u0 W0 hall hJ hG
  obtain ⟨q2, e2, hq2, _, ht2⟩ := (show ∃ g, u0 0 = .pointer (some ⟨g, 0, none⟩) ∧ w.heap.size ≤ g ∧ 0 < 16 ∧ W0.there g 0 16 from hG 0 (by simp))
  have hq2 : w.heap.size ≤ q2 := by have := hbel0.size; omega
  have E2 := Lib.hid e2; clear e2
  have hb := hJ.all rfl
  have hbel := Below.call hbel hb
  have HC3 := Lib.hid (show u0 1 = .int .i64 0 from hG 1 (by simp))
  have hbel0 := hbel
  clear hJ hG hall hb
  go_upto_region 1 with fail
  refine wp_region_mid (fun u => #[.slice (some ⟨b, o, none⟩) 32 cap, undef, u0 0, u0 1, u 0, u 1, u 2, u 3, u 4, u 5, u 6, u 7, u 8, u 9, u 10, u 11, u 12, u 13, u 14, u 15, u 16, u 17, undef, undef, undef]) (Holds [.oth (fun v => v = .slice (some ⟨b, o, none⟩) 32 cap), .oth (fun v => v = .int .i64 32), .oth (fun v => v = .bool false), .oth (fun v => v = .bool false), .oth (fun v => v = .slice (some ⟨b, o, none⟩) 32 cap), .oth (fun v => v = .pointer (some ⟨b, o + 31, none⟩)), .oth (fun v => v = .int .u8 (c.toNat : Int)), .oth (fun v => v = .bool false), .oth (fun v => v = .bool false), .oth (fun v => v = .bool false), .oth (fun v => v = .slice (some ⟨b, o, none⟩) 32 cap), .val rR [feF l], .rd (leB 32 (feF l).val), .oth (fun v => v = (.string (bs (leB 32 (feF l).val)))), .oth (fun v => v = .slice (some ⟨b, o, none⟩) 32 cap), .oth (fun v => v = (.string (bs l))), .oth (fun v => v = .bool false), .oth (fun v => v = .bool false)] W0) (Keep [.oth (fun v => v = .slice (some ⟨b, o, none⟩) 32 cap), .oth (fun v => v = .int .i64 32), .oth (fun v => v = .bool false), .oth (fun v => v = .bool false), .oth (fun v => v = .slice (some ⟨b, o, none⟩) 32 cap), .oth (fun v => v = .pointer (some ⟨b, o + 31, none⟩)), .oth (fun v => v = .int .u8 (c.toNat : Int)), .oth (fun v => v = .bool false), .oth (fun v => v = .bool false), .oth (fun v => v = .bool false), .oth (fun v => v = .slice (some ⟨b, o, none⟩) 32 cap), .val rR [feF l], .rd (leB 32 (feF l).val), .oth (fun v => v = (.string (bs (leB 32 (feF l).val)))), .oth (fun v => v = .slice (some ⟨b, o, none⟩) 32 cap), .oth (fun v => v = (.string (bs l))), .oth (fun v => v = .bool false), .oth (fun v => v = .bool false)] W0) (fun _ => undef) (by kernel_rfl) (by kernel_rfl) ?_ (by rfl) Keep.drew (holds_soft (by kernel_rfl)) ?_ ?_
  · intro u i v h
    rcases i with _ | _ | _ | _ | _ | _ | _ | _ | _ | _ | _ | _ | _ | _ | _ | _ | _ | _ | i
    all_goals first | (simp [Act.put, putV]; done) | (exfalso; simp at h; omega)
  · intro hs
    refine ⟨?_, ?_, ?_, ?_, ?_, ?_, ?_, ?_, ?_, ?_, ?_, ?_, ?_, ?_, ?_, ?_, ?_, ?_, trivial⟩
    · exact step_pureO hs (wants_none rfl) rfl fun L u W hG hdep => ⟨_, run_move rfl, rfl⟩
    · refine step_pureO hs (wants_none rfl) rfl fun L u W hG hdep => ⟨_, ?_, rfl⟩
      have e0 := (show u 0 = .slice (some ⟨b, o, none⟩) 32 cap from hG 0 (hdep 0 (by kernel_rfl)))
      go_simp
    · refine step_pureO hs (wants_none rfl) rfl fun L u W hG hdep => ⟨_, ?_, rfl⟩
      have e0 := (show u 1 = .int .i64 32 from hG 1 (hdep 1 (by kernel_rfl)))
      go_simp
      try simp [bne]
    · exact step_pureO hs (wants_none rfl) rfl fun L u W hG hdep => ⟨_, run_move rfl, (show u 2 = .bool false from hG 2 (hdep 2 (by kernel_rfl)))⟩
    · exact step_pureO hs (wants_on 3 rfl rfl (by kernel_rfl) (fun _ => rfl)) rfl fun L u W hG hdep => ⟨_, run_move rfl, rfl⟩
    · refine step_pureO hs (wants_on 3 rfl rfl (by kernel_rfl) (fun _ => rfl)) rfl fun L u W hG hdep => ⟨_, ?_, rfl⟩
      have e0 := (show u 4 = .slice (some ⟨b, o, none⟩) 32 cap from hG 4 (hdep 4 (by kernel_rfl)))
      have f0 : (31 : Nat) < 32 := by omega
      go_simp
    · exact step_cell b (o + 31) hs (wants_on 3 rfl rfl (by kernel_rfl) (fun _ => rfl)) rfl rfl (fun _ h => load_u8 h) (fun L u W hG hdep => (show u 5 = .pointer (some ⟨b, o + 31, none⟩) from hG 5 (hdep 5 (by kernel_rfl)))) (cell_keep HCL.out hbel) (noSto_apart (by kernel_rfl))
    · refine step_pureO hs (wants_on 3 rfl rfl (by kernel_rfl) (fun _ => rfl)) rfl fun L u W hG hdep => ⟨_, ?_, rfl⟩
      have e0 := (show u 6 = .int .u8 (c.toNat : Int) from hG 6 (hdep 6 (by kernel_rfl)))
      have f1 := H2.out
      go_simp
    · exact step_pick false hs (wants_none rfl) rfl rfl (fun L u W hG hdep => (show u 3 = .bool false from hG 3 (hdep 3 (by kernel_rfl)))) (fun L u W hG hdep => (show u 7 = .bool false from hG 7 (hdep 7 (by kernel_rfl))))
    · exact step_pureO hs (wants_none rfl) rfl fun L u W hG hdep => ⟨_, run_move rfl, (show u 8 = .bool false from hG 8 (hdep 8 (by kernel_rfl)))⟩
    · exact step_pureO hs (wants_on 9 rfl rfl (by kernel_rfl) (fun _ => rfl)) rfl fun L u W hG hdep => ⟨_, run_move rfl, rfl⟩
    · refine step_call hs (wants_on 9 rfl rfl (by kernel_rfl) (fun _ => rfl)) rfl fun L u W hJ hG hL hdep K hK => ?_
      have x0 := (show u 10 = .slice (some ⟨b, o, none⟩) 32 cap from hG 10 (hdep 10 (by kernel_rfl)))
      have hRB0 := (ha.below hbel).below (hJ.all rfl)
      go_simp
      go_at_call 88
      (with_reducible refine (kOf' rfl hRB0).mono ?_); rintro e w1 ⟨r, rfl, hr, hb⟩
      have hk := hK.out _ _ hr hb
      simp only [x0] at hk
      exact hk
    · refine step_callB hs (wants_on 9 rfl rfl (by kernel_rfl) (fun _ => rfl)) rfl fun L u W hJ hG hL hdep K hK => ?_
      have a0 := (show IsFs rR (u 11) [feF l] from hG 11 (hdep 11 (by kernel_rfl)))
      go_simp
      go_at_call 69
      (with_reducible refine (kBytes a0 _).mono ?_); rintro e w1 ⟨g, n, cap, r, rfl, h1, h2, h3, h4, h5, hb⟩
      have hk := hK.out _ _ _ _ _ h1 h2 h3 h4 h5 hb
      exact hk
    · exact step_conv 12 hs (wants_on 9 rfl rfl (by kernel_rfl) (fun _ => rfl)) rfl rfl rfl (by kernel_rfl) (fun _ => rfl)
    · exact step_pureO hs (wants_on 9 rfl rfl (by kernel_rfl) (fun _ => rfl)) rfl fun L u W hG hdep => ⟨_, run_move rfl, rfl⟩
    · exact step_convC hs (wants_on 9 rfl rfl (by kernel_rfl) (fun _ => rfl)) rfl rfl (ha.below hbel) (by kernel_rfl) (fun L u W hG hdep => (show u 14 = .slice (some ⟨b, o, none⟩) 32 cap from hG 14 (hdep 14 (by kernel_rfl))))
    · exact step_pureO hs (wants_on 9 rfl rfl (by kernel_rfl) (fun _ => rfl)) rfl fun L u W hG hdep => ⟨_, run_neqS rfl (show u 13 = (.string (bs (leB 32 (feF l).val))) from hG 13 (hdep 13 (by kernel_rfl))) (show u 15 = (.string (bs l)) from hG 15 (hdep 15 (by kernel_rfl))), by rw [HQ.out]; rfl⟩
    · exact step_pick false hs (wants_none rfl) rfl rfl (fun L u W hG hdep => (show u 9 = .bool false from hG 9 (hdep 9 (by kernel_rfl)))) (fun L u W hG hdep => (show u 16 = .bool false from hG 16 (hdep 16 (by kernel_rfl))))
  intro L1 u1 W1 hall hJ hG
  have hb := hJ.all rfl
  have hbel := Below.call hbel hb
  have ht2 := there_later ht2 hb
  have HC6 := Lib.hid (show u1 2 = .bool false from hG 2 (by simp))
  have HC7 := Lib.hid (show u1 3 = .bool false from hG 3 (by simp))
  have HC11 := Lib.hid (show u1 7 = .bool false from hG 7 (by simp))
  have HC12 := Lib.hid (show u1 8 = .bool false from hG 8 (by simp))
  have HC13 := Lib.hid (show u1 9 = .bool false from hG 9 (by simp))
  have HC20 := Lib.hid (show u1 16 = .bool false from hG 16 (by simp))
  have HC21 := Lib.hid (show u1 17 = .bool false from hG 17 (by simp))
  have hbel0 := hbel
  clear hJ hG hall hb
  have hx : u1 17 = .bool false := HC21.out
  go_wp2_with fail
  rw [hx]
  clear hx
  go_upto_region 3 with fail
  refine wp_region_turn (fun u => #[.slice (some ⟨b, o, none⟩) 32 cap, undef, u0 0, u 3, u1 0, u1 1, u1 2, u1 3, u1 4, u1 5, u1 6, u1 7, u1 8, u1 9, u1 10, u1 11, u1 12, u1 13, u1 14, u1 15, u1 16, .bool false, undef, u 0, u 1]) (Holds [.oth (fun v => v = .slice (some ⟨b, o, none⟩) 32 cap), .val rR [feF l], .sto q2 rR [feF l], .oth (fun v => v = .int .i64 0)] W1) (Keep [.oth (fun v => v = .slice (some ⟨b, o, none⟩) 32 cap), .val rR [feF l], .sto q2 rR [feF l], .oth (fun v => v = .int .i64 0)] W1) (fun k => ((undef :: undef :: undef :: u0 1 :: []) : List Value).getD k undef) ?_ (by rfl) Keep.start (holds_soft (by kernel_rfl)) ?_ ?_
  · intro u i v h
    rcases i with _ | _ | _ | _ | i
    all_goals first | (simp [Act.put, putV]; done) | (exfalso; simp at h; omega)
  · intro hs
    refine ⟨?_, ?_, ?_, ?_, trivial⟩
    · exact step_pureO hs (wants_none rfl) rfl fun L u W hG hdep => ⟨_, run_move rfl, rfl⟩
    · refine step_call hs (wants_none rfl) rfl fun L u W hJ hG hL hdep K hK => ?_
      have x0 := (show u 0 = .slice (some ⟨b, o, none⟩) 32 cap from hG 0 (hdep 0 (by kernel_rfl)))
      have hRB0 := (ha.below (hbel.trans (hJ.below (by have := hbel.size; omega) (fun k b hf => by rcases k with _ | _ | _ | _ | k <;> first | (cases hf; done) | (cases hf; omega)))))
      go_simp
      go_at_call 88
      (with_reducible refine (kOf' rfl hRB0).mono ?_); rintro e w1 ⟨r, rfl, hr, hb⟩
      have hk := hK.out _ _ hr hb
      simp only [x0] at hk
      exact hk
    · refine step_storeO q2 16 hs (wants_none rfl) rfl rfl (by kernel_rfl) (fun k hk => ?_) (fun _ => E2.out) (there_lt ht2 (by omega)) ht2 (gives_op 1 rfl (by kernel_rfl) (fun _ => rfl)) tyFe rfl
      rcases k with _ | _ | _ | _ | k
      all_goals first | (exact absurd rfl hk) | (intro e; cases e; done)
    · exact step_pureO hs (wants_none rfl) rfl fun L u W hG hdep => ⟨_, run_assign rfl, rfl⟩
  intro L3 u3 W3 hall hJ hG
  have hb : Below w.heap.size W1 W3 := hJ.below (by have := hbel.size; omega) (fun k b hf => by rcases k with _ | _ | _ | _ | k <;> first | (cases hf; done) | (cases hf; omega))
  have hbel := hbel.trans hb
  obtain ⟨_, hs3_2t, hs3_2⟩ := (show _ ∧ W3.there q2 0 16 ∧ HasFs rR W3 q2 0 [feF l] from hG 2 (by simp))
  have HC3 := Lib.hid (show u3 3 = .int .i64 0 from hG 3 (by simp))
  have hbel0 := hbel
  clear hJ hG hall hb
  go_wp2
  exact ret_cell_slot (R := rR) Try.results49 (by exact E2.out) (by exact HC3.out) hs3_2 tyFe rfl (fun s hs => ⟨s, rfl, hs, hbel⟩)
set_option maxRecDepth 100000 in
set_option maxHeartbeats 4000000 in
theorem rstrict_no {a : Option Addr} {n cap : Nat} {l : List UInt8} (w : World) (ha : RdB w a n cap l) (hn : n = 32) (h2 : ¬ 127 < (l[31]'(by have := ha.hlen; omega)).toNat) (hok : feOk l = false) :
    Calls Try.prog 49 #[.slice a n cap] w fun e w' => ∃ r, e = .returned (.tuple #[r, .int .i64 2]) ∧ IsFs rR r [0] ∧ Below w.heap.size w w' := by
  subst hn
  obtain ⟨b, o, ho, hc⟩ := ha.get 31 (by have := ha.hlen; omega)
  have hl : l.length = 32 := ha.hlen
  generalize hcc : l[31] = c at *
  subst ho
  have HCL := Lib.hid hc
  have hcl := c.toNat_lt
  clear hc hcc
  have H2 := Lib.hid (show decide ((127 : Int) < (c.toNat : Int)) = false by simp; omega)
  have HQ := Lib.hid (show decide (leB 32 (feF l).val = l) = false from by rw [feOk_back, hok])
  clear h2 hok
  go_enter Try.func49, Try.ntmps49
  have hbel : Below w.heap.size w w := Below.refl _ _
  have hbel0 := hbel
  go_upto_region 0 with fail
  refine wp_region_turn (fun u => #[.slice (some ⟨b, o, none⟩) 32 cap, undef, u 0, u 1, undef, undef, undef, undef, undef, undef, undef, undef, undef, undef, undef, undef, undef, undef, undef, undef, undef, undef, undef, undef, undef]) (Holds [.new 16, .oth (fun v => v = .int .i64 0)] w) (Keep [.new 16, .oth (fun v => v = .int .i64 0)] w) (fun _ => undef) ?_ (by rfl) Keep.start (holds_soft (by kernel_rfl)) ?_ ?_
  · intro u i v h
    rcases i with _ | _ | i
    all_goals first | (simp [Act.put, putV]; done) | (exfalso; simp at h; omega)
  · intro hs
    refine ⟨?_, ?_, trivial⟩
    · exact step_alloc hs (wants_none rfl) rfl rfl (by omega) rfl allocFe
    · exact step_pureO hs (wants_none rfl) rfl fun L u W hG hdep => ⟨_, run_assign rfl, rfl⟩
  intro L0 u0 W0 hall hJ hG
  obtain ⟨q2, e2, hq2, _, ht2⟩ := (show ∃ g, u0 0 = .pointer (some ⟨g, 0, none⟩) ∧ w.heap.size ≤ g ∧ 0 < 16 ∧ W0.there g 0 16 from hG 0 (by simp))
  have hq2 : w.heap.size ≤ q2 := by have := hbel0.size; omega
  have E2 := Lib.hid e2; clear e2
  have hb := hJ.all rfl
  have hbel := Below.call hbel hb
  have HC3 := Lib.hid (show u0 1 = .int .i64 0 from hG 1 (by simp))
  have hbel0 := hbel
  clear hJ hG hall hb
  go_upto_region 1 with fail
  refine wp_region_mid (fun u => #[.slice (some ⟨b, o, none⟩) 32 cap, undef, u0 0, u0 1, u 0, u 1, u 2, u 3, u 4, u 5, u 6, u 7, u 8, u 9, u 10, u 11, u 12, u 13, u 14, u 15, u 16, u 17, undef, undef, undef]) (Holds [.oth (fun v => v = .slice (some ⟨b, o, none⟩) 32 cap), .oth (fun v => v = .int .i64 32), .oth (fun v => v = .bool false), .oth (fun v => v = .bool false), .oth (fun v => v = .slice (some ⟨b, o, none⟩) 32 cap), .oth (fun v => v = .pointer (some ⟨b, o + 31, none⟩)), .oth (fun v => v = .int .u8 (c.toNat : Int)), .oth (fun v => v = .bool false), .oth (fun v => v = .bool false), .oth (fun v => v = .bool false), .oth (fun v => v = .slice (some ⟨b, o, none⟩) 32 cap), .val rR [feF l], .rd (leB 32 (feF l).val), .oth (fun v => v = (.string (bs (leB 32 (feF l).val)))), .oth (fun v => v = .slice (some ⟨b, o, none⟩) 32 cap), .oth (fun v => v = (.string (bs l))), .oth (fun v => v = .bool true), .oth (fun v => v = .bool true)] W0) (Keep [.oth (fun v => v = .slice (some ⟨b, o, none⟩) 32 cap), .oth (fun v => v = .int .i64 32), .oth (fun v => v = .bool false), .oth (fun v => v = .bool false), .oth (fun v => v = .slice (some ⟨b, o, none⟩) 32 cap), .oth (fun v => v = .pointer (some ⟨b, o + 31, none⟩)), .oth (fun v => v = .int .u8 (c.toNat : Int)), .oth (fun v => v = .bool false), .oth (fun v => v = .bool false), .oth (fun v => v = .bool false), .oth (fun v => v = .slice (some ⟨b, o, none⟩) 32 cap), .val rR [feF l], .rd (leB 32 (feF l).val), .oth (fun v => v = (.string (bs (leB 32 (feF l).val)))), .oth (fun v => v = .slice (some ⟨b, o, none⟩) 32 cap), .oth (fun v => v = (.string (bs l))), .oth (fun v => v = .bool true), .oth (fun v => v = .bool true)] W0) (fun _ => undef) (by kernel_rfl) (by kernel_rfl) ?_ (by rfl) Keep.drew (holds_soft (by kernel_rfl)) ?_ ?_
  · intro u i v h
    rcases i with _ | _ | _ | _ | _ | _ | _ | _ | _ | _ | _ | _ | _ | _ | _ | _ | _ | _ | i
    all_goals first | (simp [Act.put, putV]; done) | (exfalso; simp at h; omega)
  · intro hs
    refine ⟨?_, ?_, ?_, ?_, ?_, ?_, ?_, ?_, ?_, ?_, ?_, ?_, ?_, ?_, ?_, ?_, ?_, ?_, trivial⟩
    · exact step_pureO hs (wants_none rfl) rfl fun L u W hG hdep => ⟨_, run_move rfl, rfl⟩
    · refine step_pureO hs (wants_none rfl) rfl fun L u W hG hdep => ⟨_, ?_, rfl⟩
      have e0 := (show u 0 = .slice (some ⟨b, o, none⟩) 32 cap from hG 0 (hdep 0 (by kernel_rfl)))
      go_simp
    · refine step_pureO hs (wants_none rfl) rfl fun L u W hG hdep => ⟨_, ?_, rfl⟩
      have e0 := (show u 1 = .int .i64 32 from hG 1 (hdep 1 (by kernel_rfl)))
      go_simp
      try simp [bne]
    · exact step_pureO hs (wants_none rfl) rfl fun L u W hG hdep => ⟨_, run_move rfl, (show u 2 = .bool false from hG 2 (hdep 2 (by kernel_rfl)))⟩
    · exact step_pureO hs (wants_on 3 rfl rfl (by kernel_rfl) (fun _ => rfl)) rfl fun L u W hG hdep => ⟨_, run_move rfl, rfl⟩
    · refine step_pureO hs (wants_on 3 rfl rfl (by kernel_rfl) (fun _ => rfl)) rfl fun L u W hG hdep => ⟨_, ?_, rfl⟩
      have e0 := (show u 4 = .slice (some ⟨b, o, none⟩) 32 cap from hG 4 (hdep 4 (by kernel_rfl)))
      have f0 : (31 : Nat) < 32 := by omega
      go_simp
    · exact step_cell b (o + 31) hs (wants_on 3 rfl rfl (by kernel_rfl) (fun _ => rfl)) rfl rfl (fun _ h => load_u8 h) (fun L u W hG hdep => (show u 5 = .pointer (some ⟨b, o + 31, none⟩) from hG 5 (hdep 5 (by kernel_rfl)))) (cell_keep HCL.out hbel) (noSto_apart (by kernel_rfl))
    · refine step_pureO hs (wants_on 3 rfl rfl (by kernel_rfl) (fun _ => rfl)) rfl fun L u W hG hdep => ⟨_, ?_, rfl⟩
      have e0 := (show u 6 = .int .u8 (c.toNat : Int) from hG 6 (hdep 6 (by kernel_rfl)))
      have f1 := H2.out
      go_simp
    · exact step_pick false hs (wants_none rfl) rfl rfl (fun L u W hG hdep => (show u 3 = .bool false from hG 3 (hdep 3 (by kernel_rfl)))) (fun L u W hG hdep => (show u 7 = .bool false from hG 7 (hdep 7 (by kernel_rfl))))
    · exact step_pureO hs (wants_none rfl) rfl fun L u W hG hdep => ⟨_, run_move rfl, (show u 8 = .bool false from hG 8 (hdep 8 (by kernel_rfl)))⟩
    · exact step_pureO hs (wants_on 9 rfl rfl (by kernel_rfl) (fun _ => rfl)) rfl fun L u W hG hdep => ⟨_, run_move rfl, rfl⟩
    · refine step_call hs (wants_on 9 rfl rfl (by kernel_rfl) (fun _ => rfl)) rfl fun L u W hJ hG hL hdep K hK => ?_
      have x0 := (show u 10 = .slice (some ⟨b, o, none⟩) 32 cap from hG 10 (hdep 10 (by kernel_rfl)))
      have hRB0 := (ha.below hbel).below (hJ.all rfl)
      go_simp
      go_at_call 88
      (with_reducible refine (kOf' rfl hRB0).mono ?_); rintro e w1 ⟨r, rfl, hr, hb⟩
      have hk := hK.out _ _ hr hb
      simp only [x0] at hk
      exact hk
    · refine step_callB hs (wants_on 9 rfl rfl (by kernel_rfl) (fun _ => rfl)) rfl fun L u W hJ hG hL hdep K hK => ?_
      have a0 := (show IsFs rR (u 11) [feF l] from hG 11 (hdep 11 (by kernel_rfl)))
      go_simp
      go_at_call 69
      (with_reducible refine (kBytes a0 _).mono ?_); rintro e w1 ⟨g, n, cap, r, rfl, h1, h2, h3, h4, h5, hb⟩
      have hk := hK.out _ _ _ _ _ h1 h2 h3 h4 h5 hb
      exact hk
    · exact step_conv 12 hs (wants_on 9 rfl rfl (by kernel_rfl) (fun _ => rfl)) rfl rfl rfl (by kernel_rfl) (fun _ => rfl)
    · exact step_pureO hs (wants_on 9 rfl rfl (by kernel_rfl) (fun _ => rfl)) rfl fun L u W hG hdep => ⟨_, run_move rfl, rfl⟩
    · exact step_convC hs (wants_on 9 rfl rfl (by kernel_rfl) (fun _ => rfl)) rfl rfl (ha.below hbel) (by kernel_rfl) (fun L u W hG hdep => (show u 14 = .slice (some ⟨b, o, none⟩) 32 cap from hG 14 (hdep 14 (by kernel_rfl))))
    · exact step_pureO hs (wants_on 9 rfl rfl (by kernel_rfl) (fun _ => rfl)) rfl fun L u W hG hdep => ⟨_, run_neqS rfl (show u 13 = (.string (bs (leB 32 (feF l).val))) from hG 13 (hdep 13 (by kernel_rfl))) (show u 15 = (.string (bs l)) from hG 15 (hdep 15 (by kernel_rfl))), by rw [HQ.out]; rfl⟩
    · exact step_pick false hs (wants_none rfl) rfl rfl (fun L u W hG hdep => (show u 9 = .bool false from hG 9 (hdep 9 (by kernel_rfl)))) (fun L u W hG hdep => (show u 16 = .bool true from hG 16 (hdep 16 (by kernel_rfl))))
  intro L1 u1 W1 hall hJ hG
  have hb := hJ.all rfl
  have hbel := Below.call hbel hb
  have ht2 := there_later ht2 hb
  have HC6 := Lib.hid (show u1 2 = .bool false from hG 2 (by simp))
  have HC7 := Lib.hid (show u1 3 = .bool false from hG 3 (by simp))
  have HC11 := Lib.hid (show u1 7 = .bool false from hG 7 (by simp))
  have HC12 := Lib.hid (show u1 8 = .bool false from hG 8 (by simp))
  have HC13 := Lib.hid (show u1 9 = .bool false from hG 9 (by simp))
  have HC20 := Lib.hid (show u1 16 = .bool true from hG 16 (by simp))
  have HC21 := Lib.hid (show u1 17 = .bool true from hG 17 (by simp))
  have hbel0 := hbel
  clear hJ hG hall hb
  have hx : u1 17 = .bool true := HC21.out
  go_wp2_with fail
  rw [hx]
  clear hx
  go_upto_region 2 with fail
  refine wp_region_turn (fun u => #[.slice (some ⟨b, o, none⟩) 32 cap, undef, u0 0, u 2, u1 0, u1 1, u1 2, u1 3, u1 4, u1 5, u1 6, u1 7, u1 8, u1 9, u1 10, u1 11, u1 12, u1 13, u1 14, u1 15, u1 16, .bool true, u 0, undef, undef]) (Holds [.val rR [0], .sto q2 rR [0], .oth (fun v => v = .int .i64 2)] W1) (Keep [.val rR [0], .sto q2 rR [0], .oth (fun v => v = .int .i64 2)] W1) (fun k => ((undef :: undef :: u0 1 :: []) : List Value).getD k undef) ?_ (by rfl) Keep.start (holds_soft (by kernel_rfl)) ?_ ?_
  · intro u i v h
    rcases i with _ | _ | _ | i
    all_goals first | (simp [Act.put, putV]; done) | (exfalso; simp at h; omega)
  · intro hs
    refine ⟨?_, ?_, ?_, trivial⟩
    · exact step_pure hs (wants_none rfl) rfl fun L u W hG hdep => run_build0 rfl (buildFe0 W)
    · refine step_storeO q2 16 hs (wants_none rfl) rfl rfl (by kernel_rfl) (fun k hk => ?_) (fun _ => E2.out) (there_lt ht2 (by omega)) ht2 (gives_op 0 rfl (by kernel_rfl) (fun _ => rfl)) tyFe rfl
      rcases k with _ | _ | _ | k
      all_goals first | (exact absurd rfl hk) | (intro e; cases e; done)
    · exact step_pureO hs (wants_none rfl) rfl fun L u W hG hdep => ⟨_, run_assign rfl, rfl⟩
  intro L2 u2 W2 hall hJ hG
  have hb : Below w.heap.size W1 W2 := hJ.below (by have := hbel.size; omega) (fun k b hf => by rcases k with _ | _ | _ | k <;> first | (cases hf; done) | (cases hf; omega))
  have hbel := hbel.trans hb
  obtain ⟨_, hs2_1t, hs2_1⟩ := (show _ ∧ W2.there q2 0 16 ∧ HasFs rR W2 q2 0 [0] from hG 1 (by simp))
  have HC3 := Lib.hid (show u2 2 = .int .i64 2 from hG 2 (by simp))
  have hbel0 := hbel
  clear hJ hG hall hb
  go_wp2
  exact ret_cell_slot (R := rR) Try.results49 (by exact E2.out) (by exact HC3.out) hs2_1 tyFe rfl (fun s hs => ⟨s, rfl, hs, hbel⟩)
theorem kStrict' {a : Option Addr} {n cap : Nat} {l : List UInt8} {x : F} {c : Int} {w : World} (hx : stV l = x) (hc : stC l = c) (h : RdB w a n cap l) :
    Calls Try.prog 49 #[.slice a n cap] w fun e w' => ∃ r, e = .returned (.tuple #[r, .int .i64 c]) ∧ IsFs rR r [x] ∧ Below w.heap.size w w' := by
  subst hx hc
  have hlen := h.hlen
  by_cases hn : n = 32
  · by_cases h2 : 127 < (l[31]'(by omega)).toNat
    · have e := feOk_high (by omega) h2
      rw [stV, stC, e]
      exact rstrict_high w h hn h2
    · cases e : feOk l
      · rw [stV, stC, e]
        exact rstrict_no w h hn h2 e
      · rw [stV, stC, e]
        exact rstrict_yes w h hn h2 e
  · have e := feOk_len (l := l) (by omega)
    rw [stV, stC, e]
    exact rstrict_len w h hn
end Go.Proofs.Ytjchdhpijopikaa
namespace Go.Proofs.Ytjchdhpijopikaa
open Go Go.RowKit
theorem root_odd {x r : F} (hc : cand x = r) (h : r * r = x) (hp : r.val % 2 = 1) : rootV x = -r := by unfold rootV; rw [hc, if_pos h, if_pos hp]
theorem root_even {x r : F} (hc : cand x = r) (h : r * r = x) (hp : ¬ r.val % 2 = 1) : rootV x = r := by unfold rootV; rw [hc, if_pos h, if_neg hp]
theorem root_c0 {x r : F} (hc : cand x = r) (h : r * r = x) : rootC x = 0 := by unfold rootC; rw [hc, if_pos h]
theorem root_no {x r : F} (hc : cand x = r) (h : ¬ r * r = x) : rootV x = 0 ∧ rootC x = 7 := by unfold rootV rootC; rw [hc, if_neg h, if_neg h]; exact ⟨rfl, rfl⟩
set_option maxRecDepth 100000 in
set_option maxHeartbeats 4000000 in
theorem rroot_core (x r t : F) (hr : fpow x exp8 = r) (ht : fpow (fn 2) (beF (pwF 31 251) 32) = t) (hcd : cand x = if r * r = x then r else r * t) {v0 : Value} (h0 : IsFs rR v0 [x]) (w : World) :
    Calls Try.prog 56 #[v0] w fun e w' => ∃ s, e = .returned (.tuple #[s, .int .i64 (rootC x)]) ∧ IsFs rR s [rootV x] ∧ Below w.heap.size w w' := by
  have HR := Lib.hid hr
  have HT := Lib.hid ht
  have HCD := Lib.hid hcd
  clear hr ht hcd
  go_enter Try.func56, Try.ntmps56
  have hbel : Below w.heap.size w w := Below.refl _ _
  have hbel0 := hbel
  go_upto_region 0 with fail
  refine wp_region_turn (fun u => #[v0, u 0, u 1, u 2, undef, undef, undef, undef, undef, undef, undef, undef, undef, undef, undef, undef, undef, undef, undef, undef, undef, undef, undef, undef, undef, undef, undef, undef, undef, undef, undef]) (Holds [.box rR [x], .new 16, .oth (fun v => v = .int .i64 0)] w) (Keep [.box rR [x], .new 16, .oth (fun v => v = .int .i64 0)] w) (fun _ => undef) ?_ (by rfl) Keep.start (holds_soft (by kernel_rfl)) ?_ ?_
  · intro u i v h
    rcases i with _ | _ | _ | i
    all_goals first | (simp [Act.put, putV]; done) | (exfalso; simp at h; omega)
  · intro hs
    refine ⟨?_, ?_, ?_, trivial⟩
    · exact step_box hs (wants_none rfl) rfl rfl (gives_c h0 (fun _ => rfl))
    · exact step_alloc hs (wants_none rfl) rfl rfl (by omega) rfl allocFe
    · exact step_pureO hs (wants_none rfl) rfl fun L u W hG hdep => ⟨_, run_assign rfl, rfl⟩
  intro L0 u0 W0 hall hJ hG
  obtain ⟨q1, e1, ⟨hq1, _⟩, ht1, hm1⟩ := (show ∃ g, u0 0 = .pointer (some ⟨g, 0, none⟩) ∧ (w.heap.size ≤ g ∧ g < W0.heap.size) ∧ W0.there g 0 16 ∧ HasFs rR W0 g 0 [x] from hG 0 (by simp))
  have hq1 : w.heap.size ≤ q1 := by have := hbel0.size; omega
  have E1 := Lib.hid e1; clear e1
  obtain ⟨q2, e2, hq2, _, ht2⟩ := (show ∃ g, u0 1 = .pointer (some ⟨g, 0, none⟩) ∧ w.heap.size ≤ g ∧ 0 < 16 ∧ W0.there g 0 16 from hG 1 (by simp))
  have hq2 : w.heap.size ≤ q2 := by have := hbel0.size; omega
  have E2 := Lib.hid e2; clear e2
  have hb := hJ.all rfl
  have hbel := Below.call hbel hb
  have HN1_2 := Lib.hid (show q1 ≠ q2 from fun e => hJ.apart 0 1 _ (by omega) (hall _ (by simp)) (hall _ (by simp)) rfl rfl (E1.out.trans (by rw [e])) E2.out)
  have hbel0 := hbel
  clear hJ hG hall hb
  go_upto_region 1 with fail
  refine wp_region_mid (fun u => #[v0, u0 0, u0 1, u0 2, u 3, u 0, u 1, u 2, undef, undef, undef, undef, undef, undef, undef, undef, undef, undef, undef, undef, undef, undef, undef, undef, undef, undef, undef, undef, undef, undef, undef]) (Holds [.val rR [x], .tmp 32 (row 32 (uV (pwF 15 254))) 2, .val rR [r], .new 16, .st 3 rR [r]] W0) (Keep [.val rR [x], .tmp 32 (row 32 (uV (pwF 15 254))) 2, .val rR [r], .new 16, .st 3 rR [r]] W0) (fun _ => undef) (by kernel_rfl) (by kernel_rfl) ?_ (by rfl) Keep.drew (holds_soft (by kernel_rfl)) ?_ ?_
  · intro u i v h
    rcases i with _ | _ | _ | _ | _ | i
    all_goals first | (simp [Act.put, putV]; done) | (exfalso; simp at h; omega)
  · intro hs
    refine ⟨?_, ?_, ?_, ?_, ?_, trivial⟩
    · exact step_load q1 0 hs (wants_none rfl) rfl rfl tyFe (fun _ => E1.out) hm1.lt hm1 (noSto_apart (by kernel_rfl))
    · refine step_callT hs (wants_none rfl) rfl fun L u W hJ hG hL hdep K hK => ?_
      go_simp
      go_at_call 92
      (with_reducible refine (rpow15 _).mono ?_); rintro e w1 ⟨rfl, h1, hb⟩
      have hk := hK.out _ _ h1 hb
      exact hk
    · refine step_call hs (wants_none rfl) rfl fun L u W hJ hG hL hdep K hK => ?_
      have a0 := (show IsFs rR (u 0) [x] from hG 0 (hdep 0 (by kernel_rfl)))
      obtain ⟨gT, x0, hT⟩ := (show ∃ g, u 1 = .slice (some ⟨g, 0, none⟩) 32 32 ∧ (L 2 = false → Blk W g (row 32 (uV (pwF 15 254))) 5) from hG 1 (hdep 1 (by kernel_rfl)))
      have hT := hT hL
      go_simp
      go_at_call 91
      (with_reducible refine (kPow 15 254 exp8 (by omega) (by omega) be_8 HR.out a0 hT).mono ?_); rintro e w1 ⟨r, rfl, hr, hb⟩
      have hk := hK.out _ _ hr hb
      simp only [x0] at hk
      exact hk
    · exact step_alloc hs (wants_none rfl) rfl rfl (by omega) rfl allocFe
    · exact step_store 3 hs (by kernel_rfl) (wants_none rfl) rfl rfl rfl (by kernel_rfl) (by kernel_rfl) (by kernel_rfl) (by kernel_rfl) (fun _ => rfl) (gives_op 2 rfl (by kernel_rfl) (fun _ => rfl)) tyFe rfl
  intro L1 u1 W1 hall hJ hG
  obtain ⟨q4, e4, hq4, _, ht4⟩ := (show ∃ g, u1 3 = .pointer (some ⟨g, 0, none⟩) ∧ W0.heap.size ≤ g ∧ 0 < 16 ∧ W1.there g 0 16 from hG 3 (by simp))
  have hm4 : HasFs rR W1 q4 0 [r] := by
    obtain ⟨g, e, _, h⟩ := (show ∃ g, u1 3 = .pointer (some ⟨g, 0, none⟩) ∧ W0.heap.size ≤ g ∧ HasFs rR W1 g 0 [r] from hG 4 (by simp))
    rw [e4] at e; cases e; exact h
  have HD4_q1 := Lib.hid (show q1 ≠ q4 by have := there_lt ht1 (by omega); omega)
  have HD4_q2 := Lib.hid (show q2 ≠ q4 by have := there_lt ht2 (by omega); omega)
  have hq4 : w.heap.size ≤ q4 := by have := hbel0.size; omega
  have E4 := Lib.hid e4; clear e4
  have hb := hJ.all rfl
  have hbel := Below.call hbel hb
  have hm1 := hm1.later hb
  have ht1 := there_later ht1 hb
  have ht2 := there_later ht2 hb
  have hbel0 := hbel
  clear hJ hG hall hb
  go_upto_region 2 with fail
  refine wp_region_mid (fun u => #[v0, u0 0, u0 1, u0 2, u1 3, u1 0, u1 1, u1 2, u 0, u 1, u 2, u 3, u 4, undef, undef, undef, undef, undef, undef, undef, undef, undef, undef, undef, undef, undef, undef, undef, undef, undef, undef]) (Holds [.val rR [r], .val rR [r], .val rR [r * r], .val rR [x], .oth (fun v => v = .bool (!decide (r * r = x)))] W1) (Keep [.val rR [r], .val rR [r], .val rR [r * r], .val rR [x], .oth (fun v => v = .bool (!decide (r * r = x)))] W1) (fun _ => undef) (by kernel_rfl) (by kernel_rfl) ?_ (by rfl) Keep.drew (holds_soft (by kernel_rfl)) ?_ ?_
  · intro u i v h
    rcases i with _ | _ | _ | _ | _ | i
    all_goals first | (simp [Act.put, putV]; done) | (exfalso; simp at h; omega)
  · intro hs
    refine ⟨?_, ?_, ?_, ?_, ?_, trivial⟩
    · exact step_load q4 0 hs (wants_none rfl) rfl rfl tyFe (fun _ => E4.out) hm4.lt hm4 (noSto_apart (by kernel_rfl))
    · exact step_load q4 0 hs (wants_none rfl) rfl rfl tyFe (fun _ => E4.out) hm4.lt hm4 (noSto_apart (by kernel_rfl))
    · refine step_call hs (wants_none rfl) rfl fun L u W hJ hG hL hdep K hK => ?_
      have a0 := (show IsFs rR (u 0) [r] from hG 0 (hdep 0 (by kernel_rfl)))
      have a1 := (show IsFs rR (u 1) [r] from hG 1 (hdep 1 (by kernel_rfl)))
      go_simp
      go_at_call 50
      (with_reducible refine (kMul a0 a1 _).mono ?_); rintro e w1 ⟨r, rfl, hr, hb⟩
      have hk := hK.out _ _ hr hb
      exact hk
    · exact step_load q1 0 hs (wants_none rfl) rfl rfl tyFe (fun _ => E1.out) hm1.lt hm1 (noSto_apart (by kernel_rfl))
    · exact step_pureO hs (wants_none rfl) rfl fun L u W hG hdep => ⟨_, run_neqR rfl (show IsFs rR (u 2) [r * r] from hG 2 (hdep 2 (by kernel_rfl))) (show IsFs rR (u 3) [x] from hG 3 (hdep 3 (by kernel_rfl))), rfl⟩
  intro L2 u2 W2 hall hJ hG
  have hb := hJ.all rfl
  have hbel := Below.call hbel hb
  have hm1 := hm1.later hb
  have hm4 := hm4.later hb
  have ht1 := there_later ht1 hb
  have ht2 := there_later ht2 hb
  have ht4 := there_later ht4 hb
  have HC12 := Lib.hid (show u2 4 = .bool (!decide (r * r = x)) from hG 4 (by simp))
  have hbel0 := hbel
  clear hJ hG hall hb
  by_cases hq : r * r = x
  · have HQ := Lib.hid hq
    have HC : Hid (cand x = r) := Lib.hid (by rw [HCD.out, if_pos hq])
    clear hq
    have hx : u2 4 = .bool false := by rw [HC12.out, decide_eq_true HQ.out]; rfl
    go_wp2_with fail
    rw [hx]
    clear hx
    go_upto_region 4 with fail
    refine wp_region_mid (fun u => #[v0, u0 0, u0 1, u0 2, u1 3, u1 0, u1 1, u1 2, u2 0, u2 1, u2 2, u2 3, .bool false, undef, undef, undef, undef, undef, u 0, u 1, u 2, u 3, u 4, undef, undef, undef, undef, undef, undef, undef, undef]) (Holds [.val rR [r], .val rR [r], .val rR [r * r], .val rR [x], .oth (fun v => v = .bool (!decide (r * r = x)))] W2) (Keep [.val rR [r], .val rR [r], .val rR [r * r], .val rR [x], .oth (fun v => v = .bool (!decide (r * r = x)))] W2) (fun _ => undef) (by kernel_rfl) (by kernel_rfl) ?_ (by rfl) Keep.drew (holds_soft (by kernel_rfl)) ?_ ?_
    · intro u i v h
      rcases i with _ | _ | _ | _ | _ | i
      all_goals first | (simp [Act.put, putV]; done) | (exfalso; simp at h; omega)
    · intro hs
      refine ⟨?_, ?_, ?_, ?_, ?_, trivial⟩
      · exact step_load q4 0 hs (wants_none rfl) rfl rfl tyFe (fun _ => E4.out) hm4.lt hm4 (noSto_apart (by kernel_rfl))
      · exact step_load q4 0 hs (wants_none rfl) rfl rfl tyFe (fun _ => E4.out) hm4.lt hm4 (noSto_apart (by kernel_rfl))
      · refine step_call hs (wants_none rfl) rfl fun L u W hJ hG hL hdep K hK => ?_
        have a0 := (show IsFs rR (u 0) [r] from hG 0 (hdep 0 (by kernel_rfl)))
        have a1 := (show IsFs rR (u 1) [r] from hG 1 (hdep 1 (by kernel_rfl)))
        go_simp
        go_at_call 50
        (with_reducible refine (kMul a0 a1 _).mono ?_); rintro e w1 ⟨r, rfl, hr, hb⟩
        have hk := hK.out _ _ hr hb
        exact hk
      · exact step_load q1 0 hs (wants_none rfl) rfl rfl tyFe (fun _ => E1.out) hm1.lt hm1 (noSto_apart (by kernel_rfl))
      · exact step_pureO hs (wants_none rfl) rfl fun L u W hG hdep => ⟨_, run_neqR rfl (show IsFs rR (u 2) [r * r] from hG 2 (hdep 2 (by kernel_rfl))) (show IsFs rR (u 3) [x] from hG 3 (hdep 3 (by kernel_rfl))), rfl⟩
    intro L4 u4 W4 hall hJ hG
    have hb := hJ.all rfl
    have hbel := Below.call hbel hb
    have hm1 := hm1.later hb
    have hm4 := hm4.later hb
    have ht1 := there_later ht1 hb
    have ht2 := there_later ht2 hb
    have ht4 := there_later ht4 hb
    have HC22 := Lib.hid (show u4 4 = .bool (!decide (r * r = x)) from hG 4 (by simp))
    have hbel0 := hbel
    clear hJ hG hall hb
    have hx : u4 4 = .bool false := by rw [HC22.out, decide_eq_true HQ.out]; rfl
    go_wp2_with fail
    rw [hx]
    clear hx
    have e4 := E4.out
    have hc0 := hm4.cell0
    by_cases hp : (r).val % 2 = 1
    · have ho : (bits BinOp.and IntKind.u64 ((d16 (r).val 0 : Nat) : Int) 1 == 1) = true := by rw [odd16, hp]; rfl
      have HP := Lib.hid hp
      clear hp
      generalize hdd : d16 (r).val 0 = dd at *
      clear hdd
      go_upto_region 7 with fail
      clear e4 hc0 ho
      refine wp_region_turn (fun u => #[v0, u0 0, u0 1, u0 2, u1 3, u1 0, u1 1, u1 2, u2 0, u2 1, u2 2, u2 3, .bool false, undef, undef, undef, undef, undef, u4 0, u4 1, u4 2, u4 3, .bool false, undef, .pointer (some ⟨q4, 0, none⟩), .int .u64 (dd : Nat), .int .u64 (bits BinOp.and IntKind.u64 ((dd : Nat) : Int) 1), .bool true, u 0, u 1, undef]) (Holds [.val rR [r], .val rR [-r], .sto q4 rR [-r]] W4) (Keep [.val rR [r], .val rR [-r], .sto q4 rR [-r]] W4) (fun _ => undef) ?_ (by rfl) Keep.start (holds_soft (by kernel_rfl)) ?_ ?_
      · intro u i v h
        rcases i with _ | _ | _ | i
        all_goals first | (simp [Act.put, putV]; done) | (exfalso; simp at h; omega)
      · intro hs
        refine ⟨?_, ?_, ?_, trivial⟩
        · exact step_load q4 0 hs (wants_none rfl) rfl rfl tyFe (fun _ => E4.out) hm4.lt hm4 (fun k g hk => by rcases k with _ | _ | _ | k <;> first | (cases hk; done) | (cases hk; exact .inl (by kernel_rfl)))
        · refine step_call hs (wants_none rfl) rfl fun L u W hJ hG hL hdep K hK => ?_
          have a0 := (show IsFs rR (u 0) [r] from hG 0 (hdep 0 (by kernel_rfl)))
          go_simp
          go_at_call 57
          (with_reducible refine (kNeg a0 _).mono ?_); rintro e w1 ⟨r, rfl, hr, hb⟩
          have hk := hK.out _ _ hr hb
          exact hk
        · refine step_storeO q4 16 hs (wants_none rfl) rfl rfl (by kernel_rfl) (fun k hk => ?_) (fun _ => E4.out) (there_lt ht4 (by omega)) ht4 (gives_op 1 rfl (by kernel_rfl) (fun _ => rfl)) tyFe rfl
          rcases k with _ | _ | _ | k
          all_goals first | (exact absurd rfl hk) | (intro e; cases e; done)
      intro L7 u7 W7 hall hJ hG
      have hb : Below w.heap.size W4 W7 := hJ.below (by have := hbel.size; omega) (fun k b hf => by rcases k with _ | _ | _ | k <;> first | (cases hf; done) | (cases hf; omega))
      have hbel := hbel.trans hb
      have hm1 := hm1.blk (hJ.block _ (hm1.lt) (fun k hk => by rcases k with _ | _ | _ | k <;> first | (cases hk; done) | (cases hk; exact absurd rfl (Ne.symm HD4_q1.out))))
      have ht1 := there_blk ht1 (hJ.block _ (there_lt ht1 (by omega)) (fun k hk => by rcases k with _ | _ | _ | k <;> first | (cases hk; done) | (cases hk; exact absurd rfl (Ne.symm HD4_q1.out))))
      have ht2 := there_blk ht2 (hJ.block _ (there_lt ht2 (by omega)) (fun k hk => by rcases k with _ | _ | _ | k <;> first | (cases hk; done) | (cases hk; exact absurd rfl (Ne.symm HD4_q2.out))))
      obtain ⟨_, hs7_2t, hs7_2⟩ := (show _ ∧ W7.there q4 0 16 ∧ HasFs rR W7 q4 0 [-r] from hG 2 (by simp))
      have hbel0 := hbel
      clear hJ hG hall hb
      go_upto_region 8 with fail
      refine wp_region_turn (fun u => #[v0, u0 0, u0 1, u 2, u1 3, u1 0, u1 1, u1 2, u2 0, u2 1, u2 2, u2 3, .bool false, undef, undef, undef, undef, undef, u4 0, u4 1, u4 2, u4 3, .bool false, undef, .pointer (some ⟨q4, 0, none⟩), .int .u64 (dd : Nat), .int .u64 (bits BinOp.and IntKind.u64 ((dd : Nat) : Int) 1), .bool true, u7 0, u7 1, u 0]) (Holds [.val rR [-r], .sto q2 rR [-r], .oth (fun v => v = .int .i64 0)] W7) (Keep [.val rR [-r], .sto q2 rR [-r], .oth (fun v => v = .int .i64 0)] W7) (fun k => ((undef :: undef :: u0 2 :: []) : List Value).getD k undef) ?_ (by rfl) Keep.start (holds_soft (by kernel_rfl)) ?_ ?_
      · intro u i v h
        rcases i with _ | _ | _ | i
        all_goals first | (simp [Act.put, putV]; done) | (exfalso; simp at h; omega)
      · intro hs
        refine ⟨?_, ?_, ?_, trivial⟩
        · exact step_load q4 0 hs (wants_none rfl) rfl rfl tyFe (fun _ => E4.out) hs7_2.lt hs7_2 (fun k g hk => by rcases k with _ | _ | _ | k <;> first | (cases hk; done) | (cases hk; exact .inr HD4_q2.out))
        · refine step_storeO q2 16 hs (wants_none rfl) rfl rfl (by kernel_rfl) (fun k hk => ?_) (fun _ => E2.out) (there_lt ht2 (by omega)) ht2 (gives_op 0 rfl (by kernel_rfl) (fun _ => rfl)) tyFe rfl
          rcases k with _ | _ | _ | k
          all_goals first | (exact absurd rfl hk) | (intro e; cases e; done)
        · exact step_pureO hs (wants_none rfl) rfl fun L u W hG hdep => ⟨_, run_assign rfl, rfl⟩
      intro L8 u8 W8 hall hJ hG
      have hb : Below w.heap.size W7 W8 := hJ.below (by have := hbel.size; omega) (fun k b hf => by rcases k with _ | _ | _ | k <;> first | (cases hf; done) | (cases hf; omega))
      have hbel := hbel.trans hb
      have hm1 := hm1.blk (hJ.block _ (hm1.lt) (fun k hk => by rcases k with _ | _ | _ | k <;> first | (cases hk; done) | (cases hk; exact absurd rfl (Ne.symm HN1_2.out))))
      have hs7_2 := hs7_2.blk (hJ.block _ (hs7_2.lt) (fun k hk => by rcases k with _ | _ | _ | k <;> first | (cases hk; done) | (cases hk; exact absurd rfl HD4_q2.out)))
      have ht1 := there_blk ht1 (hJ.block _ (there_lt ht1 (by omega)) (fun k hk => by rcases k with _ | _ | _ | k <;> first | (cases hk; done) | (cases hk; exact absurd rfl (Ne.symm HN1_2.out))))
      have hs7_2t := there_blk hs7_2t (hJ.block _ (there_lt hs7_2t (by omega)) (fun k hk => by rcases k with _ | _ | _ | k <;> first | (cases hk; done) | (cases hk; exact absurd rfl HD4_q2.out)))
      obtain ⟨_, hs8_1t, hs8_1⟩ := (show _ ∧ W8.there q2 0 16 ∧ HasFs rR W8 q2 0 [-r] from hG 1 (by simp))
      have HC3 := Lib.hid (show u8 2 = .int .i64 0 from hG 2 (by simp))
      have hbel0 := hbel
      clear hJ hG hall hb
      go_wp2
      exact ret_cell_slot (R := rR) Try.results56 (by exact E2.out) (by exact HC3.out) hs8_1 tyFe rfl (fun s hs => ⟨s, by rw [root_c0 HC.out HQ.out], by rw [root_odd HC.out HQ.out HP.out]; exact hs, hbel⟩)
    · have ho : (bits BinOp.and IntKind.u64 ((d16 (r).val 0 : Nat) : Int) 1 == 1) = false := by rw [odd16, show (r).val % 2 = 0 by omega]; rfl
      have HP := Lib.hid hp
      clear hp
      generalize hdd : d16 (r).val 0 = dd at *
      clear hdd
      go_upto_region 8 with fail
      clear e4 hc0 ho
      refine wp_region_turn (fun u => #[v0, u0 0, u0 1, u 2, u1 3, u1 0, u1 1, u1 2, u2 0, u2 1, u2 2, u2 3, .bool false, undef, undef, undef, undef, undef, u4 0, u4 1, u4 2, u4 3, .bool false, undef, .pointer (some ⟨q4, 0, none⟩), .int .u64 (dd : Nat), .int .u64 (bits BinOp.and IntKind.u64 ((dd : Nat) : Int) 1), .bool false, undef, undef, u 0]) (Holds [.val rR [r], .sto q2 rR [r], .oth (fun v => v = .int .i64 0)] W4) (Keep [.val rR [r], .sto q2 rR [r], .oth (fun v => v = .int .i64 0)] W4) (fun k => ((undef :: undef :: u0 2 :: []) : List Value).getD k undef) ?_ (by rfl) Keep.start (holds_soft (by kernel_rfl)) ?_ ?_
      · intro u i v h
        rcases i with _ | _ | _ | i
        all_goals first | (simp [Act.put, putV]; done) | (exfalso; simp at h; omega)
      · intro hs
        refine ⟨?_, ?_, ?_, trivial⟩
        · exact step_load q4 0 hs (wants_none rfl) rfl rfl tyFe (fun _ => E4.out) hm4.lt hm4 (fun k g hk => by rcases k with _ | _ | _ | k <;> first | (cases hk; done) | (cases hk; exact .inr HD4_q2.out))
        · refine step_storeO q2 16 hs (wants_none rfl) rfl rfl (by kernel_rfl) (fun k hk => ?_) (fun _ => E2.out) (there_lt ht2 (by omega)) ht2 (gives_op 0 rfl (by kernel_rfl) (fun _ => rfl)) tyFe rfl
          rcases k with _ | _ | _ | k
          all_goals first | (exact absurd rfl hk) | (intro e; cases e; done)
        · exact step_pureO hs (wants_none rfl) rfl fun L u W hG hdep => ⟨_, run_assign rfl, rfl⟩
      intro L8 u8 W8 hall hJ hG
      have hb : Below w.heap.size W4 W8 := hJ.below (by have := hbel.size; omega) (fun k b hf => by rcases k with _ | _ | _ | k <;> first | (cases hf; done) | (cases hf; omega))
      have hbel := hbel.trans hb
      have hm1 := hm1.blk (hJ.block _ (hm1.lt) (fun k hk => by rcases k with _ | _ | _ | k <;> first | (cases hk; done) | (cases hk; exact absurd rfl (Ne.symm HN1_2.out))))
      have hm4 := hm4.blk (hJ.block _ (hm4.lt) (fun k hk => by rcases k with _ | _ | _ | k <;> first | (cases hk; done) | (cases hk; exact absurd rfl HD4_q2.out)))
      have ht1 := there_blk ht1 (hJ.block _ (there_lt ht1 (by omega)) (fun k hk => by rcases k with _ | _ | _ | k <;> first | (cases hk; done) | (cases hk; exact absurd rfl (Ne.symm HN1_2.out))))
      have ht4 := there_blk ht4 (hJ.block _ (there_lt ht4 (by omega)) (fun k hk => by rcases k with _ | _ | _ | k <;> first | (cases hk; done) | (cases hk; exact absurd rfl HD4_q2.out)))
      obtain ⟨_, hs8_1t, hs8_1⟩ := (show _ ∧ W8.there q2 0 16 ∧ HasFs rR W8 q2 0 [r] from hG 1 (by simp))
      have HC3 := Lib.hid (show u8 2 = .int .i64 0 from hG 2 (by simp))
      have hbel0 := hbel
      clear hJ hG hall hb
      go_wp2
      exact ret_cell_slot (R := rR) Try.results56 (by exact E2.out) (by exact HC3.out) hs8_1 tyFe rfl (fun s hs => ⟨s, by rw [root_c0 HC.out HQ.out], by rw [root_even HC.out HQ.out HP.out]; exact hs, hbel⟩)
  · have HQ := Lib.hid hq
    have HC : Hid (cand x = r * t) := Lib.hid (by rw [HCD.out, if_neg hq])
    clear hq
    have hx : u2 4 = .bool true := by rw [HC12.out, decide_eq_false HQ.out]; rfl
    go_wp2_with fail
    rw [hx]
    clear hx
    go_upto_region 3 with fail
    refine wp_region_mid (fun u => #[v0, u0 0, u0 1, u0 2, u1 3, u1 0, u1 1, u1 2, u2 0, u2 1, u2 2, u2 3, .bool true, u 0, u 1, u 2, u 3, u 4, undef, undef, undef, undef, undef, undef, undef, undef, undef, undef, undef, undef, undef]) (Holds [.val rR [r], .val rR [fn 2], .tmp 32 (row 32 (uV (pwF 31 251))) 3, .val rR [t], .val rR [r * t], .sto q4 rR [r * t]] W2) (Keep [.val rR [r], .val rR [fn 2], .tmp 32 (row 32 (uV (pwF 31 251))) 3, .val rR [t], .val rR [r * t], .sto q4 rR [r * t]] W2) (fun _ => undef) (by kernel_rfl) (by kernel_rfl) ?_ (by rfl) Keep.drew (holds_soft (by kernel_rfl)) ?_ ?_
    · intro u i v h
      rcases i with _ | _ | _ | _ | _ | _ | i
      all_goals first | (simp [Act.put, putV]; done) | (exfalso; simp at h; omega)
    · intro hs
      refine ⟨?_, ?_, ?_, ?_, ?_, ?_, trivial⟩
      · exact step_load q4 0 hs (wants_none rfl) rfl rfl tyFe (fun _ => E4.out) hm4.lt hm4 (fun k g hk => by rcases k with _ | _ | _ | _ | _ | _ | k <;> first | (cases hk; done) | (cases hk; exact .inl (by kernel_rfl)))
      · refine step_call hs (wants_none rfl) rfl fun L u W hJ hG hL hdep K hK => ?_
        go_simp
        go_at_call 52
        (with_reducible refine (kSmallI (n := 2) (z := 2) rfl (by omega) _).mono ?_); rintro e w1 ⟨r, rfl, hr, hb⟩
        have hk := hK.out _ _ hr hb
        exact hk
      · refine step_callT hs (wants_none rfl) rfl fun L u W hJ hG hL hdep K hK => ?_
        go_simp
        go_at_call 92
        (with_reducible refine (rpow31 _).mono ?_); rintro e w1 ⟨rfl, h1, hb⟩
        have hk := hK.out _ _ h1 hb
        exact hk
      · refine step_call hs (wants_none rfl) rfl fun L u W hJ hG hL hdep K hK => ?_
        have a0 := (show IsFs rR (u 1) [fn 2] from hG 1 (hdep 1 (by kernel_rfl)))
        obtain ⟨gT, x0, hT⟩ := (show ∃ g, u 2 = .slice (some ⟨g, 0, none⟩) 32 32 ∧ (L 3 = false → Blk W g (row 32 (uV (pwF 31 251))) 5) from hG 2 (hdep 2 (by kernel_rfl)))
        have hT := hT hL
        go_simp
        go_at_call 91
        (with_reducible refine (kPow 31 251 _ (by omega) (by omega) rfl HT.out a0 hT).mono ?_); rintro e w1 ⟨r, rfl, hr, hb⟩
        have hk := hK.out _ _ hr hb
        simp only [x0] at hk
        exact hk
      · refine step_call hs (wants_none rfl) rfl fun L u W hJ hG hL hdep K hK => ?_
        have a0 := (show IsFs rR (u 0) [r] from hG 0 (hdep 0 (by kernel_rfl)))
        have a1 := (show IsFs rR (u 3) [t] from hG 3 (hdep 3 (by kernel_rfl)))
        go_simp
        go_at_call 50
        (with_reducible refine (kMul a0 a1 _).mono ?_); rintro e w1 ⟨r, rfl, hr, hb⟩
        have hk := hK.out _ _ hr hb
        exact hk
      · refine step_storeO q4 16 hs (wants_none rfl) rfl rfl (by kernel_rfl) (fun k hk => ?_) (fun _ => E4.out) (there_lt ht4 (by omega)) ht4 (gives_op 4 rfl (by kernel_rfl) (fun _ => rfl)) tyFe rfl
        rcases k with _ | _ | _ | _ | _ | _ | k
        all_goals first | (exact absurd rfl hk) | (intro e; cases e; done)
    intro L3 u3 W3 hall hJ hG
    have hb : Below w.heap.size W2 W3 := hJ.below (by have := hbel.size; omega) (fun k b hf => by rcases k with _ | _ | _ | _ | _ | _ | k <;> first | (cases hf; done) | (cases hf; omega))
    have hbel := hbel.trans hb
    have hm1 := hm1.blk (hJ.block _ (hm1.lt) (fun k hk => by rcases k with _ | _ | _ | _ | _ | _ | k <;> first | (cases hk; done) | (cases hk; exact absurd rfl (Ne.symm HD4_q1.out))))
    have ht1 := there_blk ht1 (hJ.block _ (there_lt ht1 (by omega)) (fun k hk => by rcases k with _ | _ | _ | _ | _ | _ | k <;> first | (cases hk; done) | (cases hk; exact absurd rfl (Ne.symm HD4_q1.out))))
    have ht2 := there_blk ht2 (hJ.block _ (there_lt ht2 (by omega)) (fun k hk => by rcases k with _ | _ | _ | _ | _ | _ | k <;> first | (cases hk; done) | (cases hk; exact absurd rfl (Ne.symm HD4_q2.out))))
    obtain ⟨_, hs3_5t, hs3_5⟩ := (show _ ∧ W3.there q4 0 16 ∧ HasFs rR W3 q4 0 [r * t] from hG 5 (by simp))
    have hbel0 := hbel
    clear hJ hG hall hb
    go_upto_region 4 with fail
    refine wp_region_mid (fun u => #[v0, u0 0, u0 1, u0 2, u1 3, u1 0, u1 1, u1 2, u2 0, u2 1, u2 2, u2 3, .bool true, u3 0, u3 1, u3 2, u3 3, u3 4, u 0, u 1, u 2, u 3, u 4, undef, undef, undef, undef, undef, undef, undef, undef]) (Holds [.val rR [r * t], .val rR [r * t], .val rR [(r * t) * (r * t)], .val rR [x], .oth (fun v => v = .bool (!decide ((r * t) * (r * t) = x)))] W3) (Keep [.val rR [r * t], .val rR [r * t], .val rR [(r * t) * (r * t)], .val rR [x], .oth (fun v => v = .bool (!decide ((r * t) * (r * t) = x)))] W3) (fun _ => undef) (by kernel_rfl) (by kernel_rfl) ?_ (by rfl) Keep.drew (holds_soft (by kernel_rfl)) ?_ ?_
    · intro u i v h
      rcases i with _ | _ | _ | _ | _ | i
      all_goals first | (simp [Act.put, putV]; done) | (exfalso; simp at h; omega)
    · intro hs
      refine ⟨?_, ?_, ?_, ?_, ?_, trivial⟩
      · exact step_load q4 0 hs (wants_none rfl) rfl rfl tyFe (fun _ => E4.out) hs3_5.lt hs3_5 (noSto_apart (by kernel_rfl))
      · exact step_load q4 0 hs (wants_none rfl) rfl rfl tyFe (fun _ => E4.out) hs3_5.lt hs3_5 (noSto_apart (by kernel_rfl))
      · refine step_call hs (wants_none rfl) rfl fun L u W hJ hG hL hdep K hK => ?_
        have a0 := (show IsFs rR (u 0) [r * t] from hG 0 (hdep 0 (by kernel_rfl)))
        have a1 := (show IsFs rR (u 1) [r * t] from hG 1 (hdep 1 (by kernel_rfl)))
        go_simp
        go_at_call 50
        (with_reducible refine (kMul a0 a1 _).mono ?_); rintro e w1 ⟨r, rfl, hr, hb⟩
        have hk := hK.out _ _ hr hb
        exact hk
      · exact step_load q1 0 hs (wants_none rfl) rfl rfl tyFe (fun _ => E1.out) hm1.lt hm1 (noSto_apart (by kernel_rfl))
      · exact step_pureO hs (wants_none rfl) rfl fun L u W hG hdep => ⟨_, run_neqR rfl (show IsFs rR (u 2) [(r * t) * (r * t)] from hG 2 (hdep 2 (by kernel_rfl))) (show IsFs rR (u 3) [x] from hG 3 (hdep 3 (by kernel_rfl))), rfl⟩
    intro L4 u4 W4 hall hJ hG
    have hb := hJ.all rfl
    have hbel := Below.call hbel hb
    have hm1 := hm1.later hb
    have hs3_5 := hs3_5.later hb
    have ht1 := there_later ht1 hb
    have ht2 := there_later ht2 hb
    have hs3_5t := there_later hs3_5t hb
    have HC22 := Lib.hid (show u4 4 = .bool (!decide ((r * t) * (r * t) = x)) from hG 4 (by simp))
    have hbel0 := hbel
    clear hJ hG hall hb
    by_cases hq2 : r * t * (r * t) = x
    · have HQ2 := Lib.hid hq2
      clear hq2
      have hx : u4 4 = .bool false := by rw [HC22.out, decide_eq_true HQ2.out]; rfl
      go_wp2_with fail
      rw [hx]
      clear hx
      have e4 := E4.out
      have hc0 := hs3_5.cell0
      by_cases hp : (r * t).val % 2 = 1
      · have ho : (bits BinOp.and IntKind.u64 ((d16 (r * t).val 0 : Nat) : Int) 1 == 1) = true := by rw [odd16, hp]; rfl
        have HP := Lib.hid hp
        clear hp
        generalize hdd : d16 (r * t).val 0 = dd at *
        clear hdd
        go_upto_region 7 with fail
        clear e4 hc0 ho
        refine wp_region_turn (fun u => #[v0, u0 0, u0 1, u0 2, u1 3, u1 0, u1 1, u1 2, u2 0, u2 1, u2 2, u2 3, .bool true, u3 0, u3 1, u3 2, u3 3, u3 4, u4 0, u4 1, u4 2, u4 3, .bool false, undef, .pointer (some ⟨q4, 0, none⟩), .int .u64 (dd : Nat), .int .u64 (bits BinOp.and IntKind.u64 ((dd : Nat) : Int) 1), .bool true, u 0, u 1, undef]) (Holds [.val rR [r * t], .val rR [-(r * t)], .sto q4 rR [-(r * t)]] W4) (Keep [.val rR [r * t], .val rR [-(r * t)], .sto q4 rR [-(r * t)]] W4) (fun _ => undef) ?_ (by rfl) Keep.start (holds_soft (by kernel_rfl)) ?_ ?_
        · intro u i v h
          rcases i with _ | _ | _ | i
          all_goals first | (simp [Act.put, putV]; done) | (exfalso; simp at h; omega)
        · intro hs
          refine ⟨?_, ?_, ?_, trivial⟩
          · exact step_load q4 0 hs (wants_none rfl) rfl rfl tyFe (fun _ => E4.out) hs3_5.lt hs3_5 (fun k g hk => by rcases k with _ | _ | _ | k <;> first | (cases hk; done) | (cases hk; exact .inl (by kernel_rfl)))
          · refine step_call hs (wants_none rfl) rfl fun L u W hJ hG hL hdep K hK => ?_
            have a0 := (show IsFs rR (u 0) [r * t] from hG 0 (hdep 0 (by kernel_rfl)))
            go_simp
            go_at_call 57
            (with_reducible refine (kNeg a0 _).mono ?_); rintro e w1 ⟨r, rfl, hr, hb⟩
            have hk := hK.out _ _ hr hb
            exact hk
          · refine step_storeO q4 16 hs (wants_none rfl) rfl rfl (by kernel_rfl) (fun k hk => ?_) (fun _ => E4.out) (there_lt hs3_5t (by omega)) hs3_5t (gives_op 1 rfl (by kernel_rfl) (fun _ => rfl)) tyFe rfl
            rcases k with _ | _ | _ | k
            all_goals first | (exact absurd rfl hk) | (intro e; cases e; done)
        intro L7 u7 W7 hall hJ hG
        have hb : Below w.heap.size W4 W7 := hJ.below (by have := hbel.size; omega) (fun k b hf => by rcases k with _ | _ | _ | k <;> first | (cases hf; done) | (cases hf; omega))
        have hbel := hbel.trans hb
        have hm1 := hm1.blk (hJ.block _ (hm1.lt) (fun k hk => by rcases k with _ | _ | _ | k <;> first | (cases hk; done) | (cases hk; exact absurd rfl (Ne.symm HD4_q1.out))))
        have ht1 := there_blk ht1 (hJ.block _ (there_lt ht1 (by omega)) (fun k hk => by rcases k with _ | _ | _ | k <;> first | (cases hk; done) | (cases hk; exact absurd rfl (Ne.symm HD4_q1.out))))
        have ht2 := there_blk ht2 (hJ.block _ (there_lt ht2 (by omega)) (fun k hk => by rcases k with _ | _ | _ | k <;> first | (cases hk; done) | (cases hk; exact absurd rfl (Ne.symm HD4_q2.out))))
        obtain ⟨_, hs7_2t, hs7_2⟩ := (show _ ∧ W7.there q4 0 16 ∧ HasFs rR W7 q4 0 [-(r * t)] from hG 2 (by simp))
        have hbel0 := hbel
        clear hJ hG hall hb
        go_upto_region 8 with fail
        refine wp_region_turn (fun u => #[v0, u0 0, u0 1, u 2, u1 3, u1 0, u1 1, u1 2, u2 0, u2 1, u2 2, u2 3, .bool true, u3 0, u3 1, u3 2, u3 3, u3 4, u4 0, u4 1, u4 2, u4 3, .bool false, undef, .pointer (some ⟨q4, 0, none⟩), .int .u64 (dd : Nat), .int .u64 (bits BinOp.and IntKind.u64 ((dd : Nat) : Int) 1), .bool true, u7 0, u7 1, u 0]) (Holds [.val rR [-(r * t)], .sto q2 rR [-(r * t)], .oth (fun v => v = .int .i64 0)] W7) (Keep [.val rR [-(r * t)], .sto q2 rR [-(r * t)], .oth (fun v => v = .int .i64 0)] W7) (fun k => ((undef :: undef :: u0 2 :: []) : List Value).getD k undef) ?_ (by rfl) Keep.start (holds_soft (by kernel_rfl)) ?_ ?_
        · intro u i v h
          rcases i with _ | _ | _ | i
          all_goals first | (simp [Act.put, putV]; done) | (exfalso; simp at h; omega)
        · intro hs
          refine ⟨?_, ?_, ?_, trivial⟩
          · exact step_load q4 0 hs (wants_none rfl) rfl rfl tyFe (fun _ => E4.out) hs7_2.lt hs7_2 (fun k g hk => by rcases k with _ | _ | _ | k <;> first | (cases hk; done) | (cases hk; exact .inr HD4_q2.out))
          · refine step_storeO q2 16 hs (wants_none rfl) rfl rfl (by kernel_rfl) (fun k hk => ?_) (fun _ => E2.out) (there_lt ht2 (by omega)) ht2 (gives_op 0 rfl (by kernel_rfl) (fun _ => rfl)) tyFe rfl
            rcases k with _ | _ | _ | k
            all_goals first | (exact absurd rfl hk) | (intro e; cases e; done)
          · exact step_pureO hs (wants_none rfl) rfl fun L u W hG hdep => ⟨_, run_assign rfl, rfl⟩
        intro L8 u8 W8 hall hJ hG
        have hb : Below w.heap.size W7 W8 := hJ.below (by have := hbel.size; omega) (fun k b hf => by rcases k with _ | _ | _ | k <;> first | (cases hf; done) | (cases hf; omega))
        have hbel := hbel.trans hb
        have hm1 := hm1.blk (hJ.block _ (hm1.lt) (fun k hk => by rcases k with _ | _ | _ | k <;> first | (cases hk; done) | (cases hk; exact absurd rfl (Ne.symm HN1_2.out))))
        have hs7_2 := hs7_2.blk (hJ.block _ (hs7_2.lt) (fun k hk => by rcases k with _ | _ | _ | k <;> first | (cases hk; done) | (cases hk; exact absurd rfl HD4_q2.out)))
        have ht1 := there_blk ht1 (hJ.block _ (there_lt ht1 (by omega)) (fun k hk => by rcases k with _ | _ | _ | k <;> first | (cases hk; done) | (cases hk; exact absurd rfl (Ne.symm HN1_2.out))))
        have hs7_2t := there_blk hs7_2t (hJ.block _ (there_lt hs7_2t (by omega)) (fun k hk => by rcases k with _ | _ | _ | k <;> first | (cases hk; done) | (cases hk; exact absurd rfl HD4_q2.out)))
        obtain ⟨_, hs8_1t, hs8_1⟩ := (show _ ∧ W8.there q2 0 16 ∧ HasFs rR W8 q2 0 [-(r * t)] from hG 1 (by simp))
        have HC3 := Lib.hid (show u8 2 = .int .i64 0 from hG 2 (by simp))
        have hbel0 := hbel
        clear hJ hG hall hb
        go_wp2
        exact ret_cell_slot (R := rR) Try.results56 (by exact E2.out) (by exact HC3.out) hs8_1 tyFe rfl (fun s hs => ⟨s, by rw [root_c0 HC.out HQ2.out], by rw [root_odd HC.out HQ2.out HP.out]; exact hs, hbel⟩)
      · have ho : (bits BinOp.and IntKind.u64 ((d16 (r * t).val 0 : Nat) : Int) 1 == 1) = false := by rw [odd16, show (r * t).val % 2 = 0 by omega]; rfl
        have HP := Lib.hid hp
        clear hp
        generalize hdd : d16 (r * t).val 0 = dd at *
        clear hdd
        go_upto_region 8 with fail
        clear e4 hc0 ho
        refine wp_region_turn (fun u => #[v0, u0 0, u0 1, u 2, u1 3, u1 0, u1 1, u1 2, u2 0, u2 1, u2 2, u2 3, .bool true, u3 0, u3 1, u3 2, u3 3, u3 4, u4 0, u4 1, u4 2, u4 3, .bool false, undef, .pointer (some ⟨q4, 0, none⟩), .int .u64 (dd : Nat), .int .u64 (bits BinOp.and IntKind.u64 ((dd : Nat) : Int) 1), .bool false, undef, undef, u 0]) (Holds [.val rR [r * t], .sto q2 rR [r * t], .oth (fun v => v = .int .i64 0)] W4) (Keep [.val rR [r * t], .sto q2 rR [r * t], .oth (fun v => v = .int .i64 0)] W4) (fun k => ((undef :: undef :: u0 2 :: []) : List Value).getD k undef) ?_ (by rfl) Keep.start (holds_soft (by kernel_rfl)) ?_ ?_
        · intro u i v h
          rcases i with _ | _ | _ | i
          all_goals first | (simp [Act.put, putV]; done) | (exfalso; simp at h; omega)
        · intro hs
          refine ⟨?_, ?_, ?_, trivial⟩
          · exact step_load q4 0 hs (wants_none rfl) rfl rfl tyFe (fun _ => E4.out) hs3_5.lt hs3_5 (fun k g hk => by rcases k with _ | _ | _ | k <;> first | (cases hk; done) | (cases hk; exact .inr HD4_q2.out))
          · refine step_storeO q2 16 hs (wants_none rfl) rfl rfl (by kernel_rfl) (fun k hk => ?_) (fun _ => E2.out) (there_lt ht2 (by omega)) ht2 (gives_op 0 rfl (by kernel_rfl) (fun _ => rfl)) tyFe rfl
            rcases k with _ | _ | _ | k
            all_goals first | (exact absurd rfl hk) | (intro e; cases e; done)
          · exact step_pureO hs (wants_none rfl) rfl fun L u W hG hdep => ⟨_, run_assign rfl, rfl⟩
        intro L8 u8 W8 hall hJ hG
        have hb : Below w.heap.size W4 W8 := hJ.below (by have := hbel.size; omega) (fun k b hf => by rcases k with _ | _ | _ | k <;> first | (cases hf; done) | (cases hf; omega))
        have hbel := hbel.trans hb
        have hm1 := hm1.blk (hJ.block _ (hm1.lt) (fun k hk => by rcases k with _ | _ | _ | k <;> first | (cases hk; done) | (cases hk; exact absurd rfl (Ne.symm HN1_2.out))))
        have hs3_5 := hs3_5.blk (hJ.block _ (hs3_5.lt) (fun k hk => by rcases k with _ | _ | _ | k <;> first | (cases hk; done) | (cases hk; exact absurd rfl HD4_q2.out)))
        have ht1 := there_blk ht1 (hJ.block _ (there_lt ht1 (by omega)) (fun k hk => by rcases k with _ | _ | _ | k <;> first | (cases hk; done) | (cases hk; exact absurd rfl (Ne.symm HN1_2.out))))
        have hs3_5t := there_blk hs3_5t (hJ.block _ (there_lt hs3_5t (by omega)) (fun k hk => by rcases k with _ | _ | _ | k <;> first | (cases hk; done) | (cases hk; exact absurd rfl HD4_q2.out)))
        obtain ⟨_, hs8_1t, hs8_1⟩ := (show _ ∧ W8.there q2 0 16 ∧ HasFs rR W8 q2 0 [r * t] from hG 1 (by simp))
        have HC3 := Lib.hid (show u8 2 = .int .i64 0 from hG 2 (by simp))
        have hbel0 := hbel
        clear hJ hG hall hb
        go_wp2
        exact ret_cell_slot (R := rR) Try.results56 (by exact E2.out) (by exact HC3.out) hs8_1 tyFe rfl (fun s hs => ⟨s, by rw [root_c0 HC.out HQ2.out], by rw [root_even HC.out HQ2.out HP.out]; exact hs, hbel⟩)
    · have HQ2 := Lib.hid hq2
      clear hq2
      have hx : u4 4 = .bool true := by rw [HC22.out, decide_eq_false HQ2.out]; rfl
      go_wp2_with fail
      rw [hx]
      clear hx
      go_upto_region 5 with fail
      refine wp_region_turn (fun u => #[v0, u0 0, u0 1, u 2, u1 3, u1 0, u1 1, u1 2, u2 0, u2 1, u2 2, u2 3, .bool true, u3 0, u3 1, u3 2, u3 3, u3 4, u4 0, u4 1, u4 2, u4 3, .bool true, u 0, undef, undef, undef, undef, undef, undef, undef]) (Holds [.val rR [0], .sto q2 rR [0], .oth (fun v => v = .int .i64 7)] W4) (Keep [.val rR [0], .sto q2 rR [0], .oth (fun v => v = .int .i64 7)] W4) (fun k => ((undef :: undef :: u0 2 :: []) : List Value).getD k undef) ?_ (by rfl) Keep.start (holds_soft (by kernel_rfl)) ?_ ?_
      · intro u i v h
        rcases i with _ | _ | _ | i
        all_goals first | (simp [Act.put, putV]; done) | (exfalso; simp at h; omega)
      · intro hs
        refine ⟨?_, ?_, ?_, trivial⟩
        · exact step_pure hs (wants_none rfl) rfl fun L u W hG hdep => run_build0 rfl (buildFe0 W)
        · refine step_storeO q2 16 hs (wants_none rfl) rfl rfl (by kernel_rfl) (fun k hk => ?_) (fun _ => E2.out) (there_lt ht2 (by omega)) ht2 (gives_op 0 rfl (by kernel_rfl) (fun _ => rfl)) tyFe rfl
          rcases k with _ | _ | _ | k
          all_goals first | (exact absurd rfl hk) | (intro e; cases e; done)
        · exact step_pureO hs (wants_none rfl) rfl fun L u W hG hdep => ⟨_, run_assign rfl, rfl⟩
      intro L5 u5 W5 hall hJ hG
      have hb : Below w.heap.size W4 W5 := hJ.below (by have := hbel.size; omega) (fun k b hf => by rcases k with _ | _ | _ | k <;> first | (cases hf; done) | (cases hf; omega))
      have hbel := hbel.trans hb
      have hm1 := hm1.blk (hJ.block _ (hm1.lt) (fun k hk => by rcases k with _ | _ | _ | k <;> first | (cases hk; done) | (cases hk; exact absurd rfl (Ne.symm HN1_2.out))))
      have hs3_5 := hs3_5.blk (hJ.block _ (hs3_5.lt) (fun k hk => by rcases k with _ | _ | _ | k <;> first | (cases hk; done) | (cases hk; exact absurd rfl HD4_q2.out)))
      have ht1 := there_blk ht1 (hJ.block _ (there_lt ht1 (by omega)) (fun k hk => by rcases k with _ | _ | _ | k <;> first | (cases hk; done) | (cases hk; exact absurd rfl (Ne.symm HN1_2.out))))
      have hs3_5t := there_blk hs3_5t (hJ.block _ (there_lt hs3_5t (by omega)) (fun k hk => by rcases k with _ | _ | _ | k <;> first | (cases hk; done) | (cases hk; exact absurd rfl HD4_q2.out)))
      obtain ⟨_, hs5_1t, hs5_1⟩ := (show _ ∧ W5.there q2 0 16 ∧ HasFs rR W5 q2 0 [0] from hG 1 (by simp))
      have HC3 := Lib.hid (show u5 2 = .int .i64 7 from hG 2 (by simp))
      have hbel0 := hbel
      clear hJ hG hall hb
      go_wp2
      exact ret_cell_slot (R := rR) Try.results56 (by exact E2.out) (by exact HC3.out) hs5_1 tyFe rfl (fun s hs => ⟨s, by rw [(root_no HC.out HQ2.out).2], by rw [(root_no HC.out HQ2.out).1]; exact hs, hbel⟩)
theorem rrootM {v : Value} {x : F} (h : IsFs rR v [x]) (w : World) :
    Calls Try.prog 56 #[v] w fun e w' => ∃ s, e = .returned (.tuple #[s, .int .i64 (rootC x)]) ∧ IsFs rR s [rootV x] ∧ Below w.heap.size w w' :=
  rroot_core x _ sqm1 rfl two_turn rfl h w
end Go.Proofs.Ytjchdhpijopikaa
namespace Go.Proofs.Ytjchdhpijopikaa
open Go Go.RowKit
/-- The program's, ready. -/
def rPr : Rp EP where
  n := 20
  rep := fun P cs => ∃ x y z t, Lims rE [x, y, z, t] cs ∧ Pext P x y z t
  pos := by omega
  len := fun _ _ ⟨_, _, _, _, h, _⟩ => h.len
  one := fun _ _ ⟨_, _, _, _, h, _⟩ => h.one
/-- The program's: a zero one is the neutral one, too. -/
def rP : Rp EP where
  n := 20
  rep := fun P cs => ∃ x y z t, Lims rE [x, y, z, t] cs ∧ (Pext P x y z t ∨ (z = 0 ∧ P = Cp.zero))
  pos := by omega
  len := fun _ _ ⟨_, _, _, _, h, _⟩ => h.len
  one := fun _ _ ⟨_, _, _, _, h, _⟩ => h.one
theorem isPr {v : Value} {P : EP} {x y z t : F} (h : IsFs rE v [x, y, z, t]) (hp : Pext P x y z t) : IsFs rPr v [P] := by
  obtain ⟨cs, rfl, hc⟩ := h
  exact ⟨cs, rfl, Lims.single (R := rPr) ⟨x, y, z, t, hc, hp⟩⟩
theorem of_isPr {v : Value} {P : EP} (h : IsFs rPr v [P]) : ∃ x y z t, IsFs rE v [x, y, z, t] ∧ Pext P x y z t := by
  obtain ⟨cs, rfl, hc⟩ := h
  obtain ⟨x, y, z, t, h, hp⟩ := Lims.of_single hc
  exact ⟨x, y, z, t, ⟨cs, rfl, h⟩, hp⟩
theorem of_hasPr {w : World} {g : Nat} {P : EP} (h : HasFs rPr w g 0 [P]) : ∃ x y z t, HasFs rE w g 0 [x, y, z, t] ∧ Pext P x y z t := by
  obtain ⟨cs, hc, hr⟩ := h
  obtain ⟨x, y, z, t, h, hp⟩ := Lims.of_single hc
  exact ⟨x, y, z, t, ⟨cs, h, hr⟩, hp⟩
theorem of_isP {v : Value} {P : EP} (h : IsFs rP v [P]) : ∃ x y z t, IsFs rE v [x, y, z, t] ∧ (Pext P x y z t ∨ (z = 0 ∧ P = Cp.zero)) := by
  obtain ⟨cs, rfl, hc⟩ := h
  obtain ⟨x, y, z, t, h, hp⟩ := Lims.of_single hc
  exact ⟨x, y, z, t, ⟨cs, rfl, h⟩, hp⟩
theorem toP {v : Value} {P : EP} (h : IsFs rPr v [P]) : IsFs rP v [P] := by
  obtain ⟨cs, rfl, hc⟩ := h
  obtain ⟨x, y, z, t, h, hp⟩ := Lims.of_single hc
  exact ⟨cs, rfl, Lims.single (R := rP) ⟨x, y, z, t, h, .inl hp⟩⟩
theorem isZ {v : Value} {x y t : F} (h : IsFs rE v [x, y, 0, t]) : IsFs rP v [Cp.zero] := by
  obtain ⟨cs, rfl, hc⟩ := h
  exact ⟨cs, rfl, Lims.single (R := rP) ⟨x, y, 0, t, hc, .inr ⟨rfl, rfl⟩⟩⟩
theorem tyP4 : TyOk rE 29 4 := ⟨⟨_, Try.underlying29, rfl⟩, by kernel_rfl⟩
theorem tyP : TyOk rP 29 1 := ⟨⟨_, Try.underlying29, rfl⟩, by kernel_rfl⟩
theorem tyPr : TyOk rPr 29 1 := ⟨⟨_, Try.underlying29, rfl⟩, by kernel_rfl⟩
theorem allocP (w : World) : (Instr.alloc 29 true (.tuple #[])).run Try.prog w = .ok (.pointer (some ⟨w.heap.size, 0, none⟩)) (w.alloc (.cells #[.int .u64 0,.int .u64 0,.int .u64 0,.int .u64 0,.int .u64 0,.int .u64 0,.int .u64 0,.int .u64 0,.int .u64 0,.int .u64 0,.int .u64 0,.int .u64 0,.int .u64 0,.int .u64 0,.int .u64 0,.int .u64 0,.int .u64 0,.int .u64 0,.int .u64 0,.int .u64 0] 29)) := by kernel_rfl
theorem field_P0 (b : Nat) (w : World) : (Instr.fieldAt 29 (.pointer (some ⟨b, 0, none⟩)) 0).run Try.prog w = .ok (.pointer (some ⟨b, 0, none⟩)) w := by kernel_rfl
theorem field_P1 (b : Nat) (w : World) : (Instr.fieldAt 29 (.pointer (some ⟨b, 0, none⟩)) 1).run Try.prog w = .ok (.pointer (some ⟨b, 5, none⟩)) w := by kernel_rfl
theorem field_P2 (b : Nat) (w : World) : (Instr.fieldAt 29 (.pointer (some ⟨b, 0, none⟩)) 2).run Try.prog w = .ok (.pointer (some ⟨b, 10, none⟩)) w := by kernel_rfl
theorem field_P3 (b : Nat) (w : World) : (Instr.fieldAt 29 (.pointer (some ⟨b, 0, none⟩)) 3).run Try.prog w = .ok (.pointer (some ⟨b, 15, none⟩)) w := by kernel_rfl
theorem build_P {u0 u1 u2 u3 : Value} {x y z t : F} (h0 : IsFs rE u0 [x]) (h1 : IsFs rE u1 [y]) (h2 : IsFs rE u2 [z]) (h3 : IsFs rE u3 [t]) (w : World) :
    ∃ r, (Instr.build 29 #[(0, u0), (1, u1), (2, u2), (3, u3)]).run Try.prog w = .ok r w ∧ IsFs rE r [x, y, z, t] := by
  obtain ⟨f, rfl, hf⟩ := of_isE h0; obtain ⟨g, rfl, hg⟩ := of_isE h1; obtain ⟨p, rfl, hp⟩ := of_isE h2; obtain ⟨q, rfl, hq⟩ := of_isE h3
  exact ⟨.agg #[.int .u64 (f 0 : Nat),.int .u64 (f 1 : Nat),.int .u64 (f 2 : Nat),.int .u64 (f 3 : Nat),.int .u64 (f 4 : Nat), .int .u64 (g 0 : Nat),.int .u64 (g 1 : Nat),.int .u64 (g 2 : Nat),.int .u64 (g 3 : Nat),.int .u64 (g 4 : Nat), .int .u64 (p 0 : Nat),.int .u64 (p 1 : Nat),.int .u64 (p 2 : Nat),.int .u64 (p 3 : Nat),.int .u64 (p 4 : Nat), .int .u64 (q 0 : Nat),.int .u64 (q 1 : Nat),.int .u64 (q 2 : Nat),.int .u64 (q 3 : Nat),.int .u64 (q 4 : Nat)], by kernel_rfl, _, rfl, _, _, ⟨f, hf, rfl⟩, rfl, _, _, ⟨g, hg, rfl⟩, rfl, _, _, ⟨p, hp, rfl⟩, rfl, _, _, ⟨q, hq, rfl⟩, rfl, rfl⟩
theorem zero_lims : Lims rE [0, 0, 0, 0] [.int .u64 0,.int .u64 0,.int .u64 0,.int .u64 0,.int .u64 0,.int .u64 0,.int .u64 0,.int .u64 0,.int .u64 0,.int .u64 0,.int .u64 0,.int .u64 0,.int .u64 0,.int .u64 0,.int .u64 0,.int .u64 0,.int .u64 0,.int .u64 0,.int .u64 0,.int .u64 0] :=
  ⟨_, _, ⟨fun _ => 0, FF.zero, rfl⟩, rfl, _, _, ⟨fun _ => 0, FF.zero, rfl⟩, rfl, _, _, ⟨fun _ => 0, FF.zero, rfl⟩, rfl, _, _, ⟨fun _ => 0, FF.zero, rfl⟩, rfl, rfl⟩
theorem build_P0 (w : World) : ∃ r, (Instr.build 29 #[]).run Try.prog w = .ok r w ∧ IsFs rP r [Cp.zero] :=
  ⟨.agg #[.int .u64 0,.int .u64 0,.int .u64 0,.int .u64 0,.int .u64 0,.int .u64 0,.int .u64 0,.int .u64 0,.int .u64 0,.int .u64 0,.int .u64 0,.int .u64 0,.int .u64 0,.int .u64 0,.int .u64 0,.int .u64 0,.int .u64 0,.int .u64 0,.int .u64 0,.int .u64 0], by kernel_rfl, isZ (x := 0) (y := 0) (t := 0) ⟨_, rfl, zero_lims⟩⟩
/-- 32 bytes in an array. -/
def rB32 : Rp (List UInt8) where
  n := 32
  rep := fun l cs => l.length = 32 ∧ cs = l.map bV
  pos := by omega
  len := fun l _ ⟨h, e⟩ => by rw [e, List.length_map, h]
  one := fun l _ ⟨_, e⟩ v hv => by
    rw [e, List.mem_map] at hv
    obtain ⟨c, _, rfl⟩ := hv
    rfl
theorem HasFs.rdb {w : World} {g : Nat} {l : List UInt8} (h : HasFs rB32 w g 0 [l]) : RdB w (some ⟨g, 0, none⟩) 32 32 l := by
  obtain ⟨cs, hc, hr⟩ := h
  obtain ⟨hl, rfl⟩ := Lims.of_single hc
  refine ⟨hl, Nat.le_refl _, by unfold maxLen; omega, fun i hi => ⟨g, 0, rfl, ?_⟩, fun h => by cases h⟩
  have := hr i (bV l[i]) (by simp [List.getElem?_map, List.getElem?_eq_getElem hi])
  exact this
theorem tya32 : TyOk rB32 52 1 := ⟨⟨_, Try.underlying52, rfl⟩, by kernel_rfl⟩
theorem alloca32 (w : World) : (Instr.alloc 52 true (.tuple #[])).run Try.prog w = .ok (.pointer (some ⟨w.heap.size, 0, none⟩)) (w.alloc (.cells #[.int .u8 0,.int .u8 0,.int .u8 0,.int .u8 0,.int .u8 0,.int .u8 0,.int .u8 0,.int .u8 0,.int .u8 0,.int .u8 0,.int .u8 0,.int .u8 0,.int .u8 0,.int .u8 0,.int .u8 0,.int .u8 0,.int .u8 0,.int .u8 0,.int .u8 0,.int .u8 0,.int .u8 0,.int .u8 0,.int .u8 0,.int .u8 0,.int .u8 0,.int .u8 0,.int .u8 0,.int .u8 0,.int .u8 0,.int .u8 0,.int .u8 0,.int .u8 0] 52)) := by kernel_rfl
/-- The document's. -/
def rQ : Rp EP where
  n := 48
  rep := fun P cs => ∃ x y z, Lims rR [x, y, z] cs ∧ Prep P x y z
  pos := by omega
  len := fun _ _ ⟨_, _, _, h, _⟩ => h.len
  one := fun _ _ ⟨_, _, _, h, _⟩ => h.one
theorem isQ {v : Value} {P : EP} {x y z : F} (h : IsFs rR v [x, y, z]) (hp : Prep P x y z) : IsFs rQ v [P] := by
  obtain ⟨cs, rfl, hc⟩ := h
  exact ⟨cs, rfl, Lims.single (R := rQ) ⟨x, y, z, hc, hp⟩⟩
theorem of_isQ {v : Value} {P : EP} (h : IsFs rQ v [P]) : ∃ x y z, IsFs rR v [x, y, z] ∧ Prep P x y z := by
  obtain ⟨cs, rfl, hc⟩ := h
  obtain ⟨x, y, z, h, hp⟩ := Lims.of_single hc
  exact ⟨x, y, z, ⟨cs, rfl, h⟩, hp⟩
theorem tyPt3 : TyOk rR 36 3 := ⟨⟨_, Try.underlying36, rfl⟩, by kernel_rfl⟩
theorem tyPt : TyOk rQ 36 1 := ⟨⟨_, Try.underlying36, rfl⟩, by kernel_rfl⟩
theorem allocPt (w : World) : (Instr.alloc 36 true (.tuple #[])).run Try.prog w = .ok (.pointer (some ⟨w.heap.size, 0, none⟩)) (w.alloc (.cells #[.int .u64 0,.int .u64 0,.int .u64 0,.int .u64 0,.int .u64 0,.int .u64 0,.int .u64 0,.int .u64 0,.int .u64 0,.int .u64 0,.int .u64 0,.int .u64 0,.int .u64 0,.int .u64 0,.int .u64 0,.int .u64 0,.int .u64 0,.int .u64 0,.int .u64 0,.int .u64 0,.int .u64 0,.int .u64 0,.int .u64 0,.int .u64 0,.int .u64 0,.int .u64 0,.int .u64 0,.int .u64 0,.int .u64 0,.int .u64 0,.int .u64 0,.int .u64 0,.int .u64 0,.int .u64 0,.int .u64 0,.int .u64 0,.int .u64 0,.int .u64 0,.int .u64 0,.int .u64 0,.int .u64 0,.int .u64 0,.int .u64 0,.int .u64 0,.int .u64 0,.int .u64 0,.int .u64 0,.int .u64 0] 36)) := by kernel_rfl
theorem field_Pt0 (b : Nat) (w : World) : (Instr.fieldAt 36 (.pointer (some ⟨b, 0, none⟩)) 0).run Try.prog w = .ok (.pointer (some ⟨b, 0, none⟩)) w := by kernel_rfl
theorem field_Pt1 (b : Nat) (w : World) : (Instr.fieldAt 36 (.pointer (some ⟨b, 0, none⟩)) 1).run Try.prog w = .ok (.pointer (some ⟨b, 16, none⟩)) w := by kernel_rfl
theorem field_Pt2 (b : Nat) (w : World) : (Instr.fieldAt 36 (.pointer (some ⟨b, 0, none⟩)) 2).run Try.prog w = .ok (.pointer (some ⟨b, 32, none⟩)) w := by kernel_rfl
theorem buildPt_run (a b c : Nat → Nat) (w : World) : (Instr.build 36 #[(0, .agg (row 16 (fV a)).toArray), (1, .agg (row 16 (fV b)).toArray), (2, .agg (row 16 (fV c)).toArray)]).run Try.prog w = .ok (.agg (row 16 (fV a) ++ (row 16 (fV b) ++ row 16 (fV c))).toArray) w := by kernel_rfl
theorem buildPt_run12 (b c : Nat → Nat) (w : World) : (Instr.build 36 #[(1, .agg (row 16 (fV b)).toArray), (2, .agg (row 16 (fV c)).toArray)]).run Try.prog w = .ok (.agg (row 16 (fV (fun _ => 0)) ++ (row 16 (fV b) ++ row 16 (fV c))).toArray) w := by kernel_rfl
theorem lims3 (x y z : F) : Lims rR [x, y, z] (row 16 (fV (d16 x.val)) ++ (row 16 (fV (d16 y.val)) ++ row 16 (fV (d16 z.val)))) := ⟨_, _, rfl, rfl, _, _, rfl, rfl, Lims.single (R := rR) rfl⟩
theorem build_Pt {u0 u1 u2 : Value} {x y z : F} (h0 : IsFs rR u0 [x]) (h1 : IsFs rR u1 [y]) (h2 : IsFs rR u2 [z]) (w : World) :
    ∃ r, (Instr.build 36 #[(0, u0), (1, u1), (2, u2)]).run Try.prog w = .ok r w ∧ IsFs rR r [x, y, z] := by
  rw [of_isR h0, of_isR h1, of_isR h2]
  exact ⟨_, buildPt_run _ _ _ w, _, rfl, lims3 x y z⟩
theorem d16_0 : d16 (0 : F).val = fun _ => 0 := by funext i; unfold d16; simp
theorem build_Pt12 {u1 u2 : Value} {y z : F} (h1 : IsFs rR u1 [y]) (h2 : IsFs rR u2 [z]) (w : World) :
    ∃ r, (Instr.build 36 #[(1, u1), (2, u2)]).run Try.prog w = .ok r w ∧ IsFs rR r [0, y, z] := by
  rw [of_isR h1, of_isR h2]
  refine ⟨_, buildPt_run12 _ _ w, _, rfl, ?_⟩
  have := lims3 0 y z
  rw [d16_0] at this
  exact this
theorem run_build12 {ev : Operand → Value} {o : Oper} {t : TypeId} {x y : Operand} {r : Value} {w : World} (ho : o.op = .build t #[(1, x), (2, y)]) (h : (Instr.build t #[(1, ev x), (2, ev y)]).run Try.prog w = .ok r w) :
    (execOp ev o).run Try.prog w = .ok (.value r) w := by
  unfold execOp
  simp only [ho]
  simp [h]
end Go.Proofs.Ytjchdhpijopikaa
namespace Go.Proofs.Ytjchdhpijopikaa
open Go Go.RowKit
set_option maxRecDepth 100000 in
set_option maxHeartbeats 4000000 in
theorem cPoint {v0 v1 : Value} {x y : F} (h0 : IsFs rE v0 [x]) (h1 : IsFs rE v1 [y]) (w : World) :
    Calls Try.prog 45 #[v0, v1] w fun e w' => ∃ r, e = .returned r ∧ IsFs rE r [x, y, fn 1, x * y] ∧ Below w.heap.size w w' := by
  go_enter Try.func45, Try.ntmps45
  have hbel : Below w.heap.size w w := Below.refl _ _
  have hbel0 := hbel
  go_upto_region 0 with fail
  refine wp_region_turn (fun u => #[v0, v1, u 0, u 1, u 2, undef, undef, undef, undef, undef, undef, undef]) (Holds [.box rE [x], .box rE [y], .new 20] w) (Keep [.box rE [x], .box rE [y], .new 20] w) (fun _ => undef) ?_ (by rfl) Keep.start (holds_soft (by kernel_rfl)) ?_ ?_
  · intro u i v h
    rcases i with _ | _ | _ | i
    all_goals first | (simp [Act.put, putV]; done) | (exfalso; simp at h; omega)
  · intro hs
    refine ⟨?_, ?_, ?_, trivial⟩
    · exact step_box hs (wants_none rfl) rfl rfl (gives_c h0 (fun _ => rfl))
    · exact step_box hs (wants_none rfl) rfl rfl (gives_c h1 (fun _ => rfl))
    · exact step_alloc hs (wants_none rfl) rfl rfl (by omega) rfl allocP
  intro L0 u0 W0 hall hJ hG
  obtain ⟨q2, e2, ⟨hq2, _⟩, ht2, hm2⟩ := (show ∃ g, u0 0 = .pointer (some ⟨g, 0, none⟩) ∧ (w.heap.size ≤ g ∧ g < W0.heap.size) ∧ W0.there g 0 5 ∧ HasFs rE W0 g 0 [x] from hG 0 (by simp))
  have hq2 : w.heap.size ≤ q2 := by have := hbel0.size; omega
  have E2 := Lib.hid e2; clear e2
  obtain ⟨q3, e3, ⟨hq3, _⟩, ht3, hm3⟩ := (show ∃ g, u0 1 = .pointer (some ⟨g, 0, none⟩) ∧ (w.heap.size ≤ g ∧ g < W0.heap.size) ∧ W0.there g 0 5 ∧ HasFs rE W0 g 0 [y] from hG 1 (by simp))
  have hq3 : w.heap.size ≤ q3 := by have := hbel0.size; omega
  have E3 := Lib.hid e3; clear e3
  obtain ⟨q4, e4, hq4, _, ht4⟩ := (show ∃ g, u0 2 = .pointer (some ⟨g, 0, none⟩) ∧ w.heap.size ≤ g ∧ 0 < 20 ∧ W0.there g 0 20 from hG 2 (by simp))
  have hq4 : w.heap.size ≤ q4 := by have := hbel0.size; omega
  have E4 := Lib.hid e4; clear e4
  have hb := hJ.all rfl
  have hbel := Below.call hbel hb
  have HN2_3 := Lib.hid (show q2 ≠ q3 from fun e => hJ.apart 0 1 _ (by omega) (hall _ (by simp)) (hall _ (by simp)) rfl rfl (E2.out.trans (by rw [e])) E3.out)
  have HN2_4 := Lib.hid (show q2 ≠ q4 from fun e => hJ.apart 0 2 _ (by omega) (hall _ (by simp)) (hall _ (by simp)) rfl rfl (E2.out.trans (by rw [e])) E4.out)
  have HN3_4 := Lib.hid (show q3 ≠ q4 from fun e => hJ.apart 1 2 _ (by omega) (hall _ (by simp)) (hall _ (by simp)) rfl rfl (E3.out.trans (by rw [e])) E4.out)
  have hbel0 := hbel
  clear hJ hG hall hb
  go_upto_region 1 with fail
  refine wp_region_mid (fun u => #[v0, v1, u0 0, u0 1, u0 2, u 0, u 1, u 2, u 3, u 4, u 5, u 6]) (Holds [.val rE [x], .val rE [y], .val rE [fn 1], .val rE [x], .val rE [y], .val rE [x * y], .val rE [x, y, fn 1, x * y], .sto q4 rE [x, y, fn 1, x * y]] W0) (Keep [.val rE [x], .val rE [y], .val rE [fn 1], .val rE [x], .val rE [y], .val rE [x * y], .val rE [x, y, fn 1, x * y], .sto q4 rE [x, y, fn 1, x * y]] W0) (fun _ => undef) (by kernel_rfl) (by kernel_rfl) ?_ (by rfl) Keep.drew (holds_soft (by kernel_rfl)) ?_ ?_
  · intro u i v h
    rcases i with _ | _ | _ | _ | _ | _ | _ | _ | i
    all_goals first | (simp [Act.put, putV]; done) | (exfalso; simp at h; omega)
  · intro hs
    refine ⟨?_, ?_, ?_, ?_, ?_, ?_, ?_, ?_, trivial⟩
    · exact step_load q2 0 hs (wants_none rfl) rfl rfl tyE (fun _ => E2.out) hm2.lt hm2 (fun k g hk => by rcases k with _ | _ | _ | _ | _ | _ | _ | _ | k <;> first | (cases hk; done) | (cases hk; exact .inr (Ne.symm HN2_4.out)))
    · exact step_load q3 0 hs (wants_none rfl) rfl rfl tyE (fun _ => E3.out) hm3.lt hm3 (fun k g hk => by rcases k with _ | _ | _ | _ | _ | _ | _ | _ | k <;> first | (cases hk; done) | (cases hk; exact .inr (Ne.symm HN3_4.out)))
    · refine step_call hs (wants_none rfl) rfl fun L u W hJ hG hL hdep K hK => ?_
      go_simp
      go_at_call 37
      (with_reducible refine (cSmallI (n := 1) (z := 1) rfl (by omega) _).mono ?_); rintro e w1 ⟨r, rfl, hr, hb⟩
      have hk := hK.out _ _ hr hb
      exact hk
    · exact step_load q2 0 hs (wants_none rfl) rfl rfl tyE (fun _ => E2.out) hm2.lt hm2 (fun k g hk => by rcases k with _ | _ | _ | _ | _ | _ | _ | _ | k <;> first | (cases hk; done) | (cases hk; exact .inr (Ne.symm HN2_4.out)))
    · exact step_load q3 0 hs (wants_none rfl) rfl rfl tyE (fun _ => E3.out) hm3.lt hm3 (fun k g hk => by rcases k with _ | _ | _ | _ | _ | _ | _ | _ | k <;> first | (cases hk; done) | (cases hk; exact .inr (Ne.symm HN3_4.out)))
    · refine step_call hs (wants_none rfl) rfl fun L u W hJ hG hL hdep K hK => ?_
      have a0 := (show IsFs rE (u 3) [x] from hG 3 (hdep 3 (by kernel_rfl)))
      have a1 := (show IsFs rE (u 4) [y] from hG 4 (hdep 4 (by kernel_rfl)))
      go_simp
      go_at_call 38
      (with_reducible refine (cMul a0 a1 _).mono ?_); rintro e w1 ⟨r, rfl, hr, hb⟩
      have hk := hK.out _ _ hr hb
      exact hk
    · refine step_pure hs (wants_none rfl) rfl fun L u W hG hdep => ?_
      have a0 := (show IsFs rE (u 0) [x] from hG 0 (hdep 0 (by kernel_rfl)))
      have a1 := (show IsFs rE (u 1) [y] from hG 1 (hdep 1 (by kernel_rfl)))
      have a2 := (show IsFs rE (u 2) [fn 1] from hG 2 (hdep 2 (by kernel_rfl)))
      have a3 := (show IsFs rE (u 5) [x * y] from hG 5 (hdep 5 (by kernel_rfl)))
      obtain ⟨r, hr, hx⟩ := build_P a0 a1 a2 a3 W
      exact ⟨r, run_build4 rfl hr, hx⟩
    · refine step_storeO q4 20 hs (wants_none rfl) rfl rfl (by kernel_rfl) (fun k hk => ?_) (fun _ => E4.out) (there_lt ht4 (by omega)) ht4 (gives_op 6 rfl (by kernel_rfl) (fun _ => rfl)) tyP4 rfl
      rcases k with _ | _ | _ | _ | _ | _ | _ | _ | k
      all_goals first | (exact absurd rfl hk) | (intro e; cases e; done)
  intro L1 u1 W1 hall hJ hG
  have hb : Below w.heap.size W0 W1 := hJ.below (by have := hbel.size; omega) (fun k b hf => by rcases k with _ | _ | _ | _ | _ | _ | _ | _ | k <;> first | (cases hf; done) | (cases hf; omega))
  have hbel := hbel.trans hb
  have hm2 := hm2.blk (hJ.block _ (hm2.lt) (fun k hk => by rcases k with _ | _ | _ | _ | _ | _ | _ | _ | k <;> first | (cases hk; done) | (cases hk; exact absurd rfl (Ne.symm HN2_4.out))))
  have hm3 := hm3.blk (hJ.block _ (hm3.lt) (fun k hk => by rcases k with _ | _ | _ | _ | _ | _ | _ | _ | k <;> first | (cases hk; done) | (cases hk; exact absurd rfl (Ne.symm HN3_4.out))))
  have ht2 := there_blk ht2 (hJ.block _ (there_lt ht2 (by omega)) (fun k hk => by rcases k with _ | _ | _ | _ | _ | _ | _ | _ | k <;> first | (cases hk; done) | (cases hk; exact absurd rfl (Ne.symm HN2_4.out))))
  have ht3 := there_blk ht3 (hJ.block _ (there_lt ht3 (by omega)) (fun k hk => by rcases k with _ | _ | _ | _ | _ | _ | _ | _ | k <;> first | (cases hk; done) | (cases hk; exact absurd rfl (Ne.symm HN3_4.out))))
  obtain ⟨_, hs1_7t, hs1_7⟩ := (show _ ∧ W1.there q4 0 20 ∧ HasFs rE W1 q4 0 [x, y, fn 1, x * y] from hG 7 (by simp))
  have hbel0 := hbel
  clear hJ hG hall hb
  go_wp2
  exact ret_cell1 (R := rE) Try.results45 (by exact E4.out) hs1_7 tyP4 rfl (fun r hr => ⟨r, rfl, hr, hbel⟩)
set_option maxRecDepth 100000 in
set_option maxHeartbeats 4000000 in
theorem ready_no {v0 : Value} {x y z t : F} (h0 : IsFs rE v0 [x, y, z, t]) (hz : z ≠ 0) (w : World) :
    Calls Try.prog 59 #[v0] w fun e w' => ∃ r, e = .returned r ∧ IsFs rE r [x, y, z, t] ∧ Below w.heap.size w w' := by
  have HZ := Lib.hid hz; clear hz
  go_enter Try.func59, Try.ntmps59
  have hbel : Below w.heap.size w w := Below.refl _ _
  have hbel0 := hbel
  go_upto_region 0 with fail
  refine wp_region_turn (fun u => #[v0, u 0, u 1, undef, undef, undef, undef, undef, undef, undef, undef]) (Holds [.box rE [x, y, z, t], .new 20] w) (Keep [.box rE [x, y, z, t], .new 20] w) (fun _ => undef) ?_ (by rfl) Keep.start (holds_soft (by kernel_rfl)) ?_ ?_
  · intro u i v h
    rcases i with _ | _ | i
    all_goals first | (simp [Act.put, putV]; done) | (exfalso; simp at h; omega)
  · intro hs
    refine ⟨?_, ?_, trivial⟩
    · exact step_box hs (wants_none rfl) rfl rfl (gives_c h0 (fun _ => rfl))
    · exact step_alloc hs (wants_none rfl) rfl rfl (by omega) rfl allocP
  intro L0 u0 W0 hall hJ hG
  obtain ⟨q1, e1, ⟨hq1, _⟩, ht1, hm1⟩ := (show ∃ g, u0 0 = .pointer (some ⟨g, 0, none⟩) ∧ (w.heap.size ≤ g ∧ g < W0.heap.size) ∧ W0.there g 0 20 ∧ HasFs rE W0 g 0 [x, y, z, t] from hG 0 (by simp))
  have hq1 : w.heap.size ≤ q1 := by have := hbel0.size; omega
  have E1 := Lib.hid e1; clear e1
  obtain ⟨q2, e2, hq2, _, ht2⟩ := (show ∃ g, u0 1 = .pointer (some ⟨g, 0, none⟩) ∧ w.heap.size ≤ g ∧ 0 < 20 ∧ W0.there g 0 20 from hG 1 (by simp))
  have hq2 : w.heap.size ≤ q2 := by have := hbel0.size; omega
  have E2 := Lib.hid e2; clear e2
  have hb := hJ.all rfl
  have hbel := Below.call hbel hb
  have HN1_2 := Lib.hid (show q1 ≠ q2 from fun e => hJ.apart 0 1 _ (by omega) (hall _ (by simp)) (hall _ (by simp)) rfl rfl (E1.out.trans (by rw [e])) E2.out)
  have hbel0 := hbel
  clear hJ hG hall hb
  go_upto_region 1 with fail
  refine wp_region_turn (fun u => #[v0, u0 0, u0 1, u 0, u 1, u 2, u 3, undef, undef, undef, undef]) (Holds [.ptr q1 10, .val rE [z], .val rE [0], .oth (fun v => v = .bool false)] W0) (Keep [.ptr q1 10, .val rE [z], .val rE [0], .oth (fun v => v = .bool false)] W0) (fun _ => undef) ?_ (by rfl) Keep.start (holds_soft (by kernel_rfl)) ?_ ?_
  · intro u i v h
    rcases i with _ | _ | _ | _ | i
    all_goals first | (simp [Act.put, putV]; done) | (exfalso; simp at h; omega)
  · intro hs
    refine ⟨?_, ?_, ?_, ?_, trivial⟩
    · exact step_field hs (wants_none rfl) rfl rfl (fun _ => E1.out) (field_P2 _)
    · exact step_loadF 0 q1 10 hs (wants_none rfl) rfl rfl tyE (fun _ => rfl) rfl (by kernel_rfl) hm1.lt (hm1.fld 2 1) (noSto_apart (by kernel_rfl))
    · exact step_pure hs (wants_none rfl) rfl fun L u W hG hdep => run_build0 rfl (buildE0 W)
    · refine step_callO hs (wants_none rfl) rfl fun L u W hJ hG hL hdep K hK => ?_
      have a0 := (show IsFs rE (u 1) [z] from hG 1 (hdep 1 (by kernel_rfl)))
      have a1 := (show IsFs rE (u 2) [0] from hG 2 (hdep 2 (by kernel_rfl)))
      go_simp
      go_at_call 44
      (with_reducible refine (cSame (b := false) (decide_eq_false HZ.out) a0 a1 _).mono ?_); rintro e w1 ⟨rfl, hb⟩
      have hk := hK.out _ _ rfl hb
      exact hk
  intro L1 u1 W1 hall hJ hG
  have hb := hJ.all rfl
  have hbel := Below.call hbel hb
  have hm1 := hm1.later hb
  have ht1 := there_later ht1 hb
  have ht2 := there_later ht2 hb
  have HC6 := Lib.hid (show u1 3 = .bool false from hG 3 (by simp))
  have hbel0 := hbel
  clear hJ hG hall hb
  have hx : u1 3 = .bool false := HC6.out
  go_wp2_with fail
  rw [hx]
  clear hx
  go_upto_region 3 with fail
  refine wp_region_turn (fun u => #[v0, u0 0, u0 1, u1 0, u1 1, u1 2, .bool false, undef, undef, undef, u 0]) (Holds [.val rE [x, y, z, t], .sto q2 rE [x, y, z, t]] W1) (Keep [.val rE [x, y, z, t], .sto q2 rE [x, y, z, t]] W1) (fun _ => undef) ?_ (by rfl) Keep.start (holds_soft (by kernel_rfl)) ?_ ?_
  · intro u i v h
    rcases i with _ | _ | i
    all_goals first | (simp [Act.put, putV]; done) | (exfalso; simp at h; omega)
  · intro hs
    refine ⟨?_, ?_, trivial⟩
    · exact step_load q1 0 hs (wants_none rfl) rfl rfl tyP4 (fun _ => E1.out) hm1.lt hm1 (fun k g hk => by rcases k with _ | _ | k <;> first | (cases hk; done) | (cases hk; exact .inr (Ne.symm HN1_2.out)))
    · refine step_storeO q2 20 hs (wants_none rfl) rfl rfl (by kernel_rfl) (fun k hk => ?_) (fun _ => E2.out) (there_lt ht2 (by omega)) ht2 (gives_op 0 rfl (by kernel_rfl) (fun _ => rfl)) tyP4 rfl
      rcases k with _ | _ | k
      all_goals first | (exact absurd rfl hk) | (intro e; cases e; done)
  intro L3 u3 W3 hall hJ hG
  have hb : Below w.heap.size W1 W3 := hJ.below (by have := hbel.size; omega) (fun k b hf => by rcases k with _ | _ | k <;> first | (cases hf; done) | (cases hf; omega))
  have hbel := hbel.trans hb
  have hm1 := hm1.blk (hJ.block _ (hm1.lt) (fun k hk => by rcases k with _ | _ | k <;> first | (cases hk; done) | (cases hk; exact absurd rfl (Ne.symm HN1_2.out))))
  have ht1 := there_blk ht1 (hJ.block _ (there_lt ht1 (by omega)) (fun k hk => by rcases k with _ | _ | k <;> first | (cases hk; done) | (cases hk; exact absurd rfl (Ne.symm HN1_2.out))))
  obtain ⟨_, hs3_1t, hs3_1⟩ := (show _ ∧ W3.there q2 0 20 ∧ HasFs rE W3 q2 0 [x, y, z, t] from hG 1 (by simp))
  have hbel0 := hbel
  clear hJ hG hall hb
  go_wp2
  exact ret_cell1 (R := rE) Try.results59 (by exact E2.out) hs3_1 tyP4 rfl (fun r hr => ⟨r, rfl, hr, hbel⟩)
set_option maxRecDepth 100000 in
set_option maxHeartbeats 4000000 in
theorem ready_yes {v0 : Value} {x y t : F} (h0 : IsFs rE v0 [x, y, 0, t]) (w : World) :
    Calls Try.prog 59 #[v0] w fun e w' => ∃ r, e = .returned r ∧ IsFs rE r [0, fn 1, fn 1, 0 * fn 1] ∧ Below w.heap.size w w' := by
  go_enter Try.func59, Try.ntmps59
  have hbel : Below w.heap.size w w := Below.refl _ _
  have hbel0 := hbel
  go_upto_region 0 with fail
  refine wp_region_turn (fun u => #[v0, u 0, u 1, undef, undef, undef, undef, undef, undef, undef, undef]) (Holds [.box rE [x, y, 0, t], .new 20] w) (Keep [.box rE [x, y, 0, t], .new 20] w) (fun _ => undef) ?_ (by rfl) Keep.start (holds_soft (by kernel_rfl)) ?_ ?_
  · intro u i v h
    rcases i with _ | _ | i
    all_goals first | (simp [Act.put, putV]; done) | (exfalso; simp at h; omega)
  · intro hs
    refine ⟨?_, ?_, trivial⟩
    · exact step_box hs (wants_none rfl) rfl rfl (gives_c h0 (fun _ => rfl))
    · exact step_alloc hs (wants_none rfl) rfl rfl (by omega) rfl allocP
  intro L0 u0 W0 hall hJ hG
  obtain ⟨q1, e1, ⟨hq1, _⟩, ht1, hm1⟩ := (show ∃ g, u0 0 = .pointer (some ⟨g, 0, none⟩) ∧ (w.heap.size ≤ g ∧ g < W0.heap.size) ∧ W0.there g 0 20 ∧ HasFs rE W0 g 0 [x, y, 0, t] from hG 0 (by simp))
  have hq1 : w.heap.size ≤ q1 := by have := hbel0.size; omega
  have E1 := Lib.hid e1; clear e1
  obtain ⟨q2, e2, hq2, _, ht2⟩ := (show ∃ g, u0 1 = .pointer (some ⟨g, 0, none⟩) ∧ w.heap.size ≤ g ∧ 0 < 20 ∧ W0.there g 0 20 from hG 1 (by simp))
  have hq2 : w.heap.size ≤ q2 := by have := hbel0.size; omega
  have E2 := Lib.hid e2; clear e2
  have hb := hJ.all rfl
  have hbel := Below.call hbel hb
  have HN1_2 := Lib.hid (show q1 ≠ q2 from fun e => hJ.apart 0 1 _ (by omega) (hall _ (by simp)) (hall _ (by simp)) rfl rfl (E1.out.trans (by rw [e])) E2.out)
  have hbel0 := hbel
  clear hJ hG hall hb
  go_upto_region 1 with fail
  refine wp_region_turn (fun u => #[v0, u0 0, u0 1, u 0, u 1, u 2, u 3, undef, undef, undef, undef]) (Holds [.ptr q1 10, .val rE [0], .val rE [0], .oth (fun v => v = .bool true)] W0) (Keep [.ptr q1 10, .val rE [0], .val rE [0], .oth (fun v => v = .bool true)] W0) (fun _ => undef) ?_ (by rfl) Keep.start (holds_soft (by kernel_rfl)) ?_ ?_
  · intro u i v h
    rcases i with _ | _ | _ | _ | i
    all_goals first | (simp [Act.put, putV]; done) | (exfalso; simp at h; omega)
  · intro hs
    refine ⟨?_, ?_, ?_, ?_, trivial⟩
    · exact step_field hs (wants_none rfl) rfl rfl (fun _ => E1.out) (field_P2 _)
    · exact step_loadF 0 q1 10 hs (wants_none rfl) rfl rfl tyE (fun _ => rfl) rfl (by kernel_rfl) hm1.lt (hm1.fld 2 1) (noSto_apart (by kernel_rfl))
    · exact step_pure hs (wants_none rfl) rfl fun L u W hG hdep => run_build0 rfl (buildE0 W)
    · refine step_callO hs (wants_none rfl) rfl fun L u W hJ hG hL hdep K hK => ?_
      have a0 := (show IsFs rE (u 1) [0] from hG 1 (hdep 1 (by kernel_rfl)))
      have a1 := (show IsFs rE (u 2) [0] from hG 2 (hdep 2 (by kernel_rfl)))
      go_simp
      go_at_call 44
      (with_reducible refine (cSame (b := true) (decide_eq_true rfl) a0 a1 _).mono ?_); rintro e w1 ⟨rfl, hb⟩
      have hk := hK.out _ _ rfl hb
      exact hk
  intro L1 u1 W1 hall hJ hG
  have hb := hJ.all rfl
  have hbel := Below.call hbel hb
  have hm1 := hm1.later hb
  have ht1 := there_later ht1 hb
  have ht2 := there_later ht2 hb
  have HC6 := Lib.hid (show u1 3 = .bool true from hG 3 (by simp))
  have hbel0 := hbel
  clear hJ hG hall hb
  have hx : u1 3 = .bool true := HC6.out
  go_wp2_with fail
  rw [hx]
  clear hx
  go_upto_region 2 with fail
  refine wp_region_turn (fun u => #[v0, u0 0, u0 1, u1 0, u1 1, u1 2, .bool true, u 0, u 1, u 2, undef]) (Holds [.val rE [0], .val rE [fn 1], .val rE [0, fn 1, fn 1, 0 * (fn 1)], .sto q2 rE [0, fn 1, fn 1, 0 * (fn 1)]] W1) (Keep [.val rE [0], .val rE [fn 1], .val rE [0, fn 1, fn 1, 0 * (fn 1)], .sto q2 rE [0, fn 1, fn 1, 0 * (fn 1)]] W1) (fun _ => undef) ?_ (by rfl) Keep.start (holds_soft (by kernel_rfl)) ?_ ?_
  · intro u i v h
    rcases i with _ | _ | _ | _ | i
    all_goals first | (simp [Act.put, putV]; done) | (exfalso; simp at h; omega)
  · intro hs
    refine ⟨?_, ?_, ?_, ?_, trivial⟩
    · exact step_pure hs (wants_none rfl) rfl fun L u W hG hdep => run_build0 rfl (buildE0 W)
    · refine step_call hs (wants_none rfl) rfl fun L u W hJ hG hL hdep K hK => ?_
      go_simp
      go_at_call 37
      (with_reducible refine (cSmallI (n := 1) (z := 1) rfl (by omega) _).mono ?_); rintro e w1 ⟨r, rfl, hr, hb⟩
      have hk := hK.out _ _ hr hb
      exact hk
    · refine step_call hs (wants_none rfl) rfl fun L u W hJ hG hL hdep K hK => ?_
      have a0 := (show IsFs rE (u 0) [0] from hG 0 (hdep 0 (by kernel_rfl)))
      have a1 := (show IsFs rE (u 1) [fn 1] from hG 1 (hdep 1 (by kernel_rfl)))
      go_simp
      go_at_call 45
      (with_reducible refine (cPoint a0 a1 _).mono ?_); rintro e w1 ⟨r, rfl, hr, hb⟩
      have hk := hK.out _ _ hr hb
      exact hk
    · refine step_storeO q2 20 hs (wants_none rfl) rfl rfl (by kernel_rfl) (fun k hk => ?_) (fun _ => E2.out) (there_lt ht2 (by omega)) ht2 (gives_op 2 rfl (by kernel_rfl) (fun _ => rfl)) tyP4 rfl
      rcases k with _ | _ | _ | _ | k
      all_goals first | (exact absurd rfl hk) | (intro e; cases e; done)
  intro L2 u2 W2 hall hJ hG
  have hb : Below w.heap.size W1 W2 := hJ.below (by have := hbel.size; omega) (fun k b hf => by rcases k with _ | _ | _ | _ | k <;> first | (cases hf; done) | (cases hf; omega))
  have hbel := hbel.trans hb
  have hm1 := hm1.blk (hJ.block _ (hm1.lt) (fun k hk => by rcases k with _ | _ | _ | _ | k <;> first | (cases hk; done) | (cases hk; exact absurd rfl (Ne.symm HN1_2.out))))
  have ht1 := there_blk ht1 (hJ.block _ (there_lt ht1 (by omega)) (fun k hk => by rcases k with _ | _ | _ | _ | k <;> first | (cases hk; done) | (cases hk; exact absurd rfl (Ne.symm HN1_2.out))))
  obtain ⟨_, hs2_3t, hs2_3⟩ := (show _ ∧ W2.there q2 0 20 ∧ HasFs rE W2 q2 0 [0, fn 1, fn 1, 0 * (fn 1)] from hG 3 (by simp))
  have hbel0 := hbel
  clear hJ hG hall hb
  go_wp2
  exact ret_cell1 (R := rE) Try.results59 (by exact E2.out) hs2_3 tyP4 rfl (fun r hr => ⟨r, rfl, hr, hbel⟩)
theorem cReady {v : Value} {P : EP} (h : IsFs rP v [P]) (w : World) :
    Calls Try.prog 59 #[v] w fun e w' => ∃ r, e = .returned r ∧ IsFs rPr r [P] ∧ Below w.heap.size w w' := by
  obtain ⟨x, y, z, t, hn, hp⟩ := of_isP h
  rcases hp with hp | ⟨rfl, rfl⟩
  · exact (ready_no hn hp.p.z w).mono fun _ _ ⟨r, he, hr, hb⟩ => ⟨r, he, isPr hr hp, hb⟩
  · exact (ready_yes hn w).mono fun _ _ ⟨r, he, hr, hb⟩ => ⟨r, he, isPr hr (by rw [show (0 : F) * fn 1 = 0 by decide +kernel, show fn 1 = (1 : F) from rfl]; exact Pext.zero), hb⟩
theorem d_is : -fn 121665 * finv (fn 121666) = dE := by
  have h1 := dE_eq
  have h2 : fn 121665 + 1 = fn 121666 := by decide +kernel
  rw [h2] at h1
  have h3 := finv_mul (x := fn 121666) (by decide +kernel)
  rw [← h1]
  generalize finv (fn 121666) = u at *
  generalize fn 121666 = v at *
  generalize dE = d at *
  clear h1 h2
  grind
set_option maxRecDepth 100000 in
set_option maxHeartbeats 4000000 in
theorem d_any  (w : World) :
    Calls Try.prog 40 #[] w fun e w' => ∃ r, e = .returned r ∧ IsFs rE r [-fn 121665 * finv (fn 121666)] ∧ Below w.heap.size w w' := by
  go_enter Try.func40, Try.ntmps40
  have hbel : Below w.heap.size w w := Below.refl _ _
  have hbel0 := hbel
  go_upto_region 0 with fail
  refine wp_region_turn (fun u => #[u 0, undef, undef, undef, undef, undef]) (Holds [.new 5] w) (Keep [.new 5] w) (fun _ => undef) ?_ (by rfl) Keep.start (holds_soft (by kernel_rfl)) ?_ ?_
  · intro u i v h
    rcases i with _ | i
    all_goals first | (simp [Act.put, putV]; done) | (exfalso; simp at h; omega)
  · intro hs
    refine ⟨?_, trivial⟩
    · exact step_alloc hs (wants_none rfl) rfl rfl (by omega) rfl allocE
  intro L0 u0 W0 hall hJ hG
  obtain ⟨q0, e0, hq0, _, ht0⟩ := (show ∃ g, u0 0 = .pointer (some ⟨g, 0, none⟩) ∧ w.heap.size ≤ g ∧ 0 < 5 ∧ W0.there g 0 5 from hG 0 (by simp))
  have hq0 : w.heap.size ≤ q0 := by have := hbel0.size; omega
  have E0 := Lib.hid e0; clear e0
  have hb := hJ.all rfl
  have hbel := Below.call hbel hb
  have hbel0 := hbel
  clear hJ hG hall hb
  go_upto_region 1 with fail
  refine wp_region_turn (fun u => #[u0 0, u 0, u 1, u 2, u 3, u 4]) (Holds [.val rE [fn 121665], .val rE [-(fn 121665)], .val rE [fn 121666], .val rE [finv (fn 121666)], .val rE [(-(fn 121665)) * (finv (fn 121666))], .sto q0 rE [(-(fn 121665)) * (finv (fn 121666))]] W0) (Keep [.val rE [fn 121665], .val rE [-(fn 121665)], .val rE [fn 121666], .val rE [finv (fn 121666)], .val rE [(-(fn 121665)) * (finv (fn 121666))], .sto q0 rE [(-(fn 121665)) * (finv (fn 121666))]] W0) (fun _ => undef) ?_ (by rfl) Keep.start (holds_soft (by kernel_rfl)) ?_ ?_
  · intro u i v h
    rcases i with _ | _ | _ | _ | _ | _ | i
    all_goals first | (simp [Act.put, putV]; done) | (exfalso; simp at h; omega)
  · intro hs
    refine ⟨?_, ?_, ?_, ?_, ?_, ?_, trivial⟩
    · refine step_call hs (wants_none rfl) rfl fun L u W hJ hG hL hdep K hK => ?_
      go_simp
      go_at_call 37
      (with_reducible refine (cSmallI (n := 121665) (z := 121665) rfl (by omega) _).mono ?_); rintro e w1 ⟨r, rfl, hr, hb⟩
      have hk := hK.out _ _ hr hb
      exact hk
    · refine step_call hs (wants_none rfl) rfl fun L u W hJ hG hL hdep K hK => ?_
      have a0 := (show IsFs rE (u 0) [fn 121665] from hG 0 (hdep 0 (by kernel_rfl)))
      go_simp
      go_at_call 47
      (with_reducible refine (cNeg a0 _).mono ?_); rintro e w1 ⟨r, rfl, hr, hb⟩
      have hk := hK.out _ _ hr hb
      exact hk
    · refine step_call hs (wants_none rfl) rfl fun L u W hJ hG hL hdep K hK => ?_
      go_simp
      go_at_call 37
      (with_reducible refine (cSmallI (n := 121666) (z := 121666) rfl (by omega) _).mono ?_); rintro e w1 ⟨r, rfl, hr, hb⟩
      have hk := hK.out _ _ hr hb
      exact hk
    · refine step_call hs (wants_none rfl) rfl fun L u W hJ hG hL hdep K hK => ?_
      have a0 := (show IsFs rE (u 2) [fn 121666] from hG 2 (hdep 2 (by kernel_rfl)))
      go_simp
      go_at_call 42
      (with_reducible refine (cInv a0 _).mono ?_); rintro e w1 ⟨r, rfl, hr, hb⟩
      have hk := hK.out _ _ hr hb
      exact hk
    · refine step_call hs (wants_none rfl) rfl fun L u W hJ hG hL hdep K hK => ?_
      have a0 := (show IsFs rE (u 1) [-(fn 121665)] from hG 1 (hdep 1 (by kernel_rfl)))
      have a1 := (show IsFs rE (u 3) [finv (fn 121666)] from hG 3 (hdep 3 (by kernel_rfl)))
      go_simp
      go_at_call 38
      (with_reducible refine (cMul a0 a1 _).mono ?_); rintro e w1 ⟨r, rfl, hr, hb⟩
      have hk := hK.out _ _ hr hb
      exact hk
    · refine step_storeO q0 5 hs (wants_none rfl) rfl rfl (by kernel_rfl) (fun k hk => ?_) (fun _ => E0.out) (there_lt ht0 (by omega)) ht0 (gives_op 4 rfl (by kernel_rfl) (fun _ => rfl)) tyE rfl
      rcases k with _ | _ | _ | _ | _ | _ | k
      all_goals first | (exact absurd rfl hk) | (intro e; cases e; done)
  intro L1 u1 W1 hall hJ hG
  have hb : Below w.heap.size W0 W1 := hJ.below (by have := hbel.size; omega) (fun k b hf => by rcases k with _ | _ | _ | _ | _ | _ | k <;> first | (cases hf; done) | (cases hf; omega))
  have hbel := hbel.trans hb
  obtain ⟨_, hs1_5t, hs1_5⟩ := (show _ ∧ W1.there q0 0 5 ∧ HasFs rE W1 q0 0 [(-(fn 121665)) * (finv (fn 121666))] from hG 5 (by simp))
  have hbel0 := hbel
  clear hJ hG hall hb
  go_wp2
  exact ret_cell1 (R := rE) Try.results40 (by exact E0.out) hs1_5 tyE rfl (fun r hr => ⟨r, rfl, hr, hbel⟩)
theorem cD (w : World) : Calls Try.prog 40 #[] w fun e w' => ∃ r, e = .returned r ∧ IsFs rE r [dE] ∧ Below w.heap.size w w' := by
  have h := d_any w
  rw [d_is] at h
  exact h
def twB : List UInt8 := [0x59, 0xf1, 0xb2, 0x26, 0x94, 0x9b, 0xd6, 0xeb, 0x56, 0xb1, 0x83, 0x82, 0x9a, 0x14, 0xe0, 0x00, 0x30, 0xd1, 0xf3, 0xee, 0xf2, 0x80, 0x8e, 0x19, 0xe7, 0xfc, 0xdf, 0x56, 0xdc, 0xd9, 0x06, 0x24]
theorem twB_is : feF twB = dE2 := by decide +kernel
theorem twB_len : twB.length = 32 := rfl
theorem twB_cells : [.int .u8 89, .int .u8 241, .int .u8 178, .int .u8 38, .int .u8 148, .int .u8 155, .int .u8 214, .int .u8 235, .int .u8 86, .int .u8 177, .int .u8 131, .int .u8 130, .int .u8 154, .int .u8 20, .int .u8 224, .int .u8 0, .int .u8 48, .int .u8 209, .int .u8 243, .int .u8 238, .int .u8 242, .int .u8 128, .int .u8 142, .int .u8 25, .int .u8 231, .int .u8 252, .int .u8 223, .int .u8 86, .int .u8 220, .int .u8 217, .int .u8 6, .int .u8 36] = twB.map bV := by simp [twB, bV]
theorem twB_run (w : World) : (Instr.build 52 #[(0, .int .u8 89), (1, .int .u8 241), (2, .int .u8 178), (3, .int .u8 38), (4, .int .u8 148), (5, .int .u8 155), (6, .int .u8 214), (7, .int .u8 235), (8, .int .u8 86), (9, .int .u8 177), (10, .int .u8 131), (11, .int .u8 130), (12, .int .u8 154), (13, .int .u8 20), (14, .int .u8 224), (15, .int .u8 0), (16, .int .u8 48), (17, .int .u8 209), (18, .int .u8 243), (19, .int .u8 238), (20, .int .u8 242), (21, .int .u8 128), (22, .int .u8 142), (23, .int .u8 25), (24, .int .u8 231), (25, .int .u8 252), (26, .int .u8 223), (27, .int .u8 86), (28, .int .u8 220), (29, .int .u8 217), (30, .int .u8 6), (31, .int .u8 36)]).run Try.prog w = .ok (.agg #[.int .u8 89, .int .u8 241, .int .u8 178, .int .u8 38, .int .u8 148, .int .u8 155, .int .u8 214, .int .u8 235, .int .u8 86, .int .u8 177, .int .u8 131, .int .u8 130, .int .u8 154, .int .u8 20, .int .u8 224, .int .u8 0, .int .u8 48, .int .u8 209, .int .u8 243, .int .u8 238, .int .u8 242, .int .u8 128, .int .u8 142, .int .u8 25, .int .u8 231, .int .u8 252, .int .u8 223, .int .u8 86, .int .u8 220, .int .u8 217, .int .u8 6, .int .u8 36]) w := by kernel_rfl
theorem twB_build {a : Act} {o : Oper} {w : World} (ho : o.op = .build 52 #[(0, .const (.int .u8 89)), (1, .const (.int .u8 241)), (2, .const (.int .u8 178)), (3, .const (.int .u8 38)), (4, .const (.int .u8 148)), (5, .const (.int .u8 155)), (6, .const (.int .u8 214)), (7, .const (.int .u8 235)), (8, .const (.int .u8 86)), (9, .const (.int .u8 177)), (10, .const (.int .u8 131)), (11, .const (.int .u8 130)), (12, .const (.int .u8 154)), (13, .const (.int .u8 20)), (14, .const (.int .u8 224)), (15, .const (.int .u8 0)), (16, .const (.int .u8 48)), (17, .const (.int .u8 209)), (18, .const (.int .u8 243)), (19, .const (.int .u8 238)), (20, .const (.int .u8 242)), (21, .const (.int .u8 128)), (22, .const (.int .u8 142)), (23, .const (.int .u8 25)), (24, .const (.int .u8 231)), (25, .const (.int .u8 252)), (26, .const (.int .u8 223)), (27, .const (.int .u8 86)), (28, .const (.int .u8 220)), (29, .const (.int .u8 217)), (30, .const (.int .u8 6)), (31, .const (.int .u8 36))]) : ∃ v, (execOp a.eval o).run Try.prog w = .ok (.value v) w ∧ IsFs rB32 v [twB] := by
  refine ⟨.agg #[.int .u8 89, .int .u8 241, .int .u8 178, .int .u8 38, .int .u8 148, .int .u8 155, .int .u8 214, .int .u8 235, .int .u8 86, .int .u8 177, .int .u8 131, .int .u8 130, .int .u8 154, .int .u8 20, .int .u8 224, .int .u8 0, .int .u8 48, .int .u8 209, .int .u8 243, .int .u8 238, .int .u8 242, .int .u8 128, .int .u8 142, .int .u8 25, .int .u8 231, .int .u8 252, .int .u8 223, .int .u8 86, .int .u8 220, .int .u8 217, .int .u8 6, .int .u8 36], ?_, _, rfl, Lims.single (R := rB32) ⟨twB_len, twB_cells⟩⟩
  unfold execOp
  simp only [ho]
  simp [Act.eval, twB_run]
set_option maxRecDepth 100000 in
set_option maxHeartbeats 4000000 in
theorem cTwice  (w : World) :
    Calls Try.prog 64 #[] w fun e w' => ∃ r, e = .returned r ∧ IsFs rE r [dE2] ∧ Below w.heap.size w w' := by
  go_enter Try.func64, Try.ntmps64
  have hbel : Below w.heap.size w w := Below.refl _ _
  have hbel0 := hbel
  go_upto_region 0 with fail
  refine wp_region_turn (fun u => #[u 0, undef, undef, undef, undef]) (Holds [.new 5] w) (Keep [.new 5] w) (fun _ => undef) ?_ (by rfl) Keep.start (holds_soft (by kernel_rfl)) ?_ ?_
  · intro u i v h
    rcases i with _ | i
    all_goals first | (simp [Act.put, putV]; done) | (exfalso; simp at h; omega)
  · intro hs
    refine ⟨?_, trivial⟩
    · exact step_alloc hs (wants_none rfl) rfl rfl (by omega) rfl allocE
  intro L0 u0 W0 hall hJ hG
  obtain ⟨q0, e0, hq0, _, ht0⟩ := (show ∃ g, u0 0 = .pointer (some ⟨g, 0, none⟩) ∧ w.heap.size ≤ g ∧ 0 < 5 ∧ W0.there g 0 5 from hG 0 (by simp))
  have hq0 : w.heap.size ≤ q0 := by have := hbel0.size; omega
  have E0 := Lib.hid e0; clear e0
  have hb := hJ.all rfl
  have hbel := Below.call hbel hb
  have hbel0 := hbel
  clear hJ hG hall hb
  go_upto_region 1 with fail
  refine wp_region_turn (fun u => #[u0 0, u 1, u 0, undef, undef]) (Holds [.val rB32 [twB], .new 32, .st 1 rB32 [twB]] W0) (Keep [.val rB32 [twB], .new 32, .st 1 rB32 [twB]] W0) (fun _ => undef) ?_ (by rfl) Keep.start (holds_soft (by kernel_rfl)) ?_ ?_
  · intro u i v h
    rcases i with _ | _ | _ | i
    all_goals first | (simp [Act.put, putV]; done) | (exfalso; simp at h; omega)
  · intro hs
    refine ⟨?_, ?_, ?_, trivial⟩
    · exact step_pure hs (wants_none rfl) rfl fun L u W hG hdep => twB_build rfl
    · exact step_alloc hs (wants_none rfl) rfl rfl (by omega) rfl alloca32
    · exact step_store 1 hs (by kernel_rfl) (wants_none rfl) rfl rfl rfl (by kernel_rfl) (by kernel_rfl) (by kernel_rfl) (by kernel_rfl) (fun _ => rfl) (gives_op 0 rfl (by kernel_rfl) (fun _ => rfl)) tya32 rfl
  intro L1 u1 W1 hall hJ hG
  obtain ⟨q1, e1, hq1, _, ht1⟩ := (show ∃ g, u1 1 = .pointer (some ⟨g, 0, none⟩) ∧ W0.heap.size ≤ g ∧ 0 < 32 ∧ W1.there g 0 32 from hG 1 (by simp))
  have hm1 : HasFs rB32 W1 q1 0 [twB] := by
    obtain ⟨g, e, _, h⟩ := (show ∃ g, u1 1 = .pointer (some ⟨g, 0, none⟩) ∧ W0.heap.size ≤ g ∧ HasFs rB32 W1 g 0 [twB] from hG 2 (by simp))
    rw [e1] at e; cases e; exact h
  have HD1_q0 := Lib.hid (show q0 ≠ q1 by have := there_lt ht0 (by omega); omega)
  have hq1 : w.heap.size ≤ q1 := by have := hbel0.size; omega
  have E1 := Lib.hid e1; clear e1
  have hb := hJ.all rfl
  have hbel := Below.call hbel hb
  have ht0 := there_later ht0 hb
  have hbel0 := hbel
  clear hJ hG hall hb
  go_upto_region 2 with fail
  refine wp_region_turn (fun u => #[u0 0, u1 1, u1 0, u 0, u 1]) (Holds [.oth (fun v => v = .slice (some ⟨q1, 0, none⟩) 32 32), .val rE [dE2], .sto q0 rE [dE2]] W1) (Keep [.oth (fun v => v = .slice (some ⟨q1, 0, none⟩) 32 32), .val rE [dE2], .sto q0 rE [dE2]] W1) (fun _ => undef) ?_ (by rfl) Keep.start (holds_soft (by kernel_rfl)) ?_ ?_
  · intro u i v h
    rcases i with _ | _ | _ | i
    all_goals first | (simp [Act.put, putV]; done) | (exfalso; simp at h; omega)
  · intro hs
    refine ⟨?_, ?_, ?_, trivial⟩
    · refine step_pureO hs (wants_none rfl) rfl fun L u W hG hdep => ⟨_, ?_, rfl⟩
      have e0 := E1.out
      go_simp
    · refine step_call hs (wants_none rfl) rfl fun L u W hJ hG hL hdep K hK => ?_
      have x0 := (show u 0 = .slice (some ⟨q1, 0, none⟩) 32 32 from hG 0 (hdep 0 (by kernel_rfl)))
      have hRB0 := (hm1.blk (hJ.block _ hm1.lt (fun k hk => by rcases k with _ | _ | _ | k <;> first | (cases hk; done) | (cases hk; exact absurd rfl HD1_q0.out)))).rdb
      go_simp
      go_at_call 81
      (with_reducible refine (cOf' twB_is hRB0).mono ?_); rintro e w1 ⟨r, rfl, hr, hb⟩
      have hk := hK.out _ _ hr hb
      simp only [x0] at hk
      exact hk
    · refine step_storeO q0 5 hs (wants_none rfl) rfl rfl (by kernel_rfl) (fun k hk => ?_) (fun _ => E0.out) (there_lt ht0 (by omega)) ht0 (gives_op 1 rfl (by kernel_rfl) (fun _ => rfl)) tyE rfl
      rcases k with _ | _ | _ | k
      all_goals first | (exact absurd rfl hk) | (intro e; cases e; done)
  intro L2 u2 W2 hall hJ hG
  have hb : Below w.heap.size W1 W2 := hJ.below (by have := hbel.size; omega) (fun k b hf => by rcases k with _ | _ | _ | k <;> first | (cases hf; done) | (cases hf; omega))
  have hbel := hbel.trans hb
  have hm1 := hm1.blk (hJ.block _ (hm1.lt) (fun k hk => by rcases k with _ | _ | _ | k <;> first | (cases hk; done) | (cases hk; exact absurd rfl HD1_q0.out)))
  have ht1 := there_blk ht1 (hJ.block _ (there_lt ht1 (by omega)) (fun k hk => by rcases k with _ | _ | _ | k <;> first | (cases hk; done) | (cases hk; exact absurd rfl HD1_q0.out)))
  obtain ⟨_, hs2_2t, hs2_2⟩ := (show _ ∧ W2.there q0 0 5 ∧ HasFs rE W2 q0 0 [dE2] from hG 2 (by simp))
  have hbel0 := hbel
  clear hJ hG hall hb
  go_wp2
  exact ret_cell1 (R := rE) Try.results64 (by exact E0.out) hs2_2 tyE rfl (fun r hr => ⟨r, rfl, hr, hbel⟩)
set_option maxRecDepth 100000 in
set_option maxHeartbeats 4000000 in
theorem sum_any {v0 v1 v2 : Value} {X Y Z T X' Y' Z' T' D : F} (h0 : IsFs rE v0 [X, Y, Z, T]) (h1 : IsFs rE v1 [X', Y', Z', T']) (h2 : IsFs rE v2 [D]) (w : World) :
    Calls Try.prog 65 #[v0, v1, v2] w fun e w' => ∃ r, e = .returned r ∧ IsFs rE r [(((Y + X) * (Y' + X')) - ((Y - X) * (Y' - X'))) * (((Z * Z') + (Z * Z')) - ((T * D) * T')), (((Z * Z') + (Z * Z')) + ((T * D) * T')) * (((Y + X) * (Y' + X')) + ((Y - X) * (Y' - X'))), (((Z * Z') + (Z * Z')) - ((T * D) * T')) * (((Z * Z') + (Z * Z')) + ((T * D) * T')), (((Y + X) * (Y' + X')) - ((Y - X) * (Y' - X'))) * (((Y + X) * (Y' + X')) + ((Y - X) * (Y' - X')))] ∧ Below w.heap.size w w' := by
  go_enter Try.func65, Try.ntmps65
  have hbel : Below w.heap.size w w := Below.refl _ _
  have hbel0 := hbel
  go_upto_region 0 with fail
  refine wp_region_turn (fun u => (v0 :: v1 :: v2 :: u 0 :: u 1 :: u 2 :: u 3 :: undef :: undef :: undef :: undef :: undef :: undef :: undef :: undef :: undef :: undef :: undef :: undef :: undef :: undef :: undef :: undef :: undef :: undef :: undef :: undef :: undef :: undef :: undef :: undef :: undef :: undef :: undef :: undef :: undef :: undef :: undef :: undef :: undef :: undef :: undef :: undef :: undef :: undef :: undef :: undef :: undef :: undef :: undef :: undef :: undef :: undef :: undef :: undef :: undef :: undef :: undef :: undef :: undef :: undef :: undef :: undef :: undef :: undef :: undef :: undef :: undef :: undef :: undef :: undef :: undef :: undef :: undef :: undef :: undef :: undef :: []).toArray) (Holds [.box rE [X, Y, Z, T], .box rE [X', Y', Z', T'], .box rE [D], .new 20] w) (Keep [.box rE [X, Y, Z, T], .box rE [X', Y', Z', T'], .box rE [D], .new 20] w) (fun _ => undef) ?_ (by rfl) Keep.start (holds_soft (by kernel_rfl)) ?_ ?_
  · intro u i v h
    rcases i with _ | _ | _ | _ | i
    all_goals first | (simp [Act.put, putV]; done) | (exfalso; simp at h; omega)
  · intro hs
    refine ⟨?_, ?_, ?_, ?_, trivial⟩
    · exact step_box hs (wants_none rfl) rfl rfl (gives_c h0 (fun _ => rfl))
    · exact step_box hs (wants_none rfl) rfl rfl (gives_c h1 (fun _ => rfl))
    · exact step_box hs (wants_none rfl) rfl rfl (gives_c h2 (fun _ => rfl))
    · exact step_alloc hs (wants_none rfl) rfl rfl (by omega) rfl allocP
  intro L0 u0 W0 hall hJ hG
  obtain ⟨q3, e3, ⟨hq3, _⟩, ht3, hm3⟩ := (show ∃ g, u0 0 = .pointer (some ⟨g, 0, none⟩) ∧ (w.heap.size ≤ g ∧ g < W0.heap.size) ∧ W0.there g 0 20 ∧ HasFs rE W0 g 0 [X, Y, Z, T] from hG 0 (by simp))
  have hq3 : w.heap.size ≤ q3 := by have := hbel0.size; omega
  have E3 := Lib.hid e3; clear e3
  obtain ⟨q4, e4, ⟨hq4, _⟩, ht4, hm4⟩ := (show ∃ g, u0 1 = .pointer (some ⟨g, 0, none⟩) ∧ (w.heap.size ≤ g ∧ g < W0.heap.size) ∧ W0.there g 0 20 ∧ HasFs rE W0 g 0 [X', Y', Z', T'] from hG 1 (by simp))
  have hq4 : w.heap.size ≤ q4 := by have := hbel0.size; omega
  have E4 := Lib.hid e4; clear e4
  obtain ⟨q5, e5, ⟨hq5, _⟩, ht5, hm5⟩ := (show ∃ g, u0 2 = .pointer (some ⟨g, 0, none⟩) ∧ (w.heap.size ≤ g ∧ g < W0.heap.size) ∧ W0.there g 0 5 ∧ HasFs rE W0 g 0 [D] from hG 2 (by simp))
  have hq5 : w.heap.size ≤ q5 := by have := hbel0.size; omega
  have E5 := Lib.hid e5; clear e5
  obtain ⟨q6, e6, hq6, _, ht6⟩ := (show ∃ g, u0 3 = .pointer (some ⟨g, 0, none⟩) ∧ w.heap.size ≤ g ∧ 0 < 20 ∧ W0.there g 0 20 from hG 3 (by simp))
  have hq6 : w.heap.size ≤ q6 := by have := hbel0.size; omega
  have E6 := Lib.hid e6; clear e6
  have hb := hJ.all rfl
  have hbel := Below.call hbel hb
  have HN3_4 := Lib.hid (show q3 ≠ q4 from fun e => hJ.apart 0 1 _ (by omega) (hall _ (by simp)) (hall _ (by simp)) rfl rfl (E3.out.trans (by rw [e])) E4.out)
  have HN3_5 := Lib.hid (show q3 ≠ q5 from fun e => hJ.apart 0 2 _ (by omega) (hall _ (by simp)) (hall _ (by simp)) rfl rfl (E3.out.trans (by rw [e])) E5.out)
  have HN3_6 := Lib.hid (show q3 ≠ q6 from fun e => hJ.apart 0 3 _ (by omega) (hall _ (by simp)) (hall _ (by simp)) rfl rfl (E3.out.trans (by rw [e])) E6.out)
  have HN4_5 := Lib.hid (show q4 ≠ q5 from fun e => hJ.apart 1 2 _ (by omega) (hall _ (by simp)) (hall _ (by simp)) rfl rfl (E4.out.trans (by rw [e])) E5.out)
  have HN4_6 := Lib.hid (show q4 ≠ q6 from fun e => hJ.apart 1 3 _ (by omega) (hall _ (by simp)) (hall _ (by simp)) rfl rfl (E4.out.trans (by rw [e])) E6.out)
  have HN5_6 := Lib.hid (show q5 ≠ q6 from fun e => hJ.apart 2 3 _ (by omega) (hall _ (by simp)) (hall _ (by simp)) rfl rfl (E5.out.trans (by rw [e])) E6.out)
  have hbel0 := hbel
  clear hJ hG hall hb
  go_upto_region 1 with fail
  refine wp_region_mid (fun u => (v0 :: v1 :: v2 :: u0 0 :: u0 1 :: u0 2 :: u0 3 :: u 11 :: undef :: undef :: undef :: undef :: undef :: undef :: undef :: u 0 :: u 1 :: u 2 :: u 3 :: u 4 :: u 5 :: u 6 :: u 7 :: u 8 :: u 9 :: u 10 :: undef :: undef :: undef :: undef :: undef :: undef :: undef :: undef :: undef :: undef :: undef :: undef :: undef :: undef :: undef :: undef :: undef :: undef :: undef :: undef :: undef :: undef :: undef :: undef :: undef :: undef :: undef :: undef :: undef :: undef :: undef :: undef :: undef :: undef :: undef :: undef :: undef :: undef :: undef :: undef :: undef :: undef :: undef :: undef :: undef :: undef :: undef :: undef :: undef :: undef :: undef :: []).toArray) (Holds [.ptr q3 5, .val rE [Y], .ptr q3 0, .val rE [X], .val rE [Y - X], .ptr q4 5, .val rE [Y'], .ptr q4 0, .val rE [X'], .val rE [Y' - X'], .val rE [(Y - X) * (Y' - X')], .new 5, .st 11 rE [(Y - X) * (Y' - X')]] W0) (Keep [.ptr q3 5, .val rE [Y], .ptr q3 0, .val rE [X], .val rE [Y - X], .ptr q4 5, .val rE [Y'], .ptr q4 0, .val rE [X'], .val rE [Y' - X'], .val rE [(Y - X) * (Y' - X')], .new 5, .st 11 rE [(Y - X) * (Y' - X')]] W0) (fun _ => undef) (by kernel_rfl) (by kernel_rfl) ?_ (by rfl) Keep.drew (holds_soft (by kernel_rfl)) ?_ ?_
  · intro u i v h
    rcases i with _ | _ | _ | _ | _ | _ | _ | _ | _ | _ | _ | _ | _ | i
    all_goals first | (simp [Act.put, putV]; done) | (exfalso; simp at h; omega)
  · intro hs
    refine ⟨?_, ?_, ?_, ?_, ?_, ?_, ?_, ?_, ?_, ?_, ?_, ?_, ?_, trivial⟩
    · exact step_field hs (wants_none rfl) rfl rfl (fun _ => E3.out) (field_P1 _)
    · exact step_loadF 0 q3 5 hs (wants_none rfl) rfl rfl tyE (fun _ => rfl) rfl (by kernel_rfl) hm3.lt (hm3.fld 1 1) (noSto_apart (by kernel_rfl))
    · exact step_field hs (wants_none rfl) rfl rfl (fun _ => E3.out) (field_P0 _)
    · exact step_loadF 2 q3 0 hs (wants_none rfl) rfl rfl tyE (fun _ => rfl) rfl (by kernel_rfl) hm3.lt (hm3.fld 0 1) (noSto_apart (by kernel_rfl))
    · refine step_call hs (wants_none rfl) rfl fun L u W hJ hG hL hdep K hK => ?_
      have a0 := (show IsFs rE (u 1) [Y] from hG 1 (hdep 1 (by kernel_rfl)))
      have a1 := (show IsFs rE (u 3) [X] from hG 3 (hdep 3 (by kernel_rfl)))
      go_simp
      go_at_call 39
      (with_reducible refine (cSub a0 a1 _).mono ?_); rintro e w1 ⟨r, rfl, hr, hb⟩
      have hk := hK.out _ _ hr hb
      exact hk
    · exact step_field hs (wants_none rfl) rfl rfl (fun _ => E4.out) (field_P1 _)
    · exact step_loadF 5 q4 5 hs (wants_none rfl) rfl rfl tyE (fun _ => rfl) rfl (by kernel_rfl) hm4.lt (hm4.fld 1 1) (noSto_apart (by kernel_rfl))
    · exact step_field hs (wants_none rfl) rfl rfl (fun _ => E4.out) (field_P0 _)
    · exact step_loadF 7 q4 0 hs (wants_none rfl) rfl rfl tyE (fun _ => rfl) rfl (by kernel_rfl) hm4.lt (hm4.fld 0 1) (noSto_apart (by kernel_rfl))
    · refine step_call hs (wants_none rfl) rfl fun L u W hJ hG hL hdep K hK => ?_
      have a0 := (show IsFs rE (u 6) [Y'] from hG 6 (hdep 6 (by kernel_rfl)))
      have a1 := (show IsFs rE (u 8) [X'] from hG 8 (hdep 8 (by kernel_rfl)))
      go_simp
      go_at_call 39
      (with_reducible refine (cSub a0 a1 _).mono ?_); rintro e w1 ⟨r, rfl, hr, hb⟩
      have hk := hK.out _ _ hr hb
      exact hk
    · refine step_call hs (wants_none rfl) rfl fun L u W hJ hG hL hdep K hK => ?_
      have a0 := (show IsFs rE (u 4) [Y - X] from hG 4 (hdep 4 (by kernel_rfl)))
      have a1 := (show IsFs rE (u 9) [Y' - X'] from hG 9 (hdep 9 (by kernel_rfl)))
      go_simp
      go_at_call 38
      (with_reducible refine (cMul a0 a1 _).mono ?_); rintro e w1 ⟨r, rfl, hr, hb⟩
      have hk := hK.out _ _ hr hb
      exact hk
    · exact step_alloc hs (wants_none rfl) rfl rfl (by omega) rfl allocE
    · exact step_store 11 hs (by kernel_rfl) (wants_none rfl) rfl rfl rfl (by kernel_rfl) (by kernel_rfl) (by kernel_rfl) (by kernel_rfl) (fun _ => rfl) (gives_op 10 rfl (by kernel_rfl) (fun _ => rfl)) tyE rfl
  intro L1 u1 W1 hall hJ hG
  obtain ⟨q7, e7, hq7, _, ht7⟩ := (show ∃ g, u1 11 = .pointer (some ⟨g, 0, none⟩) ∧ W0.heap.size ≤ g ∧ 0 < 5 ∧ W1.there g 0 5 from hG 11 (by simp))
  have hm7 : HasFs rE W1 q7 0 [(Y - X) * (Y' - X')] := by
    obtain ⟨g, e, _, h⟩ := (show ∃ g, u1 11 = .pointer (some ⟨g, 0, none⟩) ∧ W0.heap.size ≤ g ∧ HasFs rE W1 g 0 [(Y - X) * (Y' - X')] from hG 12 (by simp))
    rw [e7] at e; cases e; exact h
  have HD7_q3 := Lib.hid (show q3 ≠ q7 by have := there_lt ht3 (by omega); omega)
  have HD7_q4 := Lib.hid (show q4 ≠ q7 by have := there_lt ht4 (by omega); omega)
  have HD7_q5 := Lib.hid (show q5 ≠ q7 by have := there_lt ht5 (by omega); omega)
  have HD7_q6 := Lib.hid (show q6 ≠ q7 by have := there_lt ht6 (by omega); omega)
  have hq7 : w.heap.size ≤ q7 := by have := hbel0.size; omega
  have E7 := Lib.hid e7; clear e7
  have hb := hJ.all rfl
  have hbel := Below.call hbel hb
  have hm3 := hm3.later hb
  have hm4 := hm4.later hb
  have hm5 := hm5.later hb
  have ht3 := there_later ht3 hb
  have ht4 := there_later ht4 hb
  have ht5 := there_later ht5 hb
  have ht6 := there_later ht6 hb
  have hbel0 := hbel
  clear hJ hG hall hb
  go_upto_region 2 with fail
  refine wp_region_mid (fun u => (v0 :: v1 :: v2 :: u0 0 :: u0 1 :: u0 2 :: u0 3 :: u1 11 :: u 11 :: undef :: undef :: undef :: undef :: undef :: undef :: u1 0 :: u1 1 :: u1 2 :: u1 3 :: u1 4 :: u1 5 :: u1 6 :: u1 7 :: u1 8 :: u1 9 :: u1 10 :: u 0 :: u 1 :: u 2 :: u 3 :: u 4 :: u 5 :: u 6 :: u 7 :: u 8 :: u 9 :: u 10 :: undef :: undef :: undef :: undef :: undef :: undef :: undef :: undef :: undef :: undef :: undef :: undef :: undef :: undef :: undef :: undef :: undef :: undef :: undef :: undef :: undef :: undef :: undef :: undef :: undef :: undef :: undef :: undef :: undef :: undef :: undef :: undef :: undef :: undef :: undef :: undef :: undef :: undef :: undef :: undef :: []).toArray) (Holds [.ptr q3 5, .val rE [Y], .ptr q3 0, .val rE [X], .val rE [Y + X], .ptr q4 5, .val rE [Y'], .ptr q4 0, .val rE [X'], .val rE [Y' + X'], .val rE [(Y + X) * (Y' + X')], .new 5, .st 11 rE [(Y + X) * (Y' + X')]] W1) (Keep [.ptr q3 5, .val rE [Y], .ptr q3 0, .val rE [X], .val rE [Y + X], .ptr q4 5, .val rE [Y'], .ptr q4 0, .val rE [X'], .val rE [Y' + X'], .val rE [(Y + X) * (Y' + X')], .new 5, .st 11 rE [(Y + X) * (Y' + X')]] W1) (fun _ => undef) (by kernel_rfl) (by kernel_rfl) ?_ (by rfl) Keep.drew (holds_soft (by kernel_rfl)) ?_ ?_
  · intro u i v h
    rcases i with _ | _ | _ | _ | _ | _ | _ | _ | _ | _ | _ | _ | _ | i
    all_goals first | (simp [Act.put, putV]; done) | (exfalso; simp at h; omega)
  · intro hs
    refine ⟨?_, ?_, ?_, ?_, ?_, ?_, ?_, ?_, ?_, ?_, ?_, ?_, ?_, trivial⟩
    · exact step_field hs (wants_none rfl) rfl rfl (fun _ => E3.out) (field_P1 _)
    · exact step_loadF 0 q3 5 hs (wants_none rfl) rfl rfl tyE (fun _ => rfl) rfl (by kernel_rfl) hm3.lt (hm3.fld 1 1) (noSto_apart (by kernel_rfl))
    · exact step_field hs (wants_none rfl) rfl rfl (fun _ => E3.out) (field_P0 _)
    · exact step_loadF 2 q3 0 hs (wants_none rfl) rfl rfl tyE (fun _ => rfl) rfl (by kernel_rfl) hm3.lt (hm3.fld 0 1) (noSto_apart (by kernel_rfl))
    · refine step_call hs (wants_none rfl) rfl fun L u W hJ hG hL hdep K hK => ?_
      have a0 := (show IsFs rE (u 1) [Y] from hG 1 (hdep 1 (by kernel_rfl)))
      have a1 := (show IsFs rE (u 3) [X] from hG 3 (hdep 3 (by kernel_rfl)))
      go_simp
      go_at_call 41
      (with_reducible refine (cAdd a0 a1 _).mono ?_); rintro e w1 ⟨r, rfl, hr, hb⟩
      have hk := hK.out _ _ hr hb
      exact hk
    · exact step_field hs (wants_none rfl) rfl rfl (fun _ => E4.out) (field_P1 _)
    · exact step_loadF 5 q4 5 hs (wants_none rfl) rfl rfl tyE (fun _ => rfl) rfl (by kernel_rfl) hm4.lt (hm4.fld 1 1) (noSto_apart (by kernel_rfl))
    · exact step_field hs (wants_none rfl) rfl rfl (fun _ => E4.out) (field_P0 _)
    · exact step_loadF 7 q4 0 hs (wants_none rfl) rfl rfl tyE (fun _ => rfl) rfl (by kernel_rfl) hm4.lt (hm4.fld 0 1) (noSto_apart (by kernel_rfl))
    · refine step_call hs (wants_none rfl) rfl fun L u W hJ hG hL hdep K hK => ?_
      have a0 := (show IsFs rE (u 6) [Y'] from hG 6 (hdep 6 (by kernel_rfl)))
      have a1 := (show IsFs rE (u 8) [X'] from hG 8 (hdep 8 (by kernel_rfl)))
      go_simp
      go_at_call 41
      (with_reducible refine (cAdd a0 a1 _).mono ?_); rintro e w1 ⟨r, rfl, hr, hb⟩
      have hk := hK.out _ _ hr hb
      exact hk
    · refine step_call hs (wants_none rfl) rfl fun L u W hJ hG hL hdep K hK => ?_
      have a0 := (show IsFs rE (u 4) [Y + X] from hG 4 (hdep 4 (by kernel_rfl)))
      have a1 := (show IsFs rE (u 9) [Y' + X'] from hG 9 (hdep 9 (by kernel_rfl)))
      go_simp
      go_at_call 38
      (with_reducible refine (cMul a0 a1 _).mono ?_); rintro e w1 ⟨r, rfl, hr, hb⟩
      have hk := hK.out _ _ hr hb
      exact hk
    · exact step_alloc hs (wants_none rfl) rfl rfl (by omega) rfl allocE
    · exact step_store 11 hs (by kernel_rfl) (wants_none rfl) rfl rfl rfl (by kernel_rfl) (by kernel_rfl) (by kernel_rfl) (by kernel_rfl) (fun _ => rfl) (gives_op 10 rfl (by kernel_rfl) (fun _ => rfl)) tyE rfl
  intro L2 u2 W2 hall hJ hG
  obtain ⟨q8, e8, hq8, _, ht8⟩ := (show ∃ g, u2 11 = .pointer (some ⟨g, 0, none⟩) ∧ W1.heap.size ≤ g ∧ 0 < 5 ∧ W2.there g 0 5 from hG 11 (by simp))
  have hm8 : HasFs rE W2 q8 0 [(Y + X) * (Y' + X')] := by
    obtain ⟨g, e, _, h⟩ := (show ∃ g, u2 11 = .pointer (some ⟨g, 0, none⟩) ∧ W1.heap.size ≤ g ∧ HasFs rE W2 g 0 [(Y + X) * (Y' + X')] from hG 12 (by simp))
    rw [e8] at e; cases e; exact h
  have HD8_q3 := Lib.hid (show q3 ≠ q8 by have := there_lt ht3 (by omega); omega)
  have HD8_q4 := Lib.hid (show q4 ≠ q8 by have := there_lt ht4 (by omega); omega)
  have HD8_q5 := Lib.hid (show q5 ≠ q8 by have := there_lt ht5 (by omega); omega)
  have HD8_q6 := Lib.hid (show q6 ≠ q8 by have := there_lt ht6 (by omega); omega)
  have HD8_q7 := Lib.hid (show q7 ≠ q8 by have := there_lt ht7 (by omega); omega)
  have hq8 : w.heap.size ≤ q8 := by have := hbel0.size; omega
  have E8 := Lib.hid e8; clear e8
  have hb := hJ.all rfl
  have hbel := Below.call hbel hb
  have hm3 := hm3.later hb
  have hm4 := hm4.later hb
  have hm5 := hm5.later hb
  have hm7 := hm7.later hb
  have ht3 := there_later ht3 hb
  have ht4 := there_later ht4 hb
  have ht5 := there_later ht5 hb
  have ht6 := there_later ht6 hb
  have ht7 := there_later ht7 hb
  have hbel0 := hbel
  clear hJ hG hall hb
  go_upto_region 3 with fail
  refine wp_region_mid (fun u => (v0 :: v1 :: v2 :: u0 0 :: u0 1 :: u0 2 :: u0 3 :: u1 11 :: u2 11 :: u 7 :: undef :: undef :: undef :: undef :: undef :: u1 0 :: u1 1 :: u1 2 :: u1 3 :: u1 4 :: u1 5 :: u1 6 :: u1 7 :: u1 8 :: u1 9 :: u1 10 :: u2 0 :: u2 1 :: u2 2 :: u2 3 :: u2 4 :: u2 5 :: u2 6 :: u2 7 :: u2 8 :: u2 9 :: u2 10 :: u 0 :: u 1 :: u 2 :: u 3 :: u 4 :: u 5 :: u 6 :: undef :: undef :: undef :: undef :: undef :: undef :: undef :: undef :: undef :: undef :: undef :: undef :: undef :: undef :: undef :: undef :: undef :: undef :: undef :: undef :: undef :: undef :: undef :: undef :: undef :: undef :: undef :: undef :: undef :: undef :: undef :: undef :: undef :: []).toArray) (Holds [.ptr q3 15, .val rE [T], .val rE [D], .val rE [T * D], .ptr q4 15, .val rE [T'], .val rE [(T * D) * T'], .new 5, .st 7 rE [(T * D) * T']] W2) (Keep [.ptr q3 15, .val rE [T], .val rE [D], .val rE [T * D], .ptr q4 15, .val rE [T'], .val rE [(T * D) * T'], .new 5, .st 7 rE [(T * D) * T']] W2) (fun _ => undef) (by kernel_rfl) (by kernel_rfl) ?_ (by rfl) Keep.drew (holds_soft (by kernel_rfl)) ?_ ?_
  · intro u i v h
    rcases i with _ | _ | _ | _ | _ | _ | _ | _ | _ | i
    all_goals first | (simp [Act.put, putV]; done) | (exfalso; simp at h; omega)
  · intro hs
    refine ⟨?_, ?_, ?_, ?_, ?_, ?_, ?_, ?_, ?_, trivial⟩
    · exact step_field hs (wants_none rfl) rfl rfl (fun _ => E3.out) (field_P3 _)
    · exact step_loadF 0 q3 15 hs (wants_none rfl) rfl rfl tyE (fun _ => rfl) rfl (by kernel_rfl) hm3.lt (hm3.fld 3 1) (noSto_apart (by kernel_rfl))
    · exact step_load q5 0 hs (wants_none rfl) rfl rfl tyE (fun _ => E5.out) hm5.lt hm5 (noSto_apart (by kernel_rfl))
    · refine step_call hs (wants_none rfl) rfl fun L u W hJ hG hL hdep K hK => ?_
      have a0 := (show IsFs rE (u 1) [T] from hG 1 (hdep 1 (by kernel_rfl)))
      have a1 := (show IsFs rE (u 2) [D] from hG 2 (hdep 2 (by kernel_rfl)))
      go_simp
      go_at_call 38
      (with_reducible refine (cMul a0 a1 _).mono ?_); rintro e w1 ⟨r, rfl, hr, hb⟩
      have hk := hK.out _ _ hr hb
      exact hk
    · exact step_field hs (wants_none rfl) rfl rfl (fun _ => E4.out) (field_P3 _)
    · exact step_loadF 4 q4 15 hs (wants_none rfl) rfl rfl tyE (fun _ => rfl) rfl (by kernel_rfl) hm4.lt (hm4.fld 3 1) (noSto_apart (by kernel_rfl))
    · refine step_call hs (wants_none rfl) rfl fun L u W hJ hG hL hdep K hK => ?_
      have a0 := (show IsFs rE (u 3) [T * D] from hG 3 (hdep 3 (by kernel_rfl)))
      have a1 := (show IsFs rE (u 5) [T'] from hG 5 (hdep 5 (by kernel_rfl)))
      go_simp
      go_at_call 38
      (with_reducible refine (cMul a0 a1 _).mono ?_); rintro e w1 ⟨r, rfl, hr, hb⟩
      have hk := hK.out _ _ hr hb
      exact hk
    · exact step_alloc hs (wants_none rfl) rfl rfl (by omega) rfl allocE
    · exact step_store 7 hs (by kernel_rfl) (wants_none rfl) rfl rfl rfl (by kernel_rfl) (by kernel_rfl) (by kernel_rfl) (by kernel_rfl) (fun _ => rfl) (gives_op 6 rfl (by kernel_rfl) (fun _ => rfl)) tyE rfl
  intro L3 u3 W3 hall hJ hG
  obtain ⟨q9, e9, hq9, _, ht9⟩ := (show ∃ g, u3 7 = .pointer (some ⟨g, 0, none⟩) ∧ W2.heap.size ≤ g ∧ 0 < 5 ∧ W3.there g 0 5 from hG 7 (by simp))
  have hm9 : HasFs rE W3 q9 0 [(T * D) * T'] := by
    obtain ⟨g, e, _, h⟩ := (show ∃ g, u3 7 = .pointer (some ⟨g, 0, none⟩) ∧ W2.heap.size ≤ g ∧ HasFs rE W3 g 0 [(T * D) * T'] from hG 8 (by simp))
    rw [e9] at e; cases e; exact h
  have HD9_q3 := Lib.hid (show q3 ≠ q9 by have := there_lt ht3 (by omega); omega)
  have HD9_q4 := Lib.hid (show q4 ≠ q9 by have := there_lt ht4 (by omega); omega)
  have HD9_q5 := Lib.hid (show q5 ≠ q9 by have := there_lt ht5 (by omega); omega)
  have HD9_q6 := Lib.hid (show q6 ≠ q9 by have := there_lt ht6 (by omega); omega)
  have HD9_q7 := Lib.hid (show q7 ≠ q9 by have := there_lt ht7 (by omega); omega)
  have HD9_q8 := Lib.hid (show q8 ≠ q9 by have := there_lt ht8 (by omega); omega)
  have hq9 : w.heap.size ≤ q9 := by have := hbel0.size; omega
  have E9 := Lib.hid e9; clear e9
  have hb := hJ.all rfl
  have hbel := Below.call hbel hb
  have hm3 := hm3.later hb
  have hm4 := hm4.later hb
  have hm5 := hm5.later hb
  have hm7 := hm7.later hb
  have hm8 := hm8.later hb
  have ht3 := there_later ht3 hb
  have ht4 := there_later ht4 hb
  have ht5 := there_later ht5 hb
  have ht6 := there_later ht6 hb
  have ht7 := there_later ht7 hb
  have ht8 := there_later ht8 hb
  have hbel0 := hbel
  clear hJ hG hall hb
  go_upto_region 4 with fail
  refine wp_region_turn (fun u => (v0 :: v1 :: v2 :: u0 0 :: u0 1 :: u0 2 :: u0 3 :: u1 11 :: u2 11 :: u3 7 :: u 5 :: undef :: undef :: undef :: undef :: u1 0 :: u1 1 :: u1 2 :: u1 3 :: u1 4 :: u1 5 :: u1 6 :: u1 7 :: u1 8 :: u1 9 :: u1 10 :: u2 0 :: u2 1 :: u2 2 :: u2 3 :: u2 4 :: u2 5 :: u2 6 :: u2 7 :: u2 8 :: u2 9 :: u2 10 :: u3 0 :: u3 1 :: u3 2 :: u3 3 :: u3 4 :: u3 5 :: u3 6 :: u 0 :: u 1 :: u 2 :: u 3 :: u 4 :: undef :: undef :: undef :: undef :: undef :: undef :: undef :: undef :: undef :: undef :: undef :: undef :: undef :: undef :: undef :: undef :: undef :: undef :: undef :: undef :: undef :: undef :: undef :: undef :: undef :: undef :: undef :: undef :: []).toArray) (Holds [.ptr q3 10, .val rE [Z], .ptr q4 10, .val rE [Z'], .val rE [Z * Z'], .new 5, .st 5 rE [Z * Z']] W3) (Keep [.ptr q3 10, .val rE [Z], .ptr q4 10, .val rE [Z'], .val rE [Z * Z'], .new 5, .st 5 rE [Z * Z']] W3) (fun _ => undef) ?_ (by rfl) Keep.start (holds_soft (by kernel_rfl)) ?_ ?_
  · intro u i v h
    rcases i with _ | _ | _ | _ | _ | _ | _ | i
    all_goals first | (simp [Act.put, putV]; done) | (exfalso; simp at h; omega)
  · intro hs
    refine ⟨?_, ?_, ?_, ?_, ?_, ?_, ?_, trivial⟩
    · exact step_field hs (wants_none rfl) rfl rfl (fun _ => E3.out) (field_P2 _)
    · exact step_loadF 0 q3 10 hs (wants_none rfl) rfl rfl tyE (fun _ => rfl) rfl (by kernel_rfl) hm3.lt (hm3.fld 2 1) (noSto_apart (by kernel_rfl))
    · exact step_field hs (wants_none rfl) rfl rfl (fun _ => E4.out) (field_P2 _)
    · exact step_loadF 2 q4 10 hs (wants_none rfl) rfl rfl tyE (fun _ => rfl) rfl (by kernel_rfl) hm4.lt (hm4.fld 2 1) (noSto_apart (by kernel_rfl))
    · refine step_call hs (wants_none rfl) rfl fun L u W hJ hG hL hdep K hK => ?_
      have a0 := (show IsFs rE (u 1) [Z] from hG 1 (hdep 1 (by kernel_rfl)))
      have a1 := (show IsFs rE (u 3) [Z'] from hG 3 (hdep 3 (by kernel_rfl)))
      go_simp
      go_at_call 38
      (with_reducible refine (cMul a0 a1 _).mono ?_); rintro e w1 ⟨r, rfl, hr, hb⟩
      have hk := hK.out _ _ hr hb
      exact hk
    · exact step_alloc hs (wants_none rfl) rfl rfl (by omega) rfl allocE
    · exact step_store 5 hs (by kernel_rfl) (wants_none rfl) rfl rfl rfl (by kernel_rfl) (by kernel_rfl) (by kernel_rfl) (by kernel_rfl) (fun _ => rfl) (gives_op 4 rfl (by kernel_rfl) (fun _ => rfl)) tyE rfl
  intro L4 u4 W4 hall hJ hG
  obtain ⟨q10, e10, hq10, _, ht10⟩ := (show ∃ g, u4 5 = .pointer (some ⟨g, 0, none⟩) ∧ W3.heap.size ≤ g ∧ 0 < 5 ∧ W4.there g 0 5 from hG 5 (by simp))
  have hm10 : HasFs rE W4 q10 0 [Z * Z'] := by
    obtain ⟨g, e, _, h⟩ := (show ∃ g, u4 5 = .pointer (some ⟨g, 0, none⟩) ∧ W3.heap.size ≤ g ∧ HasFs rE W4 g 0 [Z * Z'] from hG 6 (by simp))
    rw [e10] at e; cases e; exact h
  have HD10_q3 := Lib.hid (show q3 ≠ q10 by have := there_lt ht3 (by omega); omega)
  have HD10_q4 := Lib.hid (show q4 ≠ q10 by have := there_lt ht4 (by omega); omega)
  have HD10_q5 := Lib.hid (show q5 ≠ q10 by have := there_lt ht5 (by omega); omega)
  have HD10_q6 := Lib.hid (show q6 ≠ q10 by have := there_lt ht6 (by omega); omega)
  have HD10_q7 := Lib.hid (show q7 ≠ q10 by have := there_lt ht7 (by omega); omega)
  have HD10_q8 := Lib.hid (show q8 ≠ q10 by have := there_lt ht8 (by omega); omega)
  have HD10_q9 := Lib.hid (show q9 ≠ q10 by have := there_lt ht9 (by omega); omega)
  have hq10 : w.heap.size ≤ q10 := by have := hbel0.size; omega
  have E10 := Lib.hid e10; clear e10
  have hb := hJ.all rfl
  have hbel := Below.call hbel hb
  have hm3 := hm3.later hb
  have hm4 := hm4.later hb
  have hm5 := hm5.later hb
  have hm7 := hm7.later hb
  have hm8 := hm8.later hb
  have hm9 := hm9.later hb
  have ht3 := there_later ht3 hb
  have ht4 := there_later ht4 hb
  have ht5 := there_later ht5 hb
  have ht6 := there_later ht6 hb
  have ht7 := there_later ht7 hb
  have ht8 := there_later ht8 hb
  have ht9 := there_later ht9 hb
  have hbel0 := hbel
  clear hJ hG hall hb
  go_upto_region 5 with fail
  refine wp_region_turn (fun u => (v0 :: v1 :: v2 :: u0 0 :: u0 1 :: u0 2 :: u0 3 :: u1 11 :: u2 11 :: u3 7 :: u4 5 :: undef :: undef :: undef :: undef :: u1 0 :: u1 1 :: u1 2 :: u1 3 :: u1 4 :: u1 5 :: u1 6 :: u1 7 :: u1 8 :: u1 9 :: u1 10 :: u2 0 :: u2 1 :: u2 2 :: u2 3 :: u2 4 :: u2 5 :: u2 6 :: u2 7 :: u2 8 :: u2 9 :: u2 10 :: u3 0 :: u3 1 :: u3 2 :: u3 3 :: u3 4 :: u3 5 :: u3 6 :: u4 0 :: u4 1 :: u4 2 :: u4 3 :: u4 4 :: u 0 :: u 1 :: u 2 :: undef :: undef :: undef :: undef :: undef :: undef :: undef :: undef :: undef :: undef :: undef :: undef :: undef :: undef :: undef :: undef :: undef :: undef :: undef :: undef :: undef :: undef :: undef :: undef :: undef :: []).toArray) (Holds [.val rE [Z * Z'], .val rE [Z * Z'], .val rE [(Z * Z') + (Z * Z')], .sto q10 rE [(Z * Z') + (Z * Z')]] W4) (Keep [.val rE [Z * Z'], .val rE [Z * Z'], .val rE [(Z * Z') + (Z * Z')], .sto q10 rE [(Z * Z') + (Z * Z')]] W4) (fun _ => undef) ?_ (by rfl) Keep.start (holds_soft (by kernel_rfl)) ?_ ?_
  · intro u i v h
    rcases i with _ | _ | _ | _ | i
    all_goals first | (simp [Act.put, putV]; done) | (exfalso; simp at h; omega)
  · intro hs
    refine ⟨?_, ?_, ?_, ?_, trivial⟩
    · exact step_load q10 0 hs (wants_none rfl) rfl rfl tyE (fun _ => E10.out) hm10.lt hm10 (fun k g hk => by rcases k with _ | _ | _ | _ | k <;> first | (cases hk; done) | (cases hk; exact .inl (by kernel_rfl)))
    · exact step_load q10 0 hs (wants_none rfl) rfl rfl tyE (fun _ => E10.out) hm10.lt hm10 (fun k g hk => by rcases k with _ | _ | _ | _ | k <;> first | (cases hk; done) | (cases hk; exact .inl (by kernel_rfl)))
    · refine step_call hs (wants_none rfl) rfl fun L u W hJ hG hL hdep K hK => ?_
      have a0 := (show IsFs rE (u 0) [Z * Z'] from hG 0 (hdep 0 (by kernel_rfl)))
      have a1 := (show IsFs rE (u 1) [Z * Z'] from hG 1 (hdep 1 (by kernel_rfl)))
      go_simp
      go_at_call 41
      (with_reducible refine (cAdd a0 a1 _).mono ?_); rintro e w1 ⟨r, rfl, hr, hb⟩
      have hk := hK.out _ _ hr hb
      exact hk
    · refine step_storeO q10 5 hs (wants_none rfl) rfl rfl (by kernel_rfl) (fun k hk => ?_) (fun _ => E10.out) (there_lt ht10 (by omega)) ht10 (gives_op 2 rfl (by kernel_rfl) (fun _ => rfl)) tyE rfl
      rcases k with _ | _ | _ | _ | k
      all_goals first | (exact absurd rfl hk) | (intro e; cases e; done)
  intro L5 u5 W5 hall hJ hG
  have hb : Below w.heap.size W4 W5 := hJ.below (by have := hbel.size; omega) (fun k b hf => by rcases k with _ | _ | _ | _ | k <;> first | (cases hf; done) | (cases hf; omega))
  have hbel := hbel.trans hb
  have hm3 := hm3.blk (hJ.block _ (hm3.lt) (fun k hk => by rcases k with _ | _ | _ | _ | k <;> first | (cases hk; done) | (cases hk; exact absurd rfl (Ne.symm HD10_q3.out))))
  have hm4 := hm4.blk (hJ.block _ (hm4.lt) (fun k hk => by rcases k with _ | _ | _ | _ | k <;> first | (cases hk; done) | (cases hk; exact absurd rfl (Ne.symm HD10_q4.out))))
  have hm5 := hm5.blk (hJ.block _ (hm5.lt) (fun k hk => by rcases k with _ | _ | _ | _ | k <;> first | (cases hk; done) | (cases hk; exact absurd rfl (Ne.symm HD10_q5.out))))
  have hm7 := hm7.blk (hJ.block _ (hm7.lt) (fun k hk => by rcases k with _ | _ | _ | _ | k <;> first | (cases hk; done) | (cases hk; exact absurd rfl (Ne.symm HD10_q7.out))))
  have hm8 := hm8.blk (hJ.block _ (hm8.lt) (fun k hk => by rcases k with _ | _ | _ | _ | k <;> first | (cases hk; done) | (cases hk; exact absurd rfl (Ne.symm HD10_q8.out))))
  have hm9 := hm9.blk (hJ.block _ (hm9.lt) (fun k hk => by rcases k with _ | _ | _ | _ | k <;> first | (cases hk; done) | (cases hk; exact absurd rfl (Ne.symm HD10_q9.out))))
  have ht3 := there_blk ht3 (hJ.block _ (there_lt ht3 (by omega)) (fun k hk => by rcases k with _ | _ | _ | _ | k <;> first | (cases hk; done) | (cases hk; exact absurd rfl (Ne.symm HD10_q3.out))))
  have ht4 := there_blk ht4 (hJ.block _ (there_lt ht4 (by omega)) (fun k hk => by rcases k with _ | _ | _ | _ | k <;> first | (cases hk; done) | (cases hk; exact absurd rfl (Ne.symm HD10_q4.out))))
  have ht5 := there_blk ht5 (hJ.block _ (there_lt ht5 (by omega)) (fun k hk => by rcases k with _ | _ | _ | _ | k <;> first | (cases hk; done) | (cases hk; exact absurd rfl (Ne.symm HD10_q5.out))))
  have ht6 := there_blk ht6 (hJ.block _ (there_lt ht6 (by omega)) (fun k hk => by rcases k with _ | _ | _ | _ | k <;> first | (cases hk; done) | (cases hk; exact absurd rfl (Ne.symm HD10_q6.out))))
  have ht7 := there_blk ht7 (hJ.block _ (there_lt ht7 (by omega)) (fun k hk => by rcases k with _ | _ | _ | _ | k <;> first | (cases hk; done) | (cases hk; exact absurd rfl (Ne.symm HD10_q7.out))))
  have ht8 := there_blk ht8 (hJ.block _ (there_lt ht8 (by omega)) (fun k hk => by rcases k with _ | _ | _ | _ | k <;> first | (cases hk; done) | (cases hk; exact absurd rfl (Ne.symm HD10_q8.out))))
  have ht9 := there_blk ht9 (hJ.block _ (there_lt ht9 (by omega)) (fun k hk => by rcases k with _ | _ | _ | _ | k <;> first | (cases hk; done) | (cases hk; exact absurd rfl (Ne.symm HD10_q9.out))))
  obtain ⟨_, hs5_3t, hs5_3⟩ := (show _ ∧ W5.there q10 0 5 ∧ HasFs rE W5 q10 0 [(Z * Z') + (Z * Z')] from hG 3 (by simp))
  have hbel0 := hbel
  clear hJ hG hall hb
  go_upto_region 6 with fail
  refine wp_region_mid (fun u => (v0 :: v1 :: v2 :: u0 0 :: u0 1 :: u0 2 :: u0 3 :: u1 11 :: u2 11 :: u3 7 :: u4 5 :: u 12 :: u 13 :: u 14 :: u 15 :: u1 0 :: u1 1 :: u1 2 :: u1 3 :: u1 4 :: u1 5 :: u1 6 :: u1 7 :: u1 8 :: u1 9 :: u1 10 :: u2 0 :: u2 1 :: u2 2 :: u2 3 :: u2 4 :: u2 5 :: u2 6 :: u2 7 :: u2 8 :: u2 9 :: u2 10 :: u3 0 :: u3 1 :: u3 2 :: u3 3 :: u3 4 :: u3 5 :: u3 6 :: u4 0 :: u4 1 :: u4 2 :: u4 3 :: u4 4 :: u5 0 :: u5 1 :: u5 2 :: u 0 :: u 1 :: u 2 :: u 3 :: u 4 :: u 5 :: u 6 :: u 7 :: u 8 :: u 9 :: u 10 :: u 11 :: undef :: undef :: undef :: undef :: undef :: undef :: undef :: undef :: undef :: undef :: undef :: undef :: undef :: []).toArray) (Holds [.val rE [(Y + X) * (Y' + X')], .val rE [(Y - X) * (Y' - X')], .val rE [((Y + X) * (Y' + X')) - ((Y - X) * (Y' - X'))], .val rE [(Z * Z') + (Z * Z')], .val rE [(T * D) * T'], .val rE [((Z * Z') + (Z * Z')) - ((T * D) * T')], .val rE [(Z * Z') + (Z * Z')], .val rE [(T * D) * T'], .val rE [((Z * Z') + (Z * Z')) + ((T * D) * T')], .val rE [(Y + X) * (Y' + X')], .val rE [(Y - X) * (Y' - X')], .val rE [((Y + X) * (Y' + X')) + ((Y - X) * (Y' - X'))], .new 5, .new 5, .new 5, .new 5, .st 12 rE [((Y + X) * (Y' + X')) - ((Y - X) * (Y' - X'))], .st 13 rE [((Z * Z') + (Z * Z')) - ((T * D) * T')], .st 14 rE [((Z * Z') + (Z * Z')) + ((T * D) * T')], .st 15 rE [((Y + X) * (Y' + X')) + ((Y - X) * (Y' - X'))]] W5) (Keep [.val rE [(Y + X) * (Y' + X')], .val rE [(Y - X) * (Y' - X')], .val rE [((Y + X) * (Y' + X')) - ((Y - X) * (Y' - X'))], .val rE [(Z * Z') + (Z * Z')], .val rE [(T * D) * T'], .val rE [((Z * Z') + (Z * Z')) - ((T * D) * T')], .val rE [(Z * Z') + (Z * Z')], .val rE [(T * D) * T'], .val rE [((Z * Z') + (Z * Z')) + ((T * D) * T')], .val rE [(Y + X) * (Y' + X')], .val rE [(Y - X) * (Y' - X')], .val rE [((Y + X) * (Y' + X')) + ((Y - X) * (Y' - X'))], .new 5, .new 5, .new 5, .new 5, .st 12 rE [((Y + X) * (Y' + X')) - ((Y - X) * (Y' - X'))], .st 13 rE [((Z * Z') + (Z * Z')) - ((T * D) * T')], .st 14 rE [((Z * Z') + (Z * Z')) + ((T * D) * T')], .st 15 rE [((Y + X) * (Y' + X')) + ((Y - X) * (Y' - X'))]] W5) (fun _ => undef) (by kernel_rfl) (by kernel_rfl) ?_ (by rfl) Keep.drew (holds_soft (by kernel_rfl)) ?_ ?_
  · intro u i v h
    rcases i with _ | _ | _ | _ | _ | _ | _ | _ | _ | _ | _ | _ | _ | _ | _ | _ | _ | _ | _ | _ | i
    all_goals first | (simp [Act.put, putV]; done) | (exfalso; simp at h; omega)
  · intro hs
    refine ⟨?_, ?_, ?_, ?_, ?_, ?_, ?_, ?_, ?_, ?_, ?_, ?_, ?_, ?_, ?_, ?_, ?_, ?_, ?_, ?_, trivial⟩
    · exact step_load q8 0 hs (wants_none rfl) rfl rfl tyE (fun _ => E8.out) hm8.lt hm8 (noSto_apart (by kernel_rfl))
    · exact step_load q7 0 hs (wants_none rfl) rfl rfl tyE (fun _ => E7.out) hm7.lt hm7 (noSto_apart (by kernel_rfl))
    · refine step_call hs (wants_none rfl) rfl fun L u W hJ hG hL hdep K hK => ?_
      have a0 := (show IsFs rE (u 0) [(Y + X) * (Y' + X')] from hG 0 (hdep 0 (by kernel_rfl)))
      have a1 := (show IsFs rE (u 1) [(Y - X) * (Y' - X')] from hG 1 (hdep 1 (by kernel_rfl)))
      go_simp
      go_at_call 39
      (with_reducible refine (cSub a0 a1 _).mono ?_); rintro e w1 ⟨r, rfl, hr, hb⟩
      have hk := hK.out _ _ hr hb
      exact hk
    · exact step_load q10 0 hs (wants_none rfl) rfl rfl tyE (fun _ => E10.out) hs5_3.lt hs5_3 (noSto_apart (by kernel_rfl))
    · exact step_load q9 0 hs (wants_none rfl) rfl rfl tyE (fun _ => E9.out) hm9.lt hm9 (noSto_apart (by kernel_rfl))
    · refine step_call hs (wants_none rfl) rfl fun L u W hJ hG hL hdep K hK => ?_
      have a0 := (show IsFs rE (u 3) [(Z * Z') + (Z * Z')] from hG 3 (hdep 3 (by kernel_rfl)))
      have a1 := (show IsFs rE (u 4) [(T * D) * T'] from hG 4 (hdep 4 (by kernel_rfl)))
      go_simp
      go_at_call 39
      (with_reducible refine (cSub a0 a1 _).mono ?_); rintro e w1 ⟨r, rfl, hr, hb⟩
      have hk := hK.out _ _ hr hb
      exact hk
    · exact step_load q10 0 hs (wants_none rfl) rfl rfl tyE (fun _ => E10.out) hs5_3.lt hs5_3 (noSto_apart (by kernel_rfl))
    · exact step_load q9 0 hs (wants_none rfl) rfl rfl tyE (fun _ => E9.out) hm9.lt hm9 (noSto_apart (by kernel_rfl))
    · refine step_call hs (wants_none rfl) rfl fun L u W hJ hG hL hdep K hK => ?_
      have a0 := (show IsFs rE (u 6) [(Z * Z') + (Z * Z')] from hG 6 (hdep 6 (by kernel_rfl)))
      have a1 := (show IsFs rE (u 7) [(T * D) * T'] from hG 7 (hdep 7 (by kernel_rfl)))
      go_simp
      go_at_call 41
      (with_reducible refine (cAdd a0 a1 _).mono ?_); rintro e w1 ⟨r, rfl, hr, hb⟩
      have hk := hK.out _ _ hr hb
      exact hk
    · exact step_load q8 0 hs (wants_none rfl) rfl rfl tyE (fun _ => E8.out) hm8.lt hm8 (noSto_apart (by kernel_rfl))
    · exact step_load q7 0 hs (wants_none rfl) rfl rfl tyE (fun _ => E7.out) hm7.lt hm7 (noSto_apart (by kernel_rfl))
    · refine step_call hs (wants_none rfl) rfl fun L u W hJ hG hL hdep K hK => ?_
      have a0 := (show IsFs rE (u 9) [(Y + X) * (Y' + X')] from hG 9 (hdep 9 (by kernel_rfl)))
      have a1 := (show IsFs rE (u 10) [(Y - X) * (Y' - X')] from hG 10 (hdep 10 (by kernel_rfl)))
      go_simp
      go_at_call 41
      (with_reducible refine (cAdd a0 a1 _).mono ?_); rintro e w1 ⟨r, rfl, hr, hb⟩
      have hk := hK.out _ _ hr hb
      exact hk
    · exact step_alloc hs (wants_none rfl) rfl rfl (by omega) rfl allocE
    · exact step_alloc hs (wants_none rfl) rfl rfl (by omega) rfl allocE
    · exact step_alloc hs (wants_none rfl) rfl rfl (by omega) rfl allocE
    · exact step_alloc hs (wants_none rfl) rfl rfl (by omega) rfl allocE
    · exact step_store 12 hs (by kernel_rfl) (wants_none rfl) rfl rfl rfl (by kernel_rfl) (by kernel_rfl) (by kernel_rfl) (by kernel_rfl) (fun _ => rfl) (gives_op 2 rfl (by kernel_rfl) (fun _ => rfl)) tyE rfl
    · exact step_store 13 hs (by kernel_rfl) (wants_none rfl) rfl rfl rfl (by kernel_rfl) (by kernel_rfl) (by kernel_rfl) (by kernel_rfl) (fun _ => rfl) (gives_op 5 rfl (by kernel_rfl) (fun _ => rfl)) tyE rfl
    · exact step_store 14 hs (by kernel_rfl) (wants_none rfl) rfl rfl rfl (by kernel_rfl) (by kernel_rfl) (by kernel_rfl) (by kernel_rfl) (fun _ => rfl) (gives_op 8 rfl (by kernel_rfl) (fun _ => rfl)) tyE rfl
    · exact step_store 15 hs (by kernel_rfl) (wants_none rfl) rfl rfl rfl (by kernel_rfl) (by kernel_rfl) (by kernel_rfl) (by kernel_rfl) (fun _ => rfl) (gives_op 11 rfl (by kernel_rfl) (fun _ => rfl)) tyE rfl
  intro L6 u6 W6 hall hJ hG
  obtain ⟨q11, e11, hq11, _, ht11⟩ := (show ∃ g, u6 12 = .pointer (some ⟨g, 0, none⟩) ∧ W5.heap.size ≤ g ∧ 0 < 5 ∧ W6.there g 0 5 from hG 12 (by simp))
  have hm11 : HasFs rE W6 q11 0 [((Y + X) * (Y' + X')) - ((Y - X) * (Y' - X'))] := by
    obtain ⟨g, e, _, h⟩ := (show ∃ g, u6 12 = .pointer (some ⟨g, 0, none⟩) ∧ W5.heap.size ≤ g ∧ HasFs rE W6 g 0 [((Y + X) * (Y' + X')) - ((Y - X) * (Y' - X'))] from hG 16 (by simp))
    rw [e11] at e; cases e; exact h
  have HD11_q3 := Lib.hid (show q3 ≠ q11 by have := there_lt ht3 (by omega); omega)
  have HD11_q4 := Lib.hid (show q4 ≠ q11 by have := there_lt ht4 (by omega); omega)
  have HD11_q5 := Lib.hid (show q5 ≠ q11 by have := there_lt ht5 (by omega); omega)
  have HD11_q6 := Lib.hid (show q6 ≠ q11 by have := there_lt ht6 (by omega); omega)
  have HD11_q7 := Lib.hid (show q7 ≠ q11 by have := there_lt ht7 (by omega); omega)
  have HD11_q8 := Lib.hid (show q8 ≠ q11 by have := there_lt ht8 (by omega); omega)
  have HD11_q9 := Lib.hid (show q9 ≠ q11 by have := there_lt ht9 (by omega); omega)
  have HD11_q10 := Lib.hid (show q10 ≠ q11 by have := there_lt hs5_3t (by omega); omega)
  have hq11 : w.heap.size ≤ q11 := by have := hbel0.size; omega
  have E11 := Lib.hid e11; clear e11
  obtain ⟨q12, e12, hq12, _, ht12⟩ := (show ∃ g, u6 13 = .pointer (some ⟨g, 0, none⟩) ∧ W5.heap.size ≤ g ∧ 0 < 5 ∧ W6.there g 0 5 from hG 13 (by simp))
  have hm12 : HasFs rE W6 q12 0 [((Z * Z') + (Z * Z')) - ((T * D) * T')] := by
    obtain ⟨g, e, _, h⟩ := (show ∃ g, u6 13 = .pointer (some ⟨g, 0, none⟩) ∧ W5.heap.size ≤ g ∧ HasFs rE W6 g 0 [((Z * Z') + (Z * Z')) - ((T * D) * T')] from hG 17 (by simp))
    rw [e12] at e; cases e; exact h
  have HD12_q3 := Lib.hid (show q3 ≠ q12 by have := there_lt ht3 (by omega); omega)
  have HD12_q4 := Lib.hid (show q4 ≠ q12 by have := there_lt ht4 (by omega); omega)
  have HD12_q5 := Lib.hid (show q5 ≠ q12 by have := there_lt ht5 (by omega); omega)
  have HD12_q6 := Lib.hid (show q6 ≠ q12 by have := there_lt ht6 (by omega); omega)
  have HD12_q7 := Lib.hid (show q7 ≠ q12 by have := there_lt ht7 (by omega); omega)
  have HD12_q8 := Lib.hid (show q8 ≠ q12 by have := there_lt ht8 (by omega); omega)
  have HD12_q9 := Lib.hid (show q9 ≠ q12 by have := there_lt ht9 (by omega); omega)
  have HD12_q10 := Lib.hid (show q10 ≠ q12 by have := there_lt hs5_3t (by omega); omega)
  have hq12 : w.heap.size ≤ q12 := by have := hbel0.size; omega
  have E12 := Lib.hid e12; clear e12
  obtain ⟨q13, e13, hq13, _, ht13⟩ := (show ∃ g, u6 14 = .pointer (some ⟨g, 0, none⟩) ∧ W5.heap.size ≤ g ∧ 0 < 5 ∧ W6.there g 0 5 from hG 14 (by simp))
  have hm13 : HasFs rE W6 q13 0 [((Z * Z') + (Z * Z')) + ((T * D) * T')] := by
    obtain ⟨g, e, _, h⟩ := (show ∃ g, u6 14 = .pointer (some ⟨g, 0, none⟩) ∧ W5.heap.size ≤ g ∧ HasFs rE W6 g 0 [((Z * Z') + (Z * Z')) + ((T * D) * T')] from hG 18 (by simp))
    rw [e13] at e; cases e; exact h
  have HD13_q3 := Lib.hid (show q3 ≠ q13 by have := there_lt ht3 (by omega); omega)
  have HD13_q4 := Lib.hid (show q4 ≠ q13 by have := there_lt ht4 (by omega); omega)
  have HD13_q5 := Lib.hid (show q5 ≠ q13 by have := there_lt ht5 (by omega); omega)
  have HD13_q6 := Lib.hid (show q6 ≠ q13 by have := there_lt ht6 (by omega); omega)
  have HD13_q7 := Lib.hid (show q7 ≠ q13 by have := there_lt ht7 (by omega); omega)
  have HD13_q8 := Lib.hid (show q8 ≠ q13 by have := there_lt ht8 (by omega); omega)
  have HD13_q9 := Lib.hid (show q9 ≠ q13 by have := there_lt ht9 (by omega); omega)
  have HD13_q10 := Lib.hid (show q10 ≠ q13 by have := there_lt hs5_3t (by omega); omega)
  have hq13 : w.heap.size ≤ q13 := by have := hbel0.size; omega
  have E13 := Lib.hid e13; clear e13
  obtain ⟨q14, e14, hq14, _, ht14⟩ := (show ∃ g, u6 15 = .pointer (some ⟨g, 0, none⟩) ∧ W5.heap.size ≤ g ∧ 0 < 5 ∧ W6.there g 0 5 from hG 15 (by simp))
  have hm14 : HasFs rE W6 q14 0 [((Y + X) * (Y' + X')) + ((Y - X) * (Y' - X'))] := by
    obtain ⟨g, e, _, h⟩ := (show ∃ g, u6 15 = .pointer (some ⟨g, 0, none⟩) ∧ W5.heap.size ≤ g ∧ HasFs rE W6 g 0 [((Y + X) * (Y' + X')) + ((Y - X) * (Y' - X'))] from hG 19 (by simp))
    rw [e14] at e; cases e; exact h
  have HD14_q3 := Lib.hid (show q3 ≠ q14 by have := there_lt ht3 (by omega); omega)
  have HD14_q4 := Lib.hid (show q4 ≠ q14 by have := there_lt ht4 (by omega); omega)
  have HD14_q5 := Lib.hid (show q5 ≠ q14 by have := there_lt ht5 (by omega); omega)
  have HD14_q6 := Lib.hid (show q6 ≠ q14 by have := there_lt ht6 (by omega); omega)
  have HD14_q7 := Lib.hid (show q7 ≠ q14 by have := there_lt ht7 (by omega); omega)
  have HD14_q8 := Lib.hid (show q8 ≠ q14 by have := there_lt ht8 (by omega); omega)
  have HD14_q9 := Lib.hid (show q9 ≠ q14 by have := there_lt ht9 (by omega); omega)
  have HD14_q10 := Lib.hid (show q10 ≠ q14 by have := there_lt hs5_3t (by omega); omega)
  have hq14 : w.heap.size ≤ q14 := by have := hbel0.size; omega
  have E14 := Lib.hid e14; clear e14
  have hb := hJ.all rfl
  have hbel := Below.call hbel hb
  have hm3 := hm3.later hb
  have hm4 := hm4.later hb
  have hm5 := hm5.later hb
  have hm7 := hm7.later hb
  have hm8 := hm8.later hb
  have hm9 := hm9.later hb
  have hs5_3 := hs5_3.later hb
  have ht3 := there_later ht3 hb
  have ht4 := there_later ht4 hb
  have ht5 := there_later ht5 hb
  have ht6 := there_later ht6 hb
  have ht7 := there_later ht7 hb
  have ht8 := there_later ht8 hb
  have ht9 := there_later ht9 hb
  have hs5_3t := there_later hs5_3t hb
  have HN11_12 := Lib.hid (show q11 ≠ q12 from fun e => hJ.apart 12 13 _ (by omega) (hall _ (by simp)) (hall _ (by simp)) rfl rfl (E11.out.trans (by rw [e])) E12.out)
  have HN11_13 := Lib.hid (show q11 ≠ q13 from fun e => hJ.apart 12 14 _ (by omega) (hall _ (by simp)) (hall _ (by simp)) rfl rfl (E11.out.trans (by rw [e])) E13.out)
  have HN11_14 := Lib.hid (show q11 ≠ q14 from fun e => hJ.apart 12 15 _ (by omega) (hall _ (by simp)) (hall _ (by simp)) rfl rfl (E11.out.trans (by rw [e])) E14.out)
  have HN12_13 := Lib.hid (show q12 ≠ q13 from fun e => hJ.apart 13 14 _ (by omega) (hall _ (by simp)) (hall _ (by simp)) rfl rfl (E12.out.trans (by rw [e])) E13.out)
  have HN12_14 := Lib.hid (show q12 ≠ q14 from fun e => hJ.apart 13 15 _ (by omega) (hall _ (by simp)) (hall _ (by simp)) rfl rfl (E12.out.trans (by rw [e])) E14.out)
  have HN13_14 := Lib.hid (show q13 ≠ q14 from fun e => hJ.apart 14 15 _ (by omega) (hall _ (by simp)) (hall _ (by simp)) rfl rfl (E13.out.trans (by rw [e])) E14.out)
  have hbel0 := hbel
  clear hJ hG hall hb
  go_upto_region 7 with fail
  refine wp_region_mid (fun u => (v0 :: v1 :: v2 :: u0 0 :: u0 1 :: u0 2 :: u0 3 :: u1 11 :: u2 11 :: u3 7 :: u4 5 :: u6 12 :: u6 13 :: u6 14 :: u6 15 :: u1 0 :: u1 1 :: u1 2 :: u1 3 :: u1 4 :: u1 5 :: u1 6 :: u1 7 :: u1 8 :: u1 9 :: u1 10 :: u2 0 :: u2 1 :: u2 2 :: u2 3 :: u2 4 :: u2 5 :: u2 6 :: u2 7 :: u2 8 :: u2 9 :: u2 10 :: u3 0 :: u3 1 :: u3 2 :: u3 3 :: u3 4 :: u3 5 :: u3 6 :: u4 0 :: u4 1 :: u4 2 :: u4 3 :: u4 4 :: u5 0 :: u5 1 :: u5 2 :: u6 0 :: u6 1 :: u6 2 :: u6 3 :: u6 4 :: u6 5 :: u6 6 :: u6 7 :: u6 8 :: u6 9 :: u6 10 :: u6 11 :: u 0 :: u 1 :: u 2 :: u 3 :: u 4 :: u 5 :: u 6 :: u 7 :: u 8 :: u 9 :: u 10 :: u 11 :: u 12 :: []).toArray) (Holds [.val rE [((Y + X) * (Y' + X')) - ((Y - X) * (Y' - X'))], .val rE [((Z * Z') + (Z * Z')) - ((T * D) * T')], .val rE [(((Y + X) * (Y' + X')) - ((Y - X) * (Y' - X'))) * (((Z * Z') + (Z * Z')) - ((T * D) * T'))], .val rE [((Z * Z') + (Z * Z')) + ((T * D) * T')], .val rE [((Y + X) * (Y' + X')) + ((Y - X) * (Y' - X'))], .val rE [(((Z * Z') + (Z * Z')) + ((T * D) * T')) * (((Y + X) * (Y' + X')) + ((Y - X) * (Y' - X')))], .val rE [((Z * Z') + (Z * Z')) - ((T * D) * T')], .val rE [((Z * Z') + (Z * Z')) + ((T * D) * T')], .val rE [(((Z * Z') + (Z * Z')) - ((T * D) * T')) * (((Z * Z') + (Z * Z')) + ((T * D) * T'))], .val rE [((Y + X) * (Y' + X')) - ((Y - X) * (Y' - X'))], .val rE [((Y + X) * (Y' + X')) + ((Y - X) * (Y' - X'))], .val rE [(((Y + X) * (Y' + X')) - ((Y - X) * (Y' - X'))) * (((Y + X) * (Y' + X')) + ((Y - X) * (Y' - X')))], .val rE [(((Y + X) * (Y' + X')) - ((Y - X) * (Y' - X'))) * (((Z * Z') + (Z * Z')) - ((T * D) * T')), (((Z * Z') + (Z * Z')) + ((T * D) * T')) * (((Y + X) * (Y' + X')) + ((Y - X) * (Y' - X'))), (((Z * Z') + (Z * Z')) - ((T * D) * T')) * (((Z * Z') + (Z * Z')) + ((T * D) * T')), (((Y + X) * (Y' + X')) - ((Y - X) * (Y' - X'))) * (((Y + X) * (Y' + X')) + ((Y - X) * (Y' - X')))], .sto q6 rE [(((Y + X) * (Y' + X')) - ((Y - X) * (Y' - X'))) * (((Z * Z') + (Z * Z')) - ((T * D) * T')), (((Z * Z') + (Z * Z')) + ((T * D) * T')) * (((Y + X) * (Y' + X')) + ((Y - X) * (Y' - X'))), (((Z * Z') + (Z * Z')) - ((T * D) * T')) * (((Z * Z') + (Z * Z')) + ((T * D) * T')), (((Y + X) * (Y' + X')) - ((Y - X) * (Y' - X'))) * (((Y + X) * (Y' + X')) + ((Y - X) * (Y' - X')))]] W6) (Keep [.val rE [((Y + X) * (Y' + X')) - ((Y - X) * (Y' - X'))], .val rE [((Z * Z') + (Z * Z')) - ((T * D) * T')], .val rE [(((Y + X) * (Y' + X')) - ((Y - X) * (Y' - X'))) * (((Z * Z') + (Z * Z')) - ((T * D) * T'))], .val rE [((Z * Z') + (Z * Z')) + ((T * D) * T')], .val rE [((Y + X) * (Y' + X')) + ((Y - X) * (Y' - X'))], .val rE [(((Z * Z') + (Z * Z')) + ((T * D) * T')) * (((Y + X) * (Y' + X')) + ((Y - X) * (Y' - X')))], .val rE [((Z * Z') + (Z * Z')) - ((T * D) * T')], .val rE [((Z * Z') + (Z * Z')) + ((T * D) * T')], .val rE [(((Z * Z') + (Z * Z')) - ((T * D) * T')) * (((Z * Z') + (Z * Z')) + ((T * D) * T'))], .val rE [((Y + X) * (Y' + X')) - ((Y - X) * (Y' - X'))], .val rE [((Y + X) * (Y' + X')) + ((Y - X) * (Y' - X'))], .val rE [(((Y + X) * (Y' + X')) - ((Y - X) * (Y' - X'))) * (((Y + X) * (Y' + X')) + ((Y - X) * (Y' - X')))], .val rE [(((Y + X) * (Y' + X')) - ((Y - X) * (Y' - X'))) * (((Z * Z') + (Z * Z')) - ((T * D) * T')), (((Z * Z') + (Z * Z')) + ((T * D) * T')) * (((Y + X) * (Y' + X')) + ((Y - X) * (Y' - X'))), (((Z * Z') + (Z * Z')) - ((T * D) * T')) * (((Z * Z') + (Z * Z')) + ((T * D) * T')), (((Y + X) * (Y' + X')) - ((Y - X) * (Y' - X'))) * (((Y + X) * (Y' + X')) + ((Y - X) * (Y' - X')))], .sto q6 rE [(((Y + X) * (Y' + X')) - ((Y - X) * (Y' - X'))) * (((Z * Z') + (Z * Z')) - ((T * D) * T')), (((Z * Z') + (Z * Z')) + ((T * D) * T')) * (((Y + X) * (Y' + X')) + ((Y - X) * (Y' - X'))), (((Z * Z') + (Z * Z')) - ((T * D) * T')) * (((Z * Z') + (Z * Z')) + ((T * D) * T')), (((Y + X) * (Y' + X')) - ((Y - X) * (Y' - X'))) * (((Y + X) * (Y' + X')) + ((Y - X) * (Y' - X')))]] W6) (fun _ => undef) (by kernel_rfl) (by kernel_rfl) ?_ (by rfl) Keep.drew (holds_soft (by kernel_rfl)) ?_ ?_
  · intro u i v h
    rcases i with _ | _ | _ | _ | _ | _ | _ | _ | _ | _ | _ | _ | _ | _ | i
    all_goals first | (simp [Act.put, putV]; done) | (exfalso; simp at h; omega)
  · intro hs
    refine ⟨?_, ?_, ?_, ?_, ?_, ?_, ?_, ?_, ?_, ?_, ?_, ?_, ?_, ?_, trivial⟩
    · exact step_load q11 0 hs (wants_none rfl) rfl rfl tyE (fun _ => E11.out) hm11.lt hm11 (fun k g hk => by rcases k with _ | _ | _ | _ | _ | _ | _ | _ | _ | _ | _ | _ | _ | _ | k <;> first | (cases hk; done) | (cases hk; exact .inr HD11_q6.out))
    · exact step_load q12 0 hs (wants_none rfl) rfl rfl tyE (fun _ => E12.out) hm12.lt hm12 (fun k g hk => by rcases k with _ | _ | _ | _ | _ | _ | _ | _ | _ | _ | _ | _ | _ | _ | k <;> first | (cases hk; done) | (cases hk; exact .inr HD12_q6.out))
    · refine step_call hs (wants_none rfl) rfl fun L u W hJ hG hL hdep K hK => ?_
      have a0 := (show IsFs rE (u 0) [((Y + X) * (Y' + X')) - ((Y - X) * (Y' - X'))] from hG 0 (hdep 0 (by kernel_rfl)))
      have a1 := (show IsFs rE (u 1) [((Z * Z') + (Z * Z')) - ((T * D) * T')] from hG 1 (hdep 1 (by kernel_rfl)))
      go_simp
      go_at_call 38
      (with_reducible refine (cMul a0 a1 _).mono ?_); rintro e w1 ⟨r, rfl, hr, hb⟩
      have hk := hK.out _ _ hr hb
      exact hk
    · exact step_load q13 0 hs (wants_none rfl) rfl rfl tyE (fun _ => E13.out) hm13.lt hm13 (fun k g hk => by rcases k with _ | _ | _ | _ | _ | _ | _ | _ | _ | _ | _ | _ | _ | _ | k <;> first | (cases hk; done) | (cases hk; exact .inr HD13_q6.out))
    · exact step_load q14 0 hs (wants_none rfl) rfl rfl tyE (fun _ => E14.out) hm14.lt hm14 (fun k g hk => by rcases k with _ | _ | _ | _ | _ | _ | _ | _ | _ | _ | _ | _ | _ | _ | k <;> first | (cases hk; done) | (cases hk; exact .inr HD14_q6.out))
    · refine step_call hs (wants_none rfl) rfl fun L u W hJ hG hL hdep K hK => ?_
      have a0 := (show IsFs rE (u 3) [((Z * Z') + (Z * Z')) + ((T * D) * T')] from hG 3 (hdep 3 (by kernel_rfl)))
      have a1 := (show IsFs rE (u 4) [((Y + X) * (Y' + X')) + ((Y - X) * (Y' - X'))] from hG 4 (hdep 4 (by kernel_rfl)))
      go_simp
      go_at_call 38
      (with_reducible refine (cMul a0 a1 _).mono ?_); rintro e w1 ⟨r, rfl, hr, hb⟩
      have hk := hK.out _ _ hr hb
      exact hk
    · exact step_load q12 0 hs (wants_none rfl) rfl rfl tyE (fun _ => E12.out) hm12.lt hm12 (fun k g hk => by rcases k with _ | _ | _ | _ | _ | _ | _ | _ | _ | _ | _ | _ | _ | _ | k <;> first | (cases hk; done) | (cases hk; exact .inr HD12_q6.out))
    · exact step_load q13 0 hs (wants_none rfl) rfl rfl tyE (fun _ => E13.out) hm13.lt hm13 (fun k g hk => by rcases k with _ | _ | _ | _ | _ | _ | _ | _ | _ | _ | _ | _ | _ | _ | k <;> first | (cases hk; done) | (cases hk; exact .inr HD13_q6.out))
    · refine step_call hs (wants_none rfl) rfl fun L u W hJ hG hL hdep K hK => ?_
      have a0 := (show IsFs rE (u 6) [((Z * Z') + (Z * Z')) - ((T * D) * T')] from hG 6 (hdep 6 (by kernel_rfl)))
      have a1 := (show IsFs rE (u 7) [((Z * Z') + (Z * Z')) + ((T * D) * T')] from hG 7 (hdep 7 (by kernel_rfl)))
      go_simp
      go_at_call 38
      (with_reducible refine (cMul a0 a1 _).mono ?_); rintro e w1 ⟨r, rfl, hr, hb⟩
      have hk := hK.out _ _ hr hb
      exact hk
    · exact step_load q11 0 hs (wants_none rfl) rfl rfl tyE (fun _ => E11.out) hm11.lt hm11 (fun k g hk => by rcases k with _ | _ | _ | _ | _ | _ | _ | _ | _ | _ | _ | _ | _ | _ | k <;> first | (cases hk; done) | (cases hk; exact .inr HD11_q6.out))
    · exact step_load q14 0 hs (wants_none rfl) rfl rfl tyE (fun _ => E14.out) hm14.lt hm14 (fun k g hk => by rcases k with _ | _ | _ | _ | _ | _ | _ | _ | _ | _ | _ | _ | _ | _ | k <;> first | (cases hk; done) | (cases hk; exact .inr HD14_q6.out))
    · refine step_call hs (wants_none rfl) rfl fun L u W hJ hG hL hdep K hK => ?_
      have a0 := (show IsFs rE (u 9) [((Y + X) * (Y' + X')) - ((Y - X) * (Y' - X'))] from hG 9 (hdep 9 (by kernel_rfl)))
      have a1 := (show IsFs rE (u 10) [((Y + X) * (Y' + X')) + ((Y - X) * (Y' - X'))] from hG 10 (hdep 10 (by kernel_rfl)))
      go_simp
      go_at_call 38
      (with_reducible refine (cMul a0 a1 _).mono ?_); rintro e w1 ⟨r, rfl, hr, hb⟩
      have hk := hK.out _ _ hr hb
      exact hk
    · refine step_pure hs (wants_none rfl) rfl fun L u W hG hdep => ?_
      have a0 := (show IsFs rE (u 2) [(((Y + X) * (Y' + X')) - ((Y - X) * (Y' - X'))) * (((Z * Z') + (Z * Z')) - ((T * D) * T'))] from hG 2 (hdep 2 (by kernel_rfl)))
      have a1 := (show IsFs rE (u 5) [(((Z * Z') + (Z * Z')) + ((T * D) * T')) * (((Y + X) * (Y' + X')) + ((Y - X) * (Y' - X')))] from hG 5 (hdep 5 (by kernel_rfl)))
      have a2 := (show IsFs rE (u 8) [(((Z * Z') + (Z * Z')) - ((T * D) * T')) * (((Z * Z') + (Z * Z')) + ((T * D) * T'))] from hG 8 (hdep 8 (by kernel_rfl)))
      have a3 := (show IsFs rE (u 11) [(((Y + X) * (Y' + X')) - ((Y - X) * (Y' - X'))) * (((Y + X) * (Y' + X')) + ((Y - X) * (Y' - X')))] from hG 11 (hdep 11 (by kernel_rfl)))
      obtain ⟨r, hr, hx⟩ := build_P a0 a1 a2 a3 W
      exact ⟨r, run_build4 rfl hr, hx⟩
    · refine step_storeO q6 20 hs (wants_none rfl) rfl rfl (by kernel_rfl) (fun k hk => ?_) (fun _ => E6.out) (there_lt ht6 (by omega)) ht6 (gives_op 12 rfl (by kernel_rfl) (fun _ => rfl)) tyP4 rfl
      rcases k with _ | _ | _ | _ | _ | _ | _ | _ | _ | _ | _ | _ | _ | _ | k
      all_goals first | (exact absurd rfl hk) | (intro e; cases e; done)
  intro L7 u7 W7 hall hJ hG
  have hb : Below w.heap.size W6 W7 := hJ.below (by have := hbel.size; omega) (fun k b hf => by rcases k with _ | _ | _ | _ | _ | _ | _ | _ | _ | _ | _ | _ | _ | _ | k <;> first | (cases hf; done) | (cases hf; omega))
  have hbel := hbel.trans hb
  have hm3 := hm3.blk (hJ.block _ (hm3.lt) (fun k hk => by rcases k with _ | _ | _ | _ | _ | _ | _ | _ | _ | _ | _ | _ | _ | _ | k <;> first | (cases hk; done) | (cases hk; exact absurd rfl (Ne.symm HN3_6.out))))
  have hm4 := hm4.blk (hJ.block _ (hm4.lt) (fun k hk => by rcases k with _ | _ | _ | _ | _ | _ | _ | _ | _ | _ | _ | _ | _ | _ | k <;> first | (cases hk; done) | (cases hk; exact absurd rfl (Ne.symm HN4_6.out))))
  have hm5 := hm5.blk (hJ.block _ (hm5.lt) (fun k hk => by rcases k with _ | _ | _ | _ | _ | _ | _ | _ | _ | _ | _ | _ | _ | _ | k <;> first | (cases hk; done) | (cases hk; exact absurd rfl (Ne.symm HN5_6.out))))
  have hm7 := hm7.blk (hJ.block _ (hm7.lt) (fun k hk => by rcases k with _ | _ | _ | _ | _ | _ | _ | _ | _ | _ | _ | _ | _ | _ | k <;> first | (cases hk; done) | (cases hk; exact absurd rfl HD7_q6.out)))
  have hm8 := hm8.blk (hJ.block _ (hm8.lt) (fun k hk => by rcases k with _ | _ | _ | _ | _ | _ | _ | _ | _ | _ | _ | _ | _ | _ | k <;> first | (cases hk; done) | (cases hk; exact absurd rfl HD8_q6.out)))
  have hm9 := hm9.blk (hJ.block _ (hm9.lt) (fun k hk => by rcases k with _ | _ | _ | _ | _ | _ | _ | _ | _ | _ | _ | _ | _ | _ | k <;> first | (cases hk; done) | (cases hk; exact absurd rfl HD9_q6.out)))
  have hs5_3 := hs5_3.blk (hJ.block _ (hs5_3.lt) (fun k hk => by rcases k with _ | _ | _ | _ | _ | _ | _ | _ | _ | _ | _ | _ | _ | _ | k <;> first | (cases hk; done) | (cases hk; exact absurd rfl HD10_q6.out)))
  have hm11 := hm11.blk (hJ.block _ (hm11.lt) (fun k hk => by rcases k with _ | _ | _ | _ | _ | _ | _ | _ | _ | _ | _ | _ | _ | _ | k <;> first | (cases hk; done) | (cases hk; exact absurd rfl HD11_q6.out)))
  have hm12 := hm12.blk (hJ.block _ (hm12.lt) (fun k hk => by rcases k with _ | _ | _ | _ | _ | _ | _ | _ | _ | _ | _ | _ | _ | _ | k <;> first | (cases hk; done) | (cases hk; exact absurd rfl HD12_q6.out)))
  have hm13 := hm13.blk (hJ.block _ (hm13.lt) (fun k hk => by rcases k with _ | _ | _ | _ | _ | _ | _ | _ | _ | _ | _ | _ | _ | _ | k <;> first | (cases hk; done) | (cases hk; exact absurd rfl HD13_q6.out)))
  have hm14 := hm14.blk (hJ.block _ (hm14.lt) (fun k hk => by rcases k with _ | _ | _ | _ | _ | _ | _ | _ | _ | _ | _ | _ | _ | _ | k <;> first | (cases hk; done) | (cases hk; exact absurd rfl HD14_q6.out)))
  have ht3 := there_blk ht3 (hJ.block _ (there_lt ht3 (by omega)) (fun k hk => by rcases k with _ | _ | _ | _ | _ | _ | _ | _ | _ | _ | _ | _ | _ | _ | k <;> first | (cases hk; done) | (cases hk; exact absurd rfl (Ne.symm HN3_6.out))))
  have ht4 := there_blk ht4 (hJ.block _ (there_lt ht4 (by omega)) (fun k hk => by rcases k with _ | _ | _ | _ | _ | _ | _ | _ | _ | _ | _ | _ | _ | _ | k <;> first | (cases hk; done) | (cases hk; exact absurd rfl (Ne.symm HN4_6.out))))
  have ht5 := there_blk ht5 (hJ.block _ (there_lt ht5 (by omega)) (fun k hk => by rcases k with _ | _ | _ | _ | _ | _ | _ | _ | _ | _ | _ | _ | _ | _ | k <;> first | (cases hk; done) | (cases hk; exact absurd rfl (Ne.symm HN5_6.out))))
  have ht7 := there_blk ht7 (hJ.block _ (there_lt ht7 (by omega)) (fun k hk => by rcases k with _ | _ | _ | _ | _ | _ | _ | _ | _ | _ | _ | _ | _ | _ | k <;> first | (cases hk; done) | (cases hk; exact absurd rfl HD7_q6.out)))
  have ht8 := there_blk ht8 (hJ.block _ (there_lt ht8 (by omega)) (fun k hk => by rcases k with _ | _ | _ | _ | _ | _ | _ | _ | _ | _ | _ | _ | _ | _ | k <;> first | (cases hk; done) | (cases hk; exact absurd rfl HD8_q6.out)))
  have ht9 := there_blk ht9 (hJ.block _ (there_lt ht9 (by omega)) (fun k hk => by rcases k with _ | _ | _ | _ | _ | _ | _ | _ | _ | _ | _ | _ | _ | _ | k <;> first | (cases hk; done) | (cases hk; exact absurd rfl HD9_q6.out)))
  have hs5_3t := there_blk hs5_3t (hJ.block _ (there_lt hs5_3t (by omega)) (fun k hk => by rcases k with _ | _ | _ | _ | _ | _ | _ | _ | _ | _ | _ | _ | _ | _ | k <;> first | (cases hk; done) | (cases hk; exact absurd rfl HD10_q6.out)))
  have ht11 := there_blk ht11 (hJ.block _ (there_lt ht11 (by omega)) (fun k hk => by rcases k with _ | _ | _ | _ | _ | _ | _ | _ | _ | _ | _ | _ | _ | _ | k <;> first | (cases hk; done) | (cases hk; exact absurd rfl HD11_q6.out)))
  have ht12 := there_blk ht12 (hJ.block _ (there_lt ht12 (by omega)) (fun k hk => by rcases k with _ | _ | _ | _ | _ | _ | _ | _ | _ | _ | _ | _ | _ | _ | k <;> first | (cases hk; done) | (cases hk; exact absurd rfl HD12_q6.out)))
  have ht13 := there_blk ht13 (hJ.block _ (there_lt ht13 (by omega)) (fun k hk => by rcases k with _ | _ | _ | _ | _ | _ | _ | _ | _ | _ | _ | _ | _ | _ | k <;> first | (cases hk; done) | (cases hk; exact absurd rfl HD13_q6.out)))
  have ht14 := there_blk ht14 (hJ.block _ (there_lt ht14 (by omega)) (fun k hk => by rcases k with _ | _ | _ | _ | _ | _ | _ | _ | _ | _ | _ | _ | _ | _ | k <;> first | (cases hk; done) | (cases hk; exact absurd rfl HD14_q6.out)))
  obtain ⟨_, hs7_13t, hs7_13⟩ := (show _ ∧ W7.there q6 0 20 ∧ HasFs rE W7 q6 0 [(((Y + X) * (Y' + X')) - ((Y - X) * (Y' - X'))) * (((Z * Z') + (Z * Z')) - ((T * D) * T')), (((Z * Z') + (Z * Z')) + ((T * D) * T')) * (((Y + X) * (Y' + X')) + ((Y - X) * (Y' - X'))), (((Z * Z') + (Z * Z')) - ((T * D) * T')) * (((Z * Z') + (Z * Z')) + ((T * D) * T')), (((Y + X) * (Y' + X')) - ((Y - X) * (Y' - X'))) * (((Y + X) * (Y' + X')) + ((Y - X) * (Y' - X')))] from hG 13 (by simp))
  have hbel0 := hbel
  clear hJ hG hall hb
  go_wp2
  exact ret_cell1 (R := rE) Try.results65 (by exact E6.out) hs7_13 tyP4 rfl (fun r hr => ⟨r, rfl, hr, hbel⟩)
theorem cSum {v0 v1 v2 : Value} {P Q : EP} (h0 : IsFs rPr v0 [P]) (h1 : IsFs rPr v1 [Q]) (h2 : IsFs rE v2 [dE2]) (w : World) :
    Calls Try.prog 65 #[v0, v1, v2] w fun e w' => ∃ r, e = .returned r ∧ IsFs rPr r [Cp.add P Q] ∧ Below w.heap.size w w' := by
  obtain ⟨x, y, z, t, i0, hp⟩ := of_isPr h0
  obtain ⟨x', y', z', t', i1, hq⟩ := of_isPr h1
  exact (sum_any i0 i1 h2 w).mono fun _ _ ⟨r, he, hr, hb⟩ => ⟨r, he, isPr hr (Pext.add (c := cuE) hp hq rfl rfl (by rw [dE2_eq]; rfl) rfl rfl rfl rfl rfl), hb⟩
set_option maxRecDepth 100000 in
set_option maxHeartbeats 4000000 in
theorem cPAdd {v0 v1 : Value} {P Q : EP} (h0 : IsFs rP v0 [P]) (h1 : IsFs rP v1 [Q]) (w : World) :
    Calls Try.prog 25 #[v0, v1] w fun e w' => ∃ r, e = .returned r ∧ IsFs rP r [Cp.add P Q] ∧ Below w.heap.size w w' := by
  go_enter Try.func25, Try.ntmps25
  have hbel : Below w.heap.size w w := Below.refl _ _
  have hbel0 := hbel
  go_upto_region 0 with fail
  refine wp_region_turn (fun u => #[v0, v1, u 0, u 1, u 2, undef, undef, undef, undef, undef, undef]) (Holds [.box rP [P], .box rP [Q], .new 20] w) (Keep [.box rP [P], .box rP [Q], .new 20] w) (fun _ => undef) ?_ (by rfl) Keep.start (holds_soft (by kernel_rfl)) ?_ ?_
  · intro u i v h
    rcases i with _ | _ | _ | i
    all_goals first | (simp [Act.put, putV]; done) | (exfalso; simp at h; omega)
  · intro hs
    refine ⟨?_, ?_, ?_, trivial⟩
    · exact step_box hs (wants_none rfl) rfl rfl (gives_c h0 (fun _ => rfl))
    · exact step_box hs (wants_none rfl) rfl rfl (gives_c h1 (fun _ => rfl))
    · exact step_alloc hs (wants_none rfl) rfl rfl (by omega) rfl allocP
  intro L0 u0 W0 hall hJ hG
  obtain ⟨q2, e2, ⟨hq2, _⟩, ht2, hm2⟩ := (show ∃ g, u0 0 = .pointer (some ⟨g, 0, none⟩) ∧ (w.heap.size ≤ g ∧ g < W0.heap.size) ∧ W0.there g 0 20 ∧ HasFs rP W0 g 0 [P] from hG 0 (by simp))
  have hq2 : w.heap.size ≤ q2 := by have := hbel0.size; omega
  have E2 := Lib.hid e2; clear e2
  obtain ⟨q3, e3, ⟨hq3, _⟩, ht3, hm3⟩ := (show ∃ g, u0 1 = .pointer (some ⟨g, 0, none⟩) ∧ (w.heap.size ≤ g ∧ g < W0.heap.size) ∧ W0.there g 0 20 ∧ HasFs rP W0 g 0 [Q] from hG 1 (by simp))
  have hq3 : w.heap.size ≤ q3 := by have := hbel0.size; omega
  have E3 := Lib.hid e3; clear e3
  obtain ⟨q4, e4, hq4, _, ht4⟩ := (show ∃ g, u0 2 = .pointer (some ⟨g, 0, none⟩) ∧ w.heap.size ≤ g ∧ 0 < 20 ∧ W0.there g 0 20 from hG 2 (by simp))
  have hq4 : w.heap.size ≤ q4 := by have := hbel0.size; omega
  have E4 := Lib.hid e4; clear e4
  have hb := hJ.all rfl
  have hbel := Below.call hbel hb
  have HN2_3 := Lib.hid (show q2 ≠ q3 from fun e => hJ.apart 0 1 _ (by omega) (hall _ (by simp)) (hall _ (by simp)) rfl rfl (E2.out.trans (by rw [e])) E3.out)
  have HN2_4 := Lib.hid (show q2 ≠ q4 from fun e => hJ.apart 0 2 _ (by omega) (hall _ (by simp)) (hall _ (by simp)) rfl rfl (E2.out.trans (by rw [e])) E4.out)
  have HN3_4 := Lib.hid (show q3 ≠ q4 from fun e => hJ.apart 1 2 _ (by omega) (hall _ (by simp)) (hall _ (by simp)) rfl rfl (E3.out.trans (by rw [e])) E4.out)
  have hbel0 := hbel
  clear hJ hG hall hb
  go_upto_region 1 with fail
  refine wp_region_mid (fun u => #[v0, v1, u0 0, u0 1, u0 2, u 0, u 1, u 2, u 3, u 4, u 5]) (Holds [.val rP [P], .val rPr [P], .val rP [Q], .val rPr [Q], .val rE [dE2], .val rPr [Cp.add P Q], .sto q4 rPr [Cp.add P Q]] W0) (Keep [.val rP [P], .val rPr [P], .val rP [Q], .val rPr [Q], .val rE [dE2], .val rPr [Cp.add P Q], .sto q4 rPr [Cp.add P Q]] W0) (fun _ => undef) (by kernel_rfl) (by kernel_rfl) ?_ (by rfl) Keep.drew (holds_soft (by kernel_rfl)) ?_ ?_
  · intro u i v h
    rcases i with _ | _ | _ | _ | _ | _ | _ | i
    all_goals first | (simp [Act.put, putV]; done) | (exfalso; simp at h; omega)
  · intro hs
    refine ⟨?_, ?_, ?_, ?_, ?_, ?_, ?_, trivial⟩
    · exact step_load q2 0 hs (wants_none rfl) rfl rfl tyP (fun _ => E2.out) hm2.lt hm2 (fun k g hk => by rcases k with _ | _ | _ | _ | _ | _ | _ | k <;> first | (cases hk; done) | (cases hk; exact .inr (Ne.symm HN2_4.out)))
    · refine step_call hs (wants_none rfl) rfl fun L u W hJ hG hL hdep K hK => ?_
      have a0 := (show IsFs rP (u 0) [P] from hG 0 (hdep 0 (by kernel_rfl)))
      go_simp
      go_at_call 59
      (with_reducible refine (cReady a0 _).mono ?_); rintro e w1 ⟨r, rfl, hr, hb⟩
      have hk := hK.out _ _ hr hb
      exact hk
    · exact step_load q3 0 hs (wants_none rfl) rfl rfl tyP (fun _ => E3.out) hm3.lt hm3 (fun k g hk => by rcases k with _ | _ | _ | _ | _ | _ | _ | k <;> first | (cases hk; done) | (cases hk; exact .inr (Ne.symm HN3_4.out)))
    · refine step_call hs (wants_none rfl) rfl fun L u W hJ hG hL hdep K hK => ?_
      have a0 := (show IsFs rP (u 2) [Q] from hG 2 (hdep 2 (by kernel_rfl)))
      go_simp
      go_at_call 59
      (with_reducible refine (cReady a0 _).mono ?_); rintro e w1 ⟨r, rfl, hr, hb⟩
      have hk := hK.out _ _ hr hb
      exact hk
    · refine step_call hs (wants_none rfl) rfl fun L u W hJ hG hL hdep K hK => ?_
      go_simp
      go_at_call 64
      (with_reducible refine (cTwice _).mono ?_); rintro e w1 ⟨r, rfl, hr, hb⟩
      have hk := hK.out _ _ hr hb
      exact hk
    · refine step_call hs (wants_none rfl) rfl fun L u W hJ hG hL hdep K hK => ?_
      have a0 := (show IsFs rPr (u 1) [P] from hG 1 (hdep 1 (by kernel_rfl)))
      have a1 := (show IsFs rPr (u 3) [Q] from hG 3 (hdep 3 (by kernel_rfl)))
      have a2 := (show IsFs rE (u 4) [dE2] from hG 4 (hdep 4 (by kernel_rfl)))
      go_simp
      go_at_call 65
      (with_reducible refine (cSum a0 a1 a2 _).mono ?_); rintro e w1 ⟨r, rfl, hr, hb⟩
      have hk := hK.out _ _ hr hb
      exact hk
    · refine step_storeO q4 20 hs (wants_none rfl) rfl rfl (by kernel_rfl) (fun k hk => ?_) (fun _ => E4.out) (there_lt ht4 (by omega)) ht4 (gives_op 5 rfl (by kernel_rfl) (fun _ => rfl)) tyPr rfl
      rcases k with _ | _ | _ | _ | _ | _ | _ | k
      all_goals first | (exact absurd rfl hk) | (intro e; cases e; done)
  intro L1 u1 W1 hall hJ hG
  have hb : Below w.heap.size W0 W1 := hJ.below (by have := hbel.size; omega) (fun k b hf => by rcases k with _ | _ | _ | _ | _ | _ | _ | k <;> first | (cases hf; done) | (cases hf; omega))
  have hbel := hbel.trans hb
  have hm2 := hm2.blk (hJ.block _ (hm2.lt) (fun k hk => by rcases k with _ | _ | _ | _ | _ | _ | _ | k <;> first | (cases hk; done) | (cases hk; exact absurd rfl (Ne.symm HN2_4.out))))
  have hm3 := hm3.blk (hJ.block _ (hm3.lt) (fun k hk => by rcases k with _ | _ | _ | _ | _ | _ | _ | k <;> first | (cases hk; done) | (cases hk; exact absurd rfl (Ne.symm HN3_4.out))))
  have ht2 := there_blk ht2 (hJ.block _ (there_lt ht2 (by omega)) (fun k hk => by rcases k with _ | _ | _ | _ | _ | _ | _ | k <;> first | (cases hk; done) | (cases hk; exact absurd rfl (Ne.symm HN2_4.out))))
  have ht3 := there_blk ht3 (hJ.block _ (there_lt ht3 (by omega)) (fun k hk => by rcases k with _ | _ | _ | _ | _ | _ | _ | k <;> first | (cases hk; done) | (cases hk; exact absurd rfl (Ne.symm HN3_4.out))))
  obtain ⟨_, hs1_6t, hs1_6⟩ := (show _ ∧ W1.there q4 0 20 ∧ HasFs rPr W1 q4 0 [Cp.add P Q] from hG 6 (by simp))
  have hbel0 := hbel
  clear hJ hG hall hb
  go_wp2
  exact ret_cell1 (R := rPr) Try.results25 (by exact E4.out) hs1_6 tyPr rfl (fun r hr => ⟨r, rfl, toP hr, hbel⟩)
set_option maxRecDepth 100000 in
set_option maxHeartbeats 4000000 in
theorem cPNeg {v0 : Value} {P : EP} (h0 : IsFs rP v0 [P]) (w : World) :
    Calls Try.prog 21 #[v0] w fun e w' => ∃ r, e = .returned r ∧ IsFs rP r [Cp.neg P] ∧ Below w.heap.size w w' := by
  go_enter Try.func21, Try.ntmps21
  have hbel : Below w.heap.size w w := Below.refl _ _
  have hbel0 := hbel
  go_upto_region 0 with fail
  refine wp_region_turn (fun u => #[v0, u 0, u 1, undef, undef, undef, undef, undef, undef, undef, undef, undef, undef, undef, undef, undef]) (Holds [.box rP [P], .new 20] w) (Keep [.box rP [P], .new 20] w) (fun _ => undef) ?_ (by rfl) Keep.start (holds_soft (by kernel_rfl)) ?_ ?_
  · intro u i v h
    rcases i with _ | _ | i
    all_goals first | (simp [Act.put, putV]; done) | (exfalso; simp at h; omega)
  · intro hs
    refine ⟨?_, ?_, trivial⟩
    · exact step_box hs (wants_none rfl) rfl rfl (gives_c h0 (fun _ => rfl))
    · exact step_alloc hs (wants_none rfl) rfl rfl (by omega) rfl allocP
  intro L0 u0 W0 hall hJ hG
  obtain ⟨q1, e1, ⟨hq1, _⟩, ht1, hm1⟩ := (show ∃ g, u0 0 = .pointer (some ⟨g, 0, none⟩) ∧ (w.heap.size ≤ g ∧ g < W0.heap.size) ∧ W0.there g 0 20 ∧ HasFs rP W0 g 0 [P] from hG 0 (by simp))
  have hq1 : w.heap.size ≤ q1 := by have := hbel0.size; omega
  have E1 := Lib.hid e1; clear e1
  obtain ⟨q2, e2, hq2, _, ht2⟩ := (show ∃ g, u0 1 = .pointer (some ⟨g, 0, none⟩) ∧ w.heap.size ≤ g ∧ 0 < 20 ∧ W0.there g 0 20 from hG 1 (by simp))
  have hq2 : w.heap.size ≤ q2 := by have := hbel0.size; omega
  have E2 := Lib.hid e2; clear e2
  have hb := hJ.all rfl
  have hbel := Below.call hbel hb
  have HN1_2 := Lib.hid (show q1 ≠ q2 from fun e => hJ.apart 0 1 _ (by omega) (hall _ (by simp)) (hall _ (by simp)) rfl rfl (E1.out.trans (by rw [e])) E2.out)
  have hbel0 := hbel
  clear hJ hG hall hb
  go_upto_region 1 with fail
  refine wp_region_turn (fun u => #[v0, u0 0, u0 1, u 0, u 1, undef, undef, undef, undef, undef, undef, undef, undef, undef, undef, undef]) (Holds [.val rP [P], .val rPr [P], .sto q1 rPr [P]] W0) (Keep [.val rP [P], .val rPr [P], .sto q1 rPr [P]] W0) (fun _ => undef) ?_ (by rfl) Keep.start (holds_soft (by kernel_rfl)) ?_ ?_
  · intro u i v h
    rcases i with _ | _ | _ | i
    all_goals first | (simp [Act.put, putV]; done) | (exfalso; simp at h; omega)
  · intro hs
    refine ⟨?_, ?_, ?_, trivial⟩
    · exact step_load q1 0 hs (wants_none rfl) rfl rfl tyP (fun _ => E1.out) hm1.lt hm1 (fun k g hk => by rcases k with _ | _ | _ | k <;> first | (cases hk; done) | (cases hk; exact .inl (by kernel_rfl)))
    · refine step_call hs (wants_none rfl) rfl fun L u W hJ hG hL hdep K hK => ?_
      have a0 := (show IsFs rP (u 0) [P] from hG 0 (hdep 0 (by kernel_rfl)))
      go_simp
      go_at_call 59
      (with_reducible refine (cReady a0 _).mono ?_); rintro e w1 ⟨r, rfl, hr, hb⟩
      have hk := hK.out _ _ hr hb
      exact hk
    · refine step_storeO q1 20 hs (wants_none rfl) rfl rfl (by kernel_rfl) (fun k hk => ?_) (fun _ => E1.out) (there_lt ht1 (by omega)) ht1 (gives_op 1 rfl (by kernel_rfl) (fun _ => rfl)) tyPr rfl
      rcases k with _ | _ | _ | k
      all_goals first | (exact absurd rfl hk) | (intro e; cases e; done)
  intro L1 u1 W1 hall hJ hG
  have hb : Below w.heap.size W0 W1 := hJ.below (by have := hbel.size; omega) (fun k b hf => by rcases k with _ | _ | _ | k <;> first | (cases hf; done) | (cases hf; omega))
  have hbel := hbel.trans hb
  have ht2 := there_blk ht2 (hJ.block _ (there_lt ht2 (by omega)) (fun k hk => by rcases k with _ | _ | _ | k <;> first | (cases hk; done) | (cases hk; exact absurd rfl HN1_2.out)))
  obtain ⟨_, hs1_2t, hs1_2⟩ := (show _ ∧ W1.there q1 0 20 ∧ HasFs rPr W1 q1 0 [P] from hG 2 (by simp))
  have hbel0 := hbel
  clear hJ hG hall hb
  obtain ⟨pax, pay, paz, pat, hmpa, hppa⟩ := of_hasPr hs1_2
  go_upto_region 2 with fail
  refine wp_region_mid (fun u => #[v0, u0 0, u0 1, u1 0, u1 1, u 0, u 1, u 2, u 3, u 4, u 5, u 6, u 7, u 8, u 9, u 10]) (Holds [.ptr q1 0, .val rE [pax], .val rE [-pax], .ptr q1 5, .val rE [pay], .ptr q1 10, .val rE [paz], .ptr q1 15, .val rE [pat], .val rE [-pat], .val rE [-pax, pay, paz, -pat], .sto q2 rE [-pax, pay, paz, -pat]] W1) (Keep [.ptr q1 0, .val rE [pax], .val rE [-pax], .ptr q1 5, .val rE [pay], .ptr q1 10, .val rE [paz], .ptr q1 15, .val rE [pat], .val rE [-pat], .val rE [-pax, pay, paz, -pat], .sto q2 rE [-pax, pay, paz, -pat]] W1) (fun _ => undef) (by kernel_rfl) (by kernel_rfl) ?_ (by rfl) Keep.drew (holds_soft (by kernel_rfl)) ?_ ?_
  · intro u i v h
    rcases i with _ | _ | _ | _ | _ | _ | _ | _ | _ | _ | _ | _ | i
    all_goals first | (simp [Act.put, putV]; done) | (exfalso; simp at h; omega)
  · intro hs
    refine ⟨?_, ?_, ?_, ?_, ?_, ?_, ?_, ?_, ?_, ?_, ?_, ?_, trivial⟩
    · exact step_field hs (wants_none rfl) rfl rfl (fun _ => E1.out) (field_P0 _)
    · exact step_loadF 0 q1 0 hs (wants_none rfl) rfl rfl tyE (fun _ => rfl) rfl (by kernel_rfl) hmpa.lt (hmpa.fld 0 1) (fun k g hk => by rcases k with _ | _ | _ | _ | _ | _ | _ | _ | _ | _ | _ | _ | k <;> first | (cases hk; done) | (cases hk; exact .inr (Ne.symm HN1_2.out)))
    · refine step_call hs (wants_none rfl) rfl fun L u W hJ hG hL hdep K hK => ?_
      have a0 := (show IsFs rE (u 1) [pax] from hG 1 (hdep 1 (by kernel_rfl)))
      go_simp
      go_at_call 47
      (with_reducible refine (cNeg a0 _).mono ?_); rintro e w1 ⟨r, rfl, hr, hb⟩
      have hk := hK.out _ _ hr hb
      exact hk
    · exact step_field hs (wants_none rfl) rfl rfl (fun _ => E1.out) (field_P1 _)
    · exact step_loadF 3 q1 5 hs (wants_none rfl) rfl rfl tyE (fun _ => rfl) rfl (by kernel_rfl) hmpa.lt (hmpa.fld 1 1) (fun k g hk => by rcases k with _ | _ | _ | _ | _ | _ | _ | _ | _ | _ | _ | _ | k <;> first | (cases hk; done) | (cases hk; exact .inr (Ne.symm HN1_2.out)))
    · exact step_field hs (wants_none rfl) rfl rfl (fun _ => E1.out) (field_P2 _)
    · exact step_loadF 5 q1 10 hs (wants_none rfl) rfl rfl tyE (fun _ => rfl) rfl (by kernel_rfl) hmpa.lt (hmpa.fld 2 1) (fun k g hk => by rcases k with _ | _ | _ | _ | _ | _ | _ | _ | _ | _ | _ | _ | k <;> first | (cases hk; done) | (cases hk; exact .inr (Ne.symm HN1_2.out)))
    · exact step_field hs (wants_none rfl) rfl rfl (fun _ => E1.out) (field_P3 _)
    · exact step_loadF 7 q1 15 hs (wants_none rfl) rfl rfl tyE (fun _ => rfl) rfl (by kernel_rfl) hmpa.lt (hmpa.fld 3 1) (fun k g hk => by rcases k with _ | _ | _ | _ | _ | _ | _ | _ | _ | _ | _ | _ | k <;> first | (cases hk; done) | (cases hk; exact .inr (Ne.symm HN1_2.out)))
    · refine step_call hs (wants_none rfl) rfl fun L u W hJ hG hL hdep K hK => ?_
      have a0 := (show IsFs rE (u 8) [pat] from hG 8 (hdep 8 (by kernel_rfl)))
      go_simp
      go_at_call 47
      (with_reducible refine (cNeg a0 _).mono ?_); rintro e w1 ⟨r, rfl, hr, hb⟩
      have hk := hK.out _ _ hr hb
      exact hk
    · refine step_pure hs (wants_none rfl) rfl fun L u W hG hdep => ?_
      have a0 := (show IsFs rE (u 2) [-pax] from hG 2 (hdep 2 (by kernel_rfl)))
      have a1 := (show IsFs rE (u 4) [pay] from hG 4 (hdep 4 (by kernel_rfl)))
      have a2 := (show IsFs rE (u 6) [paz] from hG 6 (hdep 6 (by kernel_rfl)))
      have a3 := (show IsFs rE (u 9) [-pat] from hG 9 (hdep 9 (by kernel_rfl)))
      obtain ⟨r, hr, hx⟩ := build_P a0 a1 a2 a3 W
      exact ⟨r, run_build4 rfl hr, hx⟩
    · refine step_storeO q2 20 hs (wants_none rfl) rfl rfl (by kernel_rfl) (fun k hk => ?_) (fun _ => E2.out) (there_lt ht2 (by omega)) ht2 (gives_op 10 rfl (by kernel_rfl) (fun _ => rfl)) tyP4 rfl
      rcases k with _ | _ | _ | _ | _ | _ | _ | _ | _ | _ | _ | _ | k
      all_goals first | (exact absurd rfl hk) | (intro e; cases e; done)
  intro L2 u2 W2 hall hJ hG
  have hb : Below w.heap.size W1 W2 := hJ.below (by have := hbel.size; omega) (fun k b hf => by rcases k with _ | _ | _ | _ | _ | _ | _ | _ | _ | _ | _ | _ | k <;> first | (cases hf; done) | (cases hf; omega))
  have hbel := hbel.trans hb
  have hmpa := hmpa.blk (hJ.block _ (hmpa.lt) (fun k hk => by rcases k with _ | _ | _ | _ | _ | _ | _ | _ | _ | _ | _ | _ | k <;> first | (cases hk; done) | (cases hk; exact absurd rfl (Ne.symm HN1_2.out))))
  have hs1_2t := there_blk hs1_2t (hJ.block _ (there_lt hs1_2t (by omega)) (fun k hk => by rcases k with _ | _ | _ | _ | _ | _ | _ | _ | _ | _ | _ | _ | k <;> first | (cases hk; done) | (cases hk; exact absurd rfl (Ne.symm HN1_2.out))))
  obtain ⟨_, hs2_11t, hs2_11⟩ := (show _ ∧ W2.there q2 0 20 ∧ HasFs rE W2 q2 0 [-pax, pay, paz, -pat] from hG 11 (by simp))
  have hbel0 := hbel
  clear hJ hG hall hb
  go_wp2
  exact ret_cell1 (R := rE) Try.results21 (by exact E2.out) hs2_11 tyP4 rfl (fun r hr => ⟨r, rfl, toP (isPr hr hppa.neg), hbel⟩)
set_option maxRecDepth 100000 in
set_option maxHeartbeats 4000000 in
theorem psame_0 {v0 v1 : Value} {P Q : EP} (h0 : IsFs rP v0 [P]) (h1 : IsFs rP v1 [Q]) (hx : P.x ≠ Q.x) (w : World) :
    Calls Try.prog 19 #[v0, v1] w fun e w' => e = .returned (.bool false) ∧ Below w.heap.size w w' := by
  have HX := Lib.hid hx; clear hx
  go_enter Try.func19, Try.ntmps19
  have hbel : Below w.heap.size w w := Below.refl _ _
  have hbel0 := hbel
  go_upto_region 0 with fail
  refine wp_region_turn (fun u => #[v0, v1, u 0, u 1, u 2, undef, undef, undef, undef, undef, undef, undef, undef, undef, undef, undef, undef, undef, undef, undef, undef, undef, undef, undef, undef, undef, undef, undef, undef, undef, undef, undef, undef]) (Holds [.box rP [P], .box rP [Q], .oth (fun v => v = .bool false)] w) (Keep [.box rP [P], .box rP [Q], .oth (fun v => v = .bool false)] w) (fun _ => undef) ?_ (by rfl) Keep.start (holds_soft (by kernel_rfl)) ?_ ?_
  · intro u i v h
    rcases i with _ | _ | _ | i
    all_goals first | (simp [Act.put, putV]; done) | (exfalso; simp at h; omega)
  · intro hs
    refine ⟨?_, ?_, ?_, trivial⟩
    · exact step_box hs (wants_none rfl) rfl rfl (gives_c h0 (fun _ => rfl))
    · exact step_box hs (wants_none rfl) rfl rfl (gives_c h1 (fun _ => rfl))
    · exact step_pureO hs (wants_none rfl) rfl fun L u W hG hdep => ⟨_, run_assign rfl, rfl⟩
  intro L0 u0 W0 hall hJ hG
  obtain ⟨q2, e2, ⟨hq2, _⟩, ht2, hm2⟩ := (show ∃ g, u0 0 = .pointer (some ⟨g, 0, none⟩) ∧ (w.heap.size ≤ g ∧ g < W0.heap.size) ∧ W0.there g 0 20 ∧ HasFs rP W0 g 0 [P] from hG 0 (by simp))
  have hq2 : w.heap.size ≤ q2 := by have := hbel0.size; omega
  have E2 := Lib.hid e2; clear e2
  obtain ⟨q3, e3, ⟨hq3, _⟩, ht3, hm3⟩ := (show ∃ g, u0 1 = .pointer (some ⟨g, 0, none⟩) ∧ (w.heap.size ≤ g ∧ g < W0.heap.size) ∧ W0.there g 0 20 ∧ HasFs rP W0 g 0 [Q] from hG 1 (by simp))
  have hq3 : w.heap.size ≤ q3 := by have := hbel0.size; omega
  have E3 := Lib.hid e3; clear e3
  have hb := hJ.all rfl
  have hbel := Below.call hbel hb
  have HN2_3 := Lib.hid (show q2 ≠ q3 from fun e => hJ.apart 0 1 _ (by omega) (hall _ (by simp)) (hall _ (by simp)) rfl rfl (E2.out.trans (by rw [e])) E3.out)
  have HC4 := Lib.hid (show u0 2 = .bool false from hG 2 (by simp))
  have hbel0 := hbel
  clear hJ hG hall hb
  go_upto_region 1 with fail
  refine wp_region_mid (fun u => #[v0, v1, u0 0, u0 1, u0 2, u 0, u 1, u 2, u 3, undef, undef, undef, undef, undef, undef, undef, undef, undef, undef, undef, undef, undef, undef, undef, undef, undef, undef, undef, undef, undef, undef, undef, undef]) (Holds [.val rP [P], .val rPr [P], .val rP [Q], .val rPr [Q], .sto q2 rPr [P], .sto q3 rPr [Q]] W0) (Keep [.val rP [P], .val rPr [P], .val rP [Q], .val rPr [Q], .sto q2 rPr [P], .sto q3 rPr [Q]] W0) (fun _ => undef) (by kernel_rfl) (by kernel_rfl) ?_ (by rfl) Keep.drew (holds_soft (by kernel_rfl)) ?_ ?_
  · intro u i v h
    rcases i with _ | _ | _ | _ | _ | _ | i
    all_goals first | (simp [Act.put, putV]; done) | (exfalso; simp at h; omega)
  · intro hs
    refine ⟨?_, ?_, ?_, ?_, ?_, ?_, trivial⟩
    · exact step_load q2 0 hs (wants_none rfl) rfl rfl tyP (fun _ => E2.out) hm2.lt hm2 (fun k g hk => by rcases k with _ | _ | _ | _ | _ | _ | k <;> first | (cases hk; done) | (cases hk; exact .inr (Ne.symm HN2_3.out)) | (cases hk; exact .inl (by kernel_rfl)))
    · refine step_call hs (wants_none rfl) rfl fun L u W hJ hG hL hdep K hK => ?_
      have a0 := (show IsFs rP (u 0) [P] from hG 0 (hdep 0 (by kernel_rfl)))
      go_simp
      go_at_call 59
      (with_reducible refine (cReady a0 _).mono ?_); rintro e w1 ⟨r, rfl, hr, hb⟩
      have hk := hK.out _ _ hr hb
      exact hk
    · exact step_load q3 0 hs (wants_none rfl) rfl rfl tyP (fun _ => E3.out) hm3.lt hm3 (fun k g hk => by rcases k with _ | _ | _ | _ | _ | _ | k <;> first | (cases hk; done) | (cases hk; exact .inr HN2_3.out) | (cases hk; exact .inl (by kernel_rfl)))
    · refine step_call hs (wants_none rfl) rfl fun L u W hJ hG hL hdep K hK => ?_
      have a0 := (show IsFs rP (u 2) [Q] from hG 2 (hdep 2 (by kernel_rfl)))
      go_simp
      go_at_call 59
      (with_reducible refine (cReady a0 _).mono ?_); rintro e w1 ⟨r, rfl, hr, hb⟩
      have hk := hK.out _ _ hr hb
      exact hk
    · refine step_storeO q2 20 hs (wants_none rfl) rfl rfl (by kernel_rfl) (fun k hk => ?_) (fun _ => E2.out) (there_lt ht2 (by omega)) ht2 (gives_op 1 rfl (by kernel_rfl) (fun _ => rfl)) tyPr rfl
      rcases k with _ | _ | _ | _ | _ | _ | k
      all_goals first | (exact absurd rfl hk) | (intro e; cases e; done) | (intro e; cases e; exact absurd rfl (Ne.symm HN2_3.out))
    · refine step_storeO q3 20 hs (wants_none rfl) rfl rfl (by kernel_rfl) (fun k hk => ?_) (fun _ => E3.out) (there_lt ht3 (by omega)) ht3 (gives_op 3 rfl (by kernel_rfl) (fun _ => rfl)) tyPr rfl
      rcases k with _ | _ | _ | _ | _ | _ | k
      all_goals first | (exact absurd rfl hk) | (intro e; cases e; done) | (intro e; cases e; exact absurd rfl HN2_3.out)
  intro L1 u1 W1 hall hJ hG
  have hb : Below w.heap.size W0 W1 := hJ.below (by have := hbel.size; omega) (fun k b hf => by rcases k with _ | _ | _ | _ | _ | _ | k <;> first | (cases hf; done) | (cases hf; omega))
  have hbel := hbel.trans hb
  obtain ⟨_, hs1_4t, hs1_4⟩ := (show _ ∧ W1.there q2 0 20 ∧ HasFs rPr W1 q2 0 [P] from hG 4 (by simp))
  obtain ⟨_, hs1_5t, hs1_5⟩ := (show _ ∧ W1.there q3 0 20 ∧ HasFs rPr W1 q3 0 [Q] from hG 5 (by simp))
  have hbel0 := hbel
  clear hJ hG hall hb
  obtain ⟨pax, pay, paz, pat, hmpa, hppa⟩ := of_hasPr hs1_4
  obtain ⟨pbx, pby, pbz, pbt, hmpb, hppb⟩ := of_hasPr hs1_5
  go_upto_region 2 with fail
  refine wp_region_mid (fun u => #[v0, v1, u0 0, u0 1, u 24, u1 0, u1 1, u1 2, u1 3, u 0, u 1, u 2, u 3, u 4, u 5, u 6, u 7, u 8, u 9, u 10, u 11, u 12, u 13, u 14, u 15, u 16, u 17, u 18, u 19, u 20, u 21, u 22, u 23]) (Holds [.ptr q2 0, .val rE [pax], .ptr q3 10, .val rE [pbz], .val rE [pax * pbz], .ptr q3 0, .val rE [pbx], .ptr q2 10, .val rE [paz], .val rE [pbx * paz], .oth (fun v => v = .bool false), .oth (fun v => v = .bool false), .oth (fun v => v = undef), .oth (fun v => v = undef), .oth (fun v => v = undef), .oth (fun v => v = undef), .oth (fun v => v = undef), .oth (fun v => v = undef), .oth (fun v => v = undef), .oth (fun v => v = undef), .oth (fun v => v = undef), .oth (fun v => v = undef), .oth (fun v => v = undef), .oth (fun v => v = .bool false), .oth (fun v => v = .bool false)] W1) (Keep [.ptr q2 0, .val rE [pax], .ptr q3 10, .val rE [pbz], .val rE [pax * pbz], .ptr q3 0, .val rE [pbx], .ptr q2 10, .val rE [paz], .val rE [pbx * paz], .oth (fun v => v = .bool false), .oth (fun v => v = .bool false), .oth (fun v => v = undef), .oth (fun v => v = undef), .oth (fun v => v = undef), .oth (fun v => v = undef), .oth (fun v => v = undef), .oth (fun v => v = undef), .oth (fun v => v = undef), .oth (fun v => v = undef), .oth (fun v => v = undef), .oth (fun v => v = undef), .oth (fun v => v = undef), .oth (fun v => v = .bool false), .oth (fun v => v = .bool false)] W1) (fun k => ((undef :: undef :: undef :: undef :: undef :: undef :: undef :: undef :: undef :: undef :: undef :: undef :: undef :: undef :: undef :: undef :: undef :: undef :: undef :: undef :: undef :: undef :: undef :: undef :: u0 2 :: []) : List Value).getD k undef) (by kernel_rfl) (by kernel_rfl) ?_ (by rfl) Keep.drew (holds_soft (by kernel_rfl)) ?_ ?_
  · intro u i v h
    rcases i with _ | _ | _ | _ | _ | _ | _ | _ | _ | _ | _ | _ | _ | _ | _ | _ | _ | _ | _ | _ | _ | _ | _ | _ | _ | i
    iterate 25 kernel_rfl
    exfalso; simp at h; omega
  · intro hs
    refine ⟨?_, ?_, ?_, ?_, ?_, ?_, ?_, ?_, ?_, ?_, ?_, ?_, ?_, ?_, ?_, ?_, ?_, ?_, ?_, ?_, ?_, ?_, ?_, ?_, ?_, trivial⟩
    · exact step_field hs (wants_none rfl) rfl rfl (fun _ => E2.out) (field_P0 _)
    · exact step_loadF 0 q2 0 hs (wants_none rfl) rfl rfl tyE (fun _ => rfl) rfl (by kernel_rfl) hmpa.lt (hmpa.fld 0 1) (noSto_apart (by kernel_rfl))
    · exact step_field hs (wants_none rfl) rfl rfl (fun _ => E3.out) (field_P2 _)
    · exact step_loadF 2 q3 10 hs (wants_none rfl) rfl rfl tyE (fun _ => rfl) rfl (by kernel_rfl) hmpb.lt (hmpb.fld 2 1) (noSto_apart (by kernel_rfl))
    · refine step_call hs (wants_none rfl) rfl fun L u W hJ hG hL hdep K hK => ?_
      have a0 := (show IsFs rE (u 1) [pax] from hG 1 (hdep 1 (by kernel_rfl)))
      have a1 := (show IsFs rE (u 3) [pbz] from hG 3 (hdep 3 (by kernel_rfl)))
      go_simp
      go_at_call 38
      (with_reducible refine (cMul a0 a1 _).mono ?_); rintro e w1 ⟨r, rfl, hr, hb⟩
      have hk := hK.out _ _ hr hb
      exact hk
    · exact step_field hs (wants_none rfl) rfl rfl (fun _ => E3.out) (field_P0 _)
    · exact step_loadF 5 q3 0 hs (wants_none rfl) rfl rfl tyE (fun _ => rfl) rfl (by kernel_rfl) hmpb.lt (hmpb.fld 0 1) (noSto_apart (by kernel_rfl))
    · exact step_field hs (wants_none rfl) rfl rfl (fun _ => E2.out) (field_P2 _)
    · exact step_loadF 7 q2 10 hs (wants_none rfl) rfl rfl tyE (fun _ => rfl) rfl (by kernel_rfl) hmpa.lt (hmpa.fld 2 1) (noSto_apart (by kernel_rfl))
    · refine step_call hs (wants_none rfl) rfl fun L u W hJ hG hL hdep K hK => ?_
      have a0 := (show IsFs rE (u 6) [pbx] from hG 6 (hdep 6 (by kernel_rfl)))
      have a1 := (show IsFs rE (u 8) [paz] from hG 8 (hdep 8 (by kernel_rfl)))
      go_simp
      go_at_call 38
      (with_reducible refine (cMul a0 a1 _).mono ?_); rintro e w1 ⟨r, rfl, hr, hb⟩
      have hk := hK.out _ _ hr hb
      exact hk
    · refine step_callO hs (wants_none rfl) rfl fun L u W hJ hG hL hdep K hK => ?_
      have a0 := (show IsFs rE (u 4) [pax * pbz] from hG 4 (hdep 4 (by kernel_rfl)))
      have a1 := (show IsFs rE (u 9) [pbx * paz] from hG 9 (hdep 9 (by kernel_rfl)))
      go_simp
      go_at_call 44
      (with_reducible refine (cSame (b := false) (decide_eq_false fun e => absurd (Prep.same_x hppa.p hppb.p e) HX.out) a0 a1 _).mono ?_); rintro e w1 ⟨rfl, hb⟩
      have hk := hK.out _ _ rfl hb
      exact hk
    · exact step_pureO hs (wants_none rfl) rfl fun L u W hG hdep => ⟨_, run_move rfl, (show u 10 = .bool false from hG 10 (hdep 10 (by kernel_rfl)))⟩
    · exact step_outU hs (wants_off 11 rfl rfl rfl (by kernel_rfl) (fun _ => rfl)) rfl
    · exact step_outU hs (wants_off 11 rfl rfl rfl (by kernel_rfl) (fun _ => rfl)) rfl
    · exact step_outU hs (wants_off 11 rfl rfl rfl (by kernel_rfl) (fun _ => rfl)) rfl
    · exact step_outU hs (wants_off 11 rfl rfl rfl (by kernel_rfl) (fun _ => rfl)) rfl
    · exact step_outU hs (wants_off 11 rfl rfl rfl (by kernel_rfl) (fun _ => rfl)) rfl
    · exact step_outU hs (wants_off 11 rfl rfl rfl (by kernel_rfl) (fun _ => rfl)) rfl
    · exact step_outU hs (wants_off 11 rfl rfl rfl (by kernel_rfl) (fun _ => rfl)) rfl
    · exact step_outU hs (wants_off 11 rfl rfl rfl (by kernel_rfl) (fun _ => rfl)) rfl
    · exact step_outU hs (wants_off 11 rfl rfl rfl (by kernel_rfl) (fun _ => rfl)) rfl
    · exact step_outU hs (wants_off 11 rfl rfl rfl (by kernel_rfl) (fun _ => rfl)) rfl
    · exact step_outU hs (wants_off 11 rfl rfl rfl (by kernel_rfl) (fun _ => rfl)) rfl
    · exact step_pick false hs (wants_none rfl) rfl rfl (fun L u W hG hdep => (show u 11 = .bool false from hG 11 (hdep 11 (by kernel_rfl)))) (fun L u W hG hdep => rfl)
    · exact step_pureO hs (wants_none rfl) rfl fun L u W hG hdep => ⟨_, run_assign rfl, (show u 23 = .bool false from hG 23 (hdep 23 (by kernel_rfl)))⟩
  intro L2 u2 W2 hall hJ hG
  have hb := hJ.all rfl
  have hbel := Below.call hbel hb
  have hmpa := hmpa.later hb
  have hmpb := hmpb.later hb
  have hs1_4t := there_later hs1_4t hb
  have hs1_5t := there_later hs1_5t hb
  have HC19 := Lib.hid (show u2 10 = .bool false from hG 10 (by simp))
  have HC20 := Lib.hid (show u2 11 = .bool false from hG 11 (by simp))
  have HC32 := Lib.hid (show u2 23 = .bool false from hG 23 (by simp))
  have HC4 := Lib.hid (show u2 24 = .bool false from hG 24 (by simp))
  have hbel0 := hbel
  clear hJ hG hall hb
  rw [HC4.out]
  go_wp2
  go_ret
  exact ⟨rfl, hbel⟩
set_option maxRecDepth 100000 in
set_option maxHeartbeats 4000000 in
theorem psame_1 {v0 v1 : Value} {P Q : EP} {q : Bool} (h0 : IsFs rP v0 [P]) (h1 : IsFs rP v1 [Q]) (hx : P.x = Q.x) (hq : decide (P = Q) = q) (w : World) :
    Calls Try.prog 19 #[v0, v1] w fun e w' => e = .returned (.bool q) ∧ Below w.heap.size w w' := by
  have HX := Lib.hid hx; clear hx
  have HQ := Lib.hid hq; clear hq
  go_enter Try.func19, Try.ntmps19
  have hbel : Below w.heap.size w w := Below.refl _ _
  have hbel0 := hbel
  go_upto_region 0 with fail
  refine wp_region_turn (fun u => #[v0, v1, u 0, u 1, u 2, undef, undef, undef, undef, undef, undef, undef, undef, undef, undef, undef, undef, undef, undef, undef, undef, undef, undef, undef, undef, undef, undef, undef, undef, undef, undef, undef, undef]) (Holds [.box rP [P], .box rP [Q], .oth (fun v => v = .bool false)] w) (Keep [.box rP [P], .box rP [Q], .oth (fun v => v = .bool false)] w) (fun _ => undef) ?_ (by rfl) Keep.start (holds_soft (by kernel_rfl)) ?_ ?_
  · intro u i v h
    rcases i with _ | _ | _ | i
    all_goals first | (simp [Act.put, putV]; done) | (exfalso; simp at h; omega)
  · intro hs
    refine ⟨?_, ?_, ?_, trivial⟩
    · exact step_box hs (wants_none rfl) rfl rfl (gives_c h0 (fun _ => rfl))
    · exact step_box hs (wants_none rfl) rfl rfl (gives_c h1 (fun _ => rfl))
    · exact step_pureO hs (wants_none rfl) rfl fun L u W hG hdep => ⟨_, run_assign rfl, rfl⟩
  intro L0 u0 W0 hall hJ hG
  obtain ⟨q2, e2, ⟨hq2, _⟩, ht2, hm2⟩ := (show ∃ g, u0 0 = .pointer (some ⟨g, 0, none⟩) ∧ (w.heap.size ≤ g ∧ g < W0.heap.size) ∧ W0.there g 0 20 ∧ HasFs rP W0 g 0 [P] from hG 0 (by simp))
  have hq2 : w.heap.size ≤ q2 := by have := hbel0.size; omega
  have E2 := Lib.hid e2; clear e2
  obtain ⟨q3, e3, ⟨hq3, _⟩, ht3, hm3⟩ := (show ∃ g, u0 1 = .pointer (some ⟨g, 0, none⟩) ∧ (w.heap.size ≤ g ∧ g < W0.heap.size) ∧ W0.there g 0 20 ∧ HasFs rP W0 g 0 [Q] from hG 1 (by simp))
  have hq3 : w.heap.size ≤ q3 := by have := hbel0.size; omega
  have E3 := Lib.hid e3; clear e3
  have hb := hJ.all rfl
  have hbel := Below.call hbel hb
  have HN2_3 := Lib.hid (show q2 ≠ q3 from fun e => hJ.apart 0 1 _ (by omega) (hall _ (by simp)) (hall _ (by simp)) rfl rfl (E2.out.trans (by rw [e])) E3.out)
  have HC4 := Lib.hid (show u0 2 = .bool false from hG 2 (by simp))
  have hbel0 := hbel
  clear hJ hG hall hb
  go_upto_region 1 with fail
  refine wp_region_mid (fun u => #[v0, v1, u0 0, u0 1, u0 2, u 0, u 1, u 2, u 3, undef, undef, undef, undef, undef, undef, undef, undef, undef, undef, undef, undef, undef, undef, undef, undef, undef, undef, undef, undef, undef, undef, undef, undef]) (Holds [.val rP [P], .val rPr [P], .val rP [Q], .val rPr [Q], .sto q2 rPr [P], .sto q3 rPr [Q]] W0) (Keep [.val rP [P], .val rPr [P], .val rP [Q], .val rPr [Q], .sto q2 rPr [P], .sto q3 rPr [Q]] W0) (fun _ => undef) (by kernel_rfl) (by kernel_rfl) ?_ (by rfl) Keep.drew (holds_soft (by kernel_rfl)) ?_ ?_
  · intro u i v h
    rcases i with _ | _ | _ | _ | _ | _ | i
    all_goals first | (simp [Act.put, putV]; done) | (exfalso; simp at h; omega)
  · intro hs
    refine ⟨?_, ?_, ?_, ?_, ?_, ?_, trivial⟩
    · exact step_load q2 0 hs (wants_none rfl) rfl rfl tyP (fun _ => E2.out) hm2.lt hm2 (fun k g hk => by rcases k with _ | _ | _ | _ | _ | _ | k <;> first | (cases hk; done) | (cases hk; exact .inr (Ne.symm HN2_3.out)) | (cases hk; exact .inl (by kernel_rfl)))
    · refine step_call hs (wants_none rfl) rfl fun L u W hJ hG hL hdep K hK => ?_
      have a0 := (show IsFs rP (u 0) [P] from hG 0 (hdep 0 (by kernel_rfl)))
      go_simp
      go_at_call 59
      (with_reducible refine (cReady a0 _).mono ?_); rintro e w1 ⟨r, rfl, hr, hb⟩
      have hk := hK.out _ _ hr hb
      exact hk
    · exact step_load q3 0 hs (wants_none rfl) rfl rfl tyP (fun _ => E3.out) hm3.lt hm3 (fun k g hk => by rcases k with _ | _ | _ | _ | _ | _ | k <;> first | (cases hk; done) | (cases hk; exact .inr HN2_3.out) | (cases hk; exact .inl (by kernel_rfl)))
    · refine step_call hs (wants_none rfl) rfl fun L u W hJ hG hL hdep K hK => ?_
      have a0 := (show IsFs rP (u 2) [Q] from hG 2 (hdep 2 (by kernel_rfl)))
      go_simp
      go_at_call 59
      (with_reducible refine (cReady a0 _).mono ?_); rintro e w1 ⟨r, rfl, hr, hb⟩
      have hk := hK.out _ _ hr hb
      exact hk
    · refine step_storeO q2 20 hs (wants_none rfl) rfl rfl (by kernel_rfl) (fun k hk => ?_) (fun _ => E2.out) (there_lt ht2 (by omega)) ht2 (gives_op 1 rfl (by kernel_rfl) (fun _ => rfl)) tyPr rfl
      rcases k with _ | _ | _ | _ | _ | _ | k
      all_goals first | (exact absurd rfl hk) | (intro e; cases e; done) | (intro e; cases e; exact absurd rfl (Ne.symm HN2_3.out))
    · refine step_storeO q3 20 hs (wants_none rfl) rfl rfl (by kernel_rfl) (fun k hk => ?_) (fun _ => E3.out) (there_lt ht3 (by omega)) ht3 (gives_op 3 rfl (by kernel_rfl) (fun _ => rfl)) tyPr rfl
      rcases k with _ | _ | _ | _ | _ | _ | k
      all_goals first | (exact absurd rfl hk) | (intro e; cases e; done) | (intro e; cases e; exact absurd rfl HN2_3.out)
  intro L1 u1 W1 hall hJ hG
  have hb : Below w.heap.size W0 W1 := hJ.below (by have := hbel.size; omega) (fun k b hf => by rcases k with _ | _ | _ | _ | _ | _ | k <;> first | (cases hf; done) | (cases hf; omega))
  have hbel := hbel.trans hb
  obtain ⟨_, hs1_4t, hs1_4⟩ := (show _ ∧ W1.there q2 0 20 ∧ HasFs rPr W1 q2 0 [P] from hG 4 (by simp))
  obtain ⟨_, hs1_5t, hs1_5⟩ := (show _ ∧ W1.there q3 0 20 ∧ HasFs rPr W1 q3 0 [Q] from hG 5 (by simp))
  have hbel0 := hbel
  clear hJ hG hall hb
  obtain ⟨pax, pay, paz, pat, hmpa, hppa⟩ := of_hasPr hs1_4
  obtain ⟨pbx, pby, pbz, pbt, hmpb, hppb⟩ := of_hasPr hs1_5
  go_upto_region 2 with fail
  refine wp_region_mid (fun u => #[v0, v1, u0 0, u0 1, u 24, u1 0, u1 1, u1 2, u1 3, u 0, u 1, u 2, u 3, u 4, u 5, u 6, u 7, u 8, u 9, u 10, u 11, u 12, u 13, u 14, u 15, u 16, u 17, u 18, u 19, u 20, u 21, u 22, u 23]) (Holds [.ptr q2 0, .val rE [pax], .ptr q3 10, .val rE [pbz], .val rE [pax * pbz], .ptr q3 0, .val rE [pbx], .ptr q2 10, .val rE [paz], .val rE [pbx * paz], .oth (fun v => v = .bool true), .oth (fun v => v = .bool true), .ptr q2 5, .val rE [pay], .ptr q3 10, .val rE [pbz], .val rE [pay * pbz], .ptr q3 5, .val rE [pby], .ptr q2 10, .val rE [paz], .val rE [pby * paz], .oth (fun v => v = .bool q), .oth (fun v => v = .bool q), .oth (fun v => v = .bool q)] W1) (Keep [.ptr q2 0, .val rE [pax], .ptr q3 10, .val rE [pbz], .val rE [pax * pbz], .ptr q3 0, .val rE [pbx], .ptr q2 10, .val rE [paz], .val rE [pbx * paz], .oth (fun v => v = .bool true), .oth (fun v => v = .bool true), .ptr q2 5, .val rE [pay], .ptr q3 10, .val rE [pbz], .val rE [pay * pbz], .ptr q3 5, .val rE [pby], .ptr q2 10, .val rE [paz], .val rE [pby * paz], .oth (fun v => v = .bool q), .oth (fun v => v = .bool q), .oth (fun v => v = .bool q)] W1) (fun k => ((undef :: undef :: undef :: undef :: undef :: undef :: undef :: undef :: undef :: undef :: undef :: undef :: undef :: undef :: undef :: undef :: undef :: undef :: undef :: undef :: undef :: undef :: undef :: undef :: u0 2 :: []) : List Value).getD k undef) (by kernel_rfl) (by kernel_rfl) ?_ (by rfl) Keep.drew (holds_soft (by kernel_rfl)) ?_ ?_
  · intro u i v h
    rcases i with _ | _ | _ | _ | _ | _ | _ | _ | _ | _ | _ | _ | _ | _ | _ | _ | _ | _ | _ | _ | _ | _ | _ | _ | _ | i
    iterate 25 kernel_rfl
    exfalso; simp at h; omega
  · intro hs
    refine ⟨?_, ?_, ?_, ?_, ?_, ?_, ?_, ?_, ?_, ?_, ?_, ?_, ?_, ?_, ?_, ?_, ?_, ?_, ?_, ?_, ?_, ?_, ?_, ?_, ?_, trivial⟩
    · exact step_field hs (wants_none rfl) rfl rfl (fun _ => E2.out) (field_P0 _)
    · exact step_loadF 0 q2 0 hs (wants_none rfl) rfl rfl tyE (fun _ => rfl) rfl (by kernel_rfl) hmpa.lt (hmpa.fld 0 1) (noSto_apart (by kernel_rfl))
    · exact step_field hs (wants_none rfl) rfl rfl (fun _ => E3.out) (field_P2 _)
    · exact step_loadF 2 q3 10 hs (wants_none rfl) rfl rfl tyE (fun _ => rfl) rfl (by kernel_rfl) hmpb.lt (hmpb.fld 2 1) (noSto_apart (by kernel_rfl))
    · refine step_call hs (wants_none rfl) rfl fun L u W hJ hG hL hdep K hK => ?_
      have a0 := (show IsFs rE (u 1) [pax] from hG 1 (hdep 1 (by kernel_rfl)))
      have a1 := (show IsFs rE (u 3) [pbz] from hG 3 (hdep 3 (by kernel_rfl)))
      go_simp
      go_at_call 38
      (with_reducible refine (cMul a0 a1 _).mono ?_); rintro e w1 ⟨r, rfl, hr, hb⟩
      have hk := hK.out _ _ hr hb
      exact hk
    · exact step_field hs (wants_none rfl) rfl rfl (fun _ => E3.out) (field_P0 _)
    · exact step_loadF 5 q3 0 hs (wants_none rfl) rfl rfl tyE (fun _ => rfl) rfl (by kernel_rfl) hmpb.lt (hmpb.fld 0 1) (noSto_apart (by kernel_rfl))
    · exact step_field hs (wants_none rfl) rfl rfl (fun _ => E2.out) (field_P2 _)
    · exact step_loadF 7 q2 10 hs (wants_none rfl) rfl rfl tyE (fun _ => rfl) rfl (by kernel_rfl) hmpa.lt (hmpa.fld 2 1) (noSto_apart (by kernel_rfl))
    · refine step_call hs (wants_none rfl) rfl fun L u W hJ hG hL hdep K hK => ?_
      have a0 := (show IsFs rE (u 6) [pbx] from hG 6 (hdep 6 (by kernel_rfl)))
      have a1 := (show IsFs rE (u 8) [paz] from hG 8 (hdep 8 (by kernel_rfl)))
      go_simp
      go_at_call 38
      (with_reducible refine (cMul a0 a1 _).mono ?_); rintro e w1 ⟨r, rfl, hr, hb⟩
      have hk := hK.out _ _ hr hb
      exact hk
    · refine step_callO hs (wants_none rfl) rfl fun L u W hJ hG hL hdep K hK => ?_
      have a0 := (show IsFs rE (u 4) [pax * pbz] from hG 4 (hdep 4 (by kernel_rfl)))
      have a1 := (show IsFs rE (u 9) [pbx * paz] from hG 9 (hdep 9 (by kernel_rfl)))
      go_simp
      go_at_call 44
      (with_reducible refine (cSame (b := true) (decide_eq_true (Prep.same_x' hppa.p hppb.p HX.out)) a0 a1 _).mono ?_); rintro e w1 ⟨rfl, hb⟩
      have hk := hK.out _ _ rfl hb
      exact hk
    · exact step_pureO hs (wants_none rfl) rfl fun L u W hG hdep => ⟨_, run_move rfl, (show u 10 = .bool true from hG 10 (hdep 10 (by kernel_rfl)))⟩
    · exact step_field hs (wants_on 11 rfl rfl (by kernel_rfl) (fun _ => rfl)) rfl rfl (fun _ => E2.out) (field_P1 _)
    · exact step_loadF 12 q2 5 hs (wants_on 11 rfl rfl (by kernel_rfl) (fun _ => rfl)) rfl rfl tyE (fun _ => rfl) rfl (by kernel_rfl) hmpa.lt (hmpa.fld 1 1) (noSto_apart (by kernel_rfl))
    · exact step_field hs (wants_on 11 rfl rfl (by kernel_rfl) (fun _ => rfl)) rfl rfl (fun _ => E3.out) (field_P2 _)
    · exact step_loadF 14 q3 10 hs (wants_on 11 rfl rfl (by kernel_rfl) (fun _ => rfl)) rfl rfl tyE (fun _ => rfl) rfl (by kernel_rfl) hmpb.lt (hmpb.fld 2 1) (noSto_apart (by kernel_rfl))
    · refine step_call hs (wants_on 11 rfl rfl (by kernel_rfl) (fun _ => rfl)) rfl fun L u W hJ hG hL hdep K hK => ?_
      have a0 := (show IsFs rE (u 13) [pay] from hG 13 (hdep 13 (by kernel_rfl)))
      have a1 := (show IsFs rE (u 15) [pbz] from hG 15 (hdep 15 (by kernel_rfl)))
      go_simp
      go_at_call 38
      (with_reducible refine (cMul a0 a1 _).mono ?_); rintro e w1 ⟨r, rfl, hr, hb⟩
      have hk := hK.out _ _ hr hb
      exact hk
    · exact step_field hs (wants_on 11 rfl rfl (by kernel_rfl) (fun _ => rfl)) rfl rfl (fun _ => E3.out) (field_P1 _)
    · exact step_loadF 17 q3 5 hs (wants_on 11 rfl rfl (by kernel_rfl) (fun _ => rfl)) rfl rfl tyE (fun _ => rfl) rfl (by kernel_rfl) hmpb.lt (hmpb.fld 1 1) (noSto_apart (by kernel_rfl))
    · exact step_field hs (wants_on 11 rfl rfl (by kernel_rfl) (fun _ => rfl)) rfl rfl (fun _ => E2.out) (field_P2 _)
    · exact step_loadF 19 q2 10 hs (wants_on 11 rfl rfl (by kernel_rfl) (fun _ => rfl)) rfl rfl tyE (fun _ => rfl) rfl (by kernel_rfl) hmpa.lt (hmpa.fld 2 1) (noSto_apart (by kernel_rfl))
    · refine step_call hs (wants_on 11 rfl rfl (by kernel_rfl) (fun _ => rfl)) rfl fun L u W hJ hG hL hdep K hK => ?_
      have a0 := (show IsFs rE (u 18) [pby] from hG 18 (hdep 18 (by kernel_rfl)))
      have a1 := (show IsFs rE (u 20) [paz] from hG 20 (hdep 20 (by kernel_rfl)))
      go_simp
      go_at_call 38
      (with_reducible refine (cMul a0 a1 _).mono ?_); rintro e w1 ⟨r, rfl, hr, hb⟩
      have hk := hK.out _ _ hr hb
      exact hk
    · refine step_callO hs (wants_on 11 rfl rfl (by kernel_rfl) (fun _ => rfl)) rfl fun L u W hJ hG hL hdep K hK => ?_
      have a0 := (show IsFs rE (u 16) [pay * pbz] from hG 16 (hdep 16 (by kernel_rfl)))
      have a1 := (show IsFs rE (u 21) [pby * paz] from hG 21 (hdep 21 (by kernel_rfl)))
      go_simp
      go_at_call 44
      (with_reducible refine (cSame (b := q) (Prep.same_y hppa.p hppb.p HX.out HQ.out) a0 a1 _).mono ?_); rintro e w1 ⟨rfl, hb⟩
      have hk := hK.out _ _ rfl hb
      exact hk
    · exact step_pick true hs (wants_none rfl) rfl rfl (fun L u W hG hdep => (show u 11 = .bool true from hG 11 (hdep 11 (by kernel_rfl)))) (fun L u W hG hdep => (show u 22 = .bool q from hG 22 (hdep 22 (by kernel_rfl))))
    · exact step_pureO hs (wants_none rfl) rfl fun L u W hG hdep => ⟨_, run_assign rfl, (show u 23 = .bool q from hG 23 (hdep 23 (by kernel_rfl)))⟩
  intro L2 u2 W2 hall hJ hG
  have hb := hJ.all rfl
  have hbel := Below.call hbel hb
  have hmpa := hmpa.later hb
  have hmpb := hmpb.later hb
  have hs1_4t := there_later hs1_4t hb
  have hs1_5t := there_later hs1_5t hb
  have HC19 := Lib.hid (show u2 10 = .bool true from hG 10 (by simp))
  have HC20 := Lib.hid (show u2 11 = .bool true from hG 11 (by simp))
  have HC31 := Lib.hid (show u2 22 = .bool q from hG 22 (by simp))
  have HC32 := Lib.hid (show u2 23 = .bool q from hG 23 (by simp))
  have HC4 := Lib.hid (show u2 24 = .bool q from hG 24 (by simp))
  have hbel0 := hbel
  clear hJ hG hall hb
  rw [HC4.out]
  go_wp2
  go_ret
  exact ⟨rfl, hbel⟩
theorem cPSame {v0 v1 : Value} {P Q : EP} {b : Bool} (hq : decide (P = Q) = b) (h0 : IsFs rP v0 [P]) (h1 : IsFs rP v1 [Q]) (w : World) :
    Calls Try.prog 19 #[v0, v1] w fun e w' => e = .returned (.bool b) ∧ Below w.heap.size w w' := by
  by_cases hx : P.x = Q.x
  · exact psame_1 h0 h1 hx hq w
  · rw [← hq, decide_eq_false (fun e => hx (by rw [e]))]
    exact psame_0 h0 h1 hx w
end Go.Proofs.Ytjchdhpijopikaa
