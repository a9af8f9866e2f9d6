/- The walks of the document's own field, twelfth part: inverses. -/
import Derived.Test.YtmoggjbnlimepaaRfo
import Derived.Deep.DeepCutAuto
namespace Go.Proofs.Ytmoggjbnlimepaa
open Go.RowKit

/-- Cells set one by one into a whole block: the row. -/
theorem setCells_row {w : World} {g E : Nat} {old cs : List Value} (h : Blk w g old E) (hl : cs.length = old.length) (h1 : ∀ v ∈ cs, v.oneCell' = true) :
    w.setCells g 0 cs = w.setRow g cs.toArray := by
  have a := st_blk h hl h1
  have b := run_storeCells_cells (P := Try.prog) g 0 cs 0 w (fun j hj => by rw [Nat.zero_add, h.cell, List.getElem?_eq_getElem (by omega)]; rfl) (fun j _ => h.frozen _) h1
  rw [a] at b
  injection b with _ b
  exact b.symm
theorem Blk.there {w : World} {g E n : Nat} {cs : List Value} (h : Blk w g cs E) (hn : cs.length = n) : w.there g 0 n := fun j hj => by
  rw [Nat.zero_add]
  exact ⟨by rw [h.cell, List.getElem?_eq_getElem (by omega)]; rfl, h.frozen j⟩
theorem pwF_lt {a b : Nat} (ha : a < 256) (hb : b < 256) (i : Nat) : pwF a b i < 256 := by unfold pwF; split <;> (try split) <;> omega
theorem be_inv : beF (pwF 127 235) 32 = expInv := by decide +kernel
theorem be_8 : beF (pwF 15 254) 32 = exp8 := by decide +kernel
theorem rpowK (x : F) (a b N : Nat) (ha : a < 256) (hb : b < 256) (hN : beF (pwF a b) 32 = N) (w : World) (ge : Nat) (hE : Blk w ge (row 32 (uV (pwF a b))) 5) :
    Calls Try.prog 48 #[.agg (row 16 (fV (d16 x.val))).toArray, .slice (some ⟨ge, 0, none⟩) 32 32] w fun e w' => e = .returned (.agg (row 16 (fV (d16 (fpow x N).val))).toArray) ∧ Below w.heap.size w w' := by
  subst hN; exact rpowM x 32 rfl (by omega) w ge _ (pwF_lt ha hb) hE
theorem rpow127 (w : World) : Calls Try.prog 49 #[.int .u8 127, .int .u8 235] w fun e w' => e = .returned (.slice (some ⟨w.heap.size, 0, none⟩) 32 32) ∧ Blk w' w.heap.size (row 32 (uV (pwF 127 235))) 5 ∧ Below w.heap.size w w' := rpower_any 127 235 w
theorem rpow15 (w : World) : Calls Try.prog 49 #[.int .u8 15, .int .u8 254] w fun e w' => e = .returned (.slice (some ⟨w.heap.size, 0, none⟩) 32 32) ∧ Blk w' w.heap.size (row 32 (uV (pwF 15 254))) 5 ∧ Below w.heap.size w w' := rpower_any 15 254 w
theorem rpow31 (w : World) : Calls Try.prog 49 #[.int .u8 31, .int .u8 251] w fun e w' => e = .returned (.slice (some ⟨w.heap.size, 0, none⟩) 32 32) ∧ Blk w' w.heap.size (row 32 (uV (pwF 31 251))) 5 ∧ Below w.heap.size w w' := rpower_any 31 251 w
/-- A load of 16 limbs, at a step of a region that draws. -/
theorem exec_load16 {ev : Operand → Value} {o : Oper} {W : World} {g E : Nat} {f : Nat → Nat} (x : Operand) (ho : o.op = .load 54 x) (hx : ev x = .pointer (some ⟨g, 0, none⟩)) (h : Blk W g (row 16 (fV f)) E) :
    (execOp ev o).run Try.prog W = .ok (.value (.agg (row 16 (fV f)).toArray)) W := by
  have := run_loadAt_mid (P := Try.prog) W g 0 54 _ _ h.range Try.underlying54 rfl (infoFe f)
  unfold execOp
  simp only [ho, hx]
  simp [this]
/-- A store of 16 limbs, at a step of a region that draws. -/
theorem step_store16 {ops : Array Oper} {o : Oper} {a : Act} {w : World} {K : Act → World → Prop} {Q : Exit → Act → World → Prop} {E : Prop} (hgd : o.guard = none) (x y : Operand) (ho : o.op = .store 54 x y)
    {g T : Nat} {f : Nat → Nat} {old : List Value} (hx : a.eval x = .pointer (some ⟨g, 0, none⟩)) (hy : a.eval y = .agg (row 16 (fV f)).toArray) (hB : Blk w g old T) (hl : old.length = 16)
    (h : K (a.put o.dst undef) (w.setRow g (row 16 (fV f)).toArray)) : if Region.wanted o (yielded ops a.tmps) = true then Oper.wp Try.prog o a w K Q else E := by
  have hw : Region.wanted o (yielded ops a.tmps) = true := by simp [Region.wanted, hgd]
  rw [if_pos hw]
  refine wp_store_mid 54 x y ho g 0 _ hx hy (hB.there (by rw [hl, List.size_toArray, row_len])) (infoFeA f) (all_oneCell_toArray (one_row 16 f)) ?_
  rw [show (row 16 (fV f)).toArray.toList = row 16 (fV f) from rfl, setCells_row hB (by rw [row_len, hl]) (one_row 16 f)]
  exact h
set_option maxHeartbeats 1000000 in
theorem rinv_core (f r : Nat → Nat) (hC : ∀ w ge, Blk w ge (row 32 (uV (pwF 127 235))) 5 → Calls Try.prog 48 #[.agg (row 16 (fV f)).toArray, .slice (some ⟨ge, 0, none⟩) 32 32] w fun e w' => e = .returned (.agg (row 16 (fV r)).toArray) ∧ Below w.heap.size w w') (w : World) :
    Calls Try.prog 35 #[.agg (row 16 (fV f)).toArray] w fun e w' => e = .returned (.agg (row 16 (fV r)).toArray) ∧ Below w.heap.size w w' := by
  have HC := Lib.hid hC
  clear hC
  go_enter Try.func35, Try.ntmps35
  go_upto_region 1 with fail
  refine wp_gen (fun W => Blk W w.heap.size (row 16 (fV f)) 54 ∧ (∃ cs : List Value, cs.length = 16 ∧ Blk W (w.heap.size + 1) cs 54) ∧ Below w.heap.size w W) ?_ (fun W0 hW => ?_)
  · exact ⟨(Blk.new w _ _).alloc _, ⟨_, rfl, Blk.new' (by simp)⟩, (by repeat (first | (with_reducible refine Below.alloc' ?_ _) | (with_reducible refine Below.drew ?_) | (with_reducible refine below_drewN ?_ _) | ((with_reducible refine Below.setCell ?_ ?_ _); rotate_left; (focus (first | exact Nat.le_refl _ | (simp; done) | (simp; omega)))) | (with_reducible assumption) | (with_reducible exact Below.refl _ _)))⟩
  have hst := Lib.hid (show ∀ W W' : World, (Blk W w.heap.size (row 16 (fV f)) 54 ∧ (∃ cs : List Value, cs.length = 16 ∧ Blk W (w.heap.size + 1) cs 54) ∧ Below w.heap.size w W) → Below W.heap.size W W' → (Blk W' w.heap.size (row 16 (fV f)) 54 ∧ (∃ cs : List Value, cs.length = 16 ∧ Blk W' (w.heap.size + 1) cs 54) ∧ Below w.heap.size w W') from by
    rintro W W' ⟨h1, ⟨cs, hl, h2⟩, h3⟩ hb
    exact ⟨h1.below' hb, ⟨cs, hl, h2.below' hb⟩, Below.call h3 hb⟩)
  have HS := Lib.hid (hst.out _ _ hW (Below.drew (Below.refl _ _)))
  clear hW
  refine wp_region_held_drew (S := fun W => Blk W w.heap.size (row 16 (fV f)) 54 ∧ (∃ cs : List Value, cs.length = 16 ∧ Blk W (w.heap.size + 1) cs 54) ∧ Below w.heap.size w W) (by kernel_rfl) (by exact HS.out) (fun hHeld => ?_)
  refine wpAnyH_take (i := 0) (oi := _) (v := .agg (row 16 (fV f)).toArray) rfl (by kernel_rfl) (by kernel_rfl) (by kernel_rfl) (fun _ _ _ h => h) (Or.inl ⟨by rfl, fun W hSW => exec_load16 (.tmp 1) (by rfl) (by rfl) hSW.1⟩) (by assumption) ?_
  (try simp only [Act.put, List.setIfInBounds_toArray, List.set_cons_zero, List.set_cons_succ, List.getElem_toArray, List.getElem_cons_zero])
  refine wpAnyH_ready (rs := [1]) (by kernel_rfl) (by simp) ?_
  refine (AllReadyH.cons rfl (fun K hK => ?_) AllReadyH.nil)
  (try simp only [List.getElem_toArray, List.getElem_cons_zero, List.getElem_cons_succ])
  go_simp
  go_at_call 49
  (with_reducible refine (rpow127 _).mono ?_); rintro e w1 ⟨rfl, hP0, hb⟩
  have hP : Blk w1 W0.heap.size (row 32 (uV (pwF 127 235))) 5 := hP0
  refine hK.out _ _ (hst.out _ _ hHeld hb) (fun hHeld' => ?_)
  clear hK K hHeld
  (try simp only [Act.put, List.setIfInBounds_toArray, List.set_cons_zero, List.set_cons_succ, List.getElem_toArray, List.getElem_cons_zero, List.getElem_cons_succ])
  refine wpAnyH_ready (rs := [2]) (by kernel_rfl) (by simp) ?_
  refine (AllReadyH.cons rfl (fun K hK => ?_) AllReadyH.nil)
  (try simp only [List.getElem_toArray, List.getElem_cons_zero, List.getElem_cons_succ])
  go_simp
  go_at_call 48
  (with_reducible refine (HC.out _ _ hP).mono ?_); rintro e w2 ⟨rfl, hb⟩
  refine hK.out _ _ (hst.out _ _ hHeld' hb) (fun hHeld => ?_)
  clear hK K hHeld'
  (try simp only [Act.put, List.setIfInBounds_toArray, List.set_cons_zero, List.set_cons_succ, List.getElem_toArray, List.getElem_cons_zero, List.getElem_cons_succ])
  refine wpAnyH_ready (rs := [3]) (by kernel_rfl) (by simp) ?_
  refine (AllReadyH.cons rfl (fun K hK => ?_) AllReadyH.nil)
  obtain ⟨h1, ⟨cs, hl, h2⟩, h3⟩ := hHeld
  have HB3 := Lib.hid (h2.row (row 16 (fV r)))
  have hbel3 := below_setRow h3 (show w.heap.size ≤ w.heap.size + 1 by omega) (row 16 (fV r)).toArray
  refine step_store16 (by rfl) (.tmp 2) (.tmp 5) (by rfl) (by rfl) (by rfl) h2 hl ?_
  refine hK.out _ _ ⟨h1.rowOther _ (by omega) _, ⟨_, row_len _ _, HB3.out⟩, hbel3⟩ (fun _ => ?_)
  clear hK K h2
  (try simp only [Act.put, List.getElem_toArray, List.getElem_cons_zero, List.getElem_cons_succ])
  refine wpAnyH_done (by kernel_rfl) ?_ _
  generalize w2.setRow (w.heap.size + 1) (row 16 (fV r)).toArray = W3 at *
  go_wp2
  refine bodyPost_ret (v := .agg (row 16 (fV r)).toArray) (results_cell_row Try.results35 _ _ (w.heap.size + 1) _ _ _ _ ?_ HB3.out Try.underlying54 ?_ (infoFeA _)) ?_ ?_
  · rfl
  · rfl
  · rfl
  · exact ⟨rfl, hbel3⟩
theorem rinvM (x : F) (w : World) : Calls Try.prog 35 #[.agg (row 16 (fV (d16 x.val))).toArray] w fun e w' => e = .returned (.agg (row 16 (fV (d16 (finv x).val))).toArray) ∧ Below w.heap.size w w' :=
  rinv_core (d16 x.val) (d16 (finv x).val) (fun w ge hE => rpowK x 127 235 expInv (by omega) (by omega) be_inv w ge hE) w
end Go.Proofs.Ytmoggjbnlimepaa
