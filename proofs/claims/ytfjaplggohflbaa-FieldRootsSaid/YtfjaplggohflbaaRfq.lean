/- The walks of the document's own field, thirteenth part: square roots. -/
import Derived.Test.YtfjaplggohflbaaRfp
import Derived.Deep.DeepCutAuto
namespace Go.Proofs.Ytfjaplggohflbaa
open Go.RowKit

theorem row_ints (n : Nat) (f : Nat → Nat) : row n (fV f) = ((List.range n).map fun i => ((f i : Nat) : Int)).map (Value.int .u64) := by
  simp [row, fV, Function.comp_def]
theorem infoU64 : (Try.prog.info? 25).map (·.size) = some 1 := by kernel_rfl
theorem size_u64 (w : World) : (sizeOf 25).run Try.prog w = .ok 1 w := by
  have h := infoU64
  cases hq : Try.prog.info? 25 with
  | none => simp [hq] at h
  | some i =>
    simp [hq] at h
    simp [sizeOf, typeInfo, hq, h]
theorem d16_inj {x y : F} (h : ∀ i, i < 16 → d16 x.val i = d16 y.val i) : x = y := by
  apply F.ext'
  rw [← d16_v x.isLt, ← d16_v y.isLt]
  exact v16_congr 16 h
theorem eq_row (x y : F) (w : World) : (Op.equal 46 (.agg (row 16 (fV (d16 x.val))).toArray) (.agg (row 16 (fV (d16 y.val))).toArray)).run Try.prog w = .ok (decide (x = y)) w := by
  rw [row_ints, row_ints]
  have h := eqArr (P := Try.prog) w 9998 46 25 16 .u64 Try.underlying46 Try.underlying25 size_u64 ((List.range 16).map fun i => ((d16 x.val i : Nat) : Int)) ((List.range 16).map fun i => ((d16 y.val i : Nat) : Int)) (by simp) (by simp)
  refine Eq.trans h ?_
  congr 1
  rw [Bool.eq_iff_iff, beq_iff_eq, decide_eq_true_iff]
  constructor
  · intro e
    apply d16_inj
    intro i hi
    have := congrArg (fun l => l[i]?) e
    simp [hi] at this
    omega
  · rintro rfl; rfl
theorem exec_neqF {ev : Operand → Value} {o : Oper} {W : World} (x y : F) (a b : Operand) (t : TypeId) (ho : o.op = .binOp .neq 46 a b t) (ha : ev a = .agg (row 16 (fV (d16 x.val))).toArray) (hb : ev b = .agg (row 16 (fV (d16 y.val))).toArray) :
    (execOp ev o).run Try.prog W = .ok (.value (.bool (!decide (x = y)))) W := by
  have hg : Try.prog.eqGuardType Try.prog.depth 46 = false := by kernel_rfl
  unfold execOp
  simp only [ho, ha, hb]
  simp [eqGuard, binOp, hg, eq_row]
theorem exec_neq_no {ev : Operand → Value} {o : Oper} {W : World} (x y : F) (h : x = y) (a b : Operand) (t : TypeId) (ho : o.op = .binOp .neq 46 a b t) (ha : ev a = .agg (row 16 (fV (d16 x.val))).toArray) (hb : ev b = .agg (row 16 (fV (d16 y.val))).toArray) :
    (execOp ev o).run Try.prog W = .ok (.value (.bool false)) W := by
  rw [exec_neqF x y a b t ho ha hb, decide_eq_true h]; rfl
theorem exec_neq_yes {ev : Operand → Value} {o : Oper} {W : World} (x y : F) (h : ¬ x = y) (a b : Operand) (t : TypeId) (ho : o.op = .binOp .neq 46 a b t) (ha : ev a = .agg (row 16 (fV (d16 x.val))).toArray) (hb : ev b = .agg (row 16 (fV (d16 y.val))).toArray) :
    (execOp ev o).run Try.prog W = .ok (.value (.bool true)) W := by
  rw [exec_neqF x y a b t ho ha hb, decide_eq_false h]; rfl
theorem results_cell_slot {fn : Func} {p s : Tmp} (h : fn.results = #[.cell p 46, .tmp s]) (tmps : Array Value) (w : World) (g E : Nat) (f : Nat → Nat) (v : Value)
    (hp : tmps.getD p undef = .pointer (some ⟨g, 0, none⟩)) (hs : tmps.getD s undef = v) (hB : Blk w g (row 16 (fV f)) E) :
    (results fn tmps).run Try.prog w = .ok (.tuple #[.agg (row 16 (fV f)).toArray, v]) w := by
  have hp' : tmps[p]?.getD undef = .pointer (some ⟨g, 0, none⟩) := by simpa using hp
  have hs' : tmps[s]?.getD undef = v := by simpa using hs
  have := run_loadVar_mid (P := Try.prog) w g 0 46 _ _ hB.range Try.underlying46 rfl (infoFe f)
  simp [results, h, hp', hs', asAddr, this]
theorem be_31 : beF (pwF 31 251) 32 = 14474011154664524427946373126085988481658748083205070504932198000989141204987 := by decide +kernel
theorem two_turn : fpow (fn 2) (beF (pwF 31 251) 32) = sqm1 := by
  rw [be_31]
  apply F.ext'
  rw [fpow_val, show (fn 2).val = 2 from rfl, ← powMod_spec Pq 256 2 14474011154664524427946373126085988481658748083205070504932198000989141204987 (by decide +kernel)]
  decide +kernel
theorem rsmall2 (w : World) : Calls Try.prog 29 #[.int .u64 2] w fun e w' => e = .returned (.agg (row 16 (fV (d16 (fn 2).val))).toArray) ∧ Below w.heap.size w w' := rsmallM 2 (by omega) w
theorem rpowT (w : World) (ge : Nat) (hE : Blk w ge (row 32 (uV (pwF 31 251))) 5) :
    Calls Try.prog 50 #[.agg (row 16 (fV (d16 (fn 2).val))).toArray, .slice (some ⟨ge, 0, none⟩) 32 32] w fun e w' => e = .returned (.agg (row 16 (fV (d16 sqm1.val))).toArray) ∧ Below w.heap.size w w' :=
  by have := rpowK (fn 2) 31 251 _ (by omega) (by omega) rfl w ge hE; rw [two_turn] at this; exact this
theorem odd16 (v : Nat) : bits BinOp.and IntKind.u64 ((d16 v 0 : Nat) : Int) 1 = ((v % 2 : Nat) : Int) := by
  have h := d16_lt v 0
  rw [show (1 : Int) = ((1 : Nat) : Int) from rfl, u64_and_nat _ 1 (by omega) (by omega), Nat.and_one_is_mod]
  simp only [d16, Nat.pow_zero, Nat.div_one]; omega
end Go.Proofs.Ytfjaplggohflbaa
