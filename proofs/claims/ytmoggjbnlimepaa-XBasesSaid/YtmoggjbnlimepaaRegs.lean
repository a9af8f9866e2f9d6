/- Statements on numbers and bytes: strings of bytes, tuples of a number and something known. -/
import Derived.Test.YtmoggjbnlimepaaRegw
import Derived.Test.YtmoggjbnlimepaaStr
namespace Go.Proofs.Ytmoggjbnlimepaa
open Go Go.RowKit

section
variable {R : Rp} {ops : Array Oper} {wt : Nat → Nat → Bool} {Q : Exit → Act → World → Prop} {fr : (Nat → Value) → Array Value} {df : List Deferred} {l : List Fact} {W0 : World} {i : Nat} {o : Oper}

theorem step_oth {φ : Value → Prop} (hs : Soft wt (Holds l W0)) (hg : Wants ops wt fr (Holds l W0) i o true) (hf : factAt l i = .oth φ)
    (h : ∀ L u w, Keep l W0 L u w → (∀ k, L k = true → Holds l W0 k L u w) → (∀ d, wt i d = true → L d = true) → ∃ v, (execOp (⟨fr u, df⟩ : Act).eval o).run Try.prog w = .ok (.value v) w ∧ φ v) :
    StepAt Try.prog ops wt Q fr df (Holds l W0) (Keep l W0) i o := by
  refine StepAt.soft hs hg fun L u W hcl hJ hG hL hdep K hK => ?_
  obtain ⟨v, hv, hx⟩ := h L u W hJ hG hdep
  unfold Oper.wp
  rw [hv]
  exact hK.out _ _ (Below.refl _ _) (hJ.later (Below.refl _ _) (by rw [hf]; rfl)) (by unfold Holds; rw [hf]; simp only; rw [putV_same]; exact hx)
theorem run_conv {ev : Operand → Value} {x : Operand} {w : World} {a : Option Addr} {n cap : Nat} {m : List UInt8} (ho : o.op = .convert 22 9 x) (hx : ev x = .slice a n cap) (h : RdB w a n cap m) :
    (execOp ev o).run Try.prog w = .ok (.value (.string (bs m))) w := by
  unfold execOp
  simp only [ho, hx]
  simp [conv_any h]
/-- 'string(b)' of new bytes. -/
theorem step_conv {x : Operand} {m : List UInt8} (j : Nat) (hs : Soft wt (Holds l W0)) (hg : Wants ops wt fr (Holds l W0) i o true) (ho : o.op = .convert 22 9 x) (hf : factAt l i = .oth (fun v => v = .string (bs m)))
    (hj : factAt l j = .rd m) (hw : wt i j = true) (hx : ∀ u, (⟨fr u, df⟩ : Act).eval x = u j) : StepAt Try.prog ops wt Q fr df (Holds l W0) (Keep l W0) i o :=
  step_oth hs hg hf fun L u w _ hG hdep => by
    have h := hG j (hdep j hw)
    unfold Holds at h
    rw [hj] at h
    simp only at h
    obtain ⟨g, n, cap, r, h1, h2, h3, h4, h5, h6⟩ := h
    exact ⟨_, run_conv ho (by rw [hx, h1]) (RdB.blk r h3 h4 h5 h6), rfl⟩
/-- 'string(b)' of old bytes. -/
theorem step_convC {x : Operand} {m : List UInt8} {a : Option Addr} {n cap : Nat} (hs : Soft wt (Holds l W0)) (hg : Wants ops wt fr (Holds l W0) i o true) (ho : o.op = .convert 22 9 x) (hf : factAt l i = .oth (fun v => v = .string (bs m)))
    (hR : RdB W0 a n cap m) (hno : l.any Fact.isSto = false) (hx : ∀ L u w, (∀ k, L k = true → Holds l W0 k L u w) → (∀ d, wt i d = true → L d = true) → (⟨fr u, df⟩ : Act).eval x = .slice a n cap) : StepAt Try.prog ops wt Q fr df (Holds l W0) (Keep l W0) i o :=
  step_oth hs hg hf fun L u w hJ hG hdep => ⟨_, run_conv ho (hx L u w hG hdep) (hR.below (hJ.all hno)), rfl⟩
/-- A load of one old cell. -/
theorem step_cell {x : Operand} {v : Value} {ty : TypeId} (b off : Nat) (hs : Soft wt (Holds l W0)) (hg : Wants ops wt fr (Holds l W0) i o true) (ho : o.op = .load ty x) (hf : factAt l i = .oth (fun z => z = v))
    (hT : ∀ w : World, w.cell? ⟨b, off, none⟩ = some v → (Instr.loadAt ty (.pointer (some ⟨b, off, none⟩))).run Try.prog w = .ok v w)
    (hx : ∀ L u w, (∀ k, L k = true → Holds l W0 k L u w) → (∀ d, wt i d = true → L d = true) → (⟨fr u, df⟩ : Act).eval x = .pointer (some ⟨b, off, none⟩)) (hc : W0.cell? ⟨b, off, none⟩ = some v) (hno : Apart wt l i b) :
    StepAt Try.prog ops wt Q fr df (Holds l W0) (Keep l W0) i o := by
  refine StepAt.soft hs hg fun L u W hcl hJ hG hL hdep K hK => ?_
  have hblk := hJ.block b (cell_lt hc) (fun k hk => by
    cases hLk : L k with
    | false => rfl
    | true =>
      rcases hno k b hk with h1 | h1
      · rw [hcl k i hLk h1] at hL; cases hL
      · exact absurd rfl h1)
  have hc' : W.cell? ⟨b, off, none⟩ = some v := by rw [World.cell?_of_block (w := W0) hblk]; exact hc
  have hr : (execOp (⟨fr u, df⟩ : Act).eval o).run Try.prog W = .ok (.value v) W := by
    unfold execOp
    simp only [ho, hx L u W hG hdep]
    simp [hT W hc']
  unfold Oper.wp
  rw [hr]
  exact hK.out _ _ (Below.refl _ _) (hJ.later (Below.refl _ _) (by rw [hf]; rfl)) (by unfold Holds; rw [hf]; simp only; rw [putV_same])
/-- 'make([]byte, n)'. -/
theorem step_makeB {x y : Operand} {m : List UInt8} {n : Nat} (hs : Soft wt (Holds l W0)) (hg : Wants ops wt fr (Holds l W0) i o true) (ho : o.op = .makeSlice 22 x y) (hf : factAt l i = .rd m) (hm : m.length = n) (hM : n ≤ maxLen)
    (hx : ∀ u, (⟨fr u, df⟩ : Act).eval x = .int .i64 n) (hy : ∀ u, (⟨fr u, df⟩ : Act).eval y = .int .i64 n)
    (hr : ∀ w, (Instr.makeSlice 22 (.int .i64 n) (.int .i64 n)).run Try.prog w = .ok (.slice (some ⟨w.heap.size, 0, none⟩) n n) (w.alloc (.cells (m.map bV).toArray 5))) :
    StepAt Try.prog ops wt Q fr df (Holds l W0) (Keep l W0) i o := by
  refine StepAt.soft hs hg fun L u W hcl hJ hG hL hdep K hK => ?_
  have hr' : (execOp (⟨fr u, df⟩ : Act).eval o).run Try.prog W = .ok (.value (.slice (some ⟨W.heap.size, 0, none⟩) n n)) (W.alloc (.cells (m.map bV).toArray 5)) := by
    unfold execOp
    simp only [ho, hx, hy]
    simp [hr]
  unfold Oper.wp
  rw [hr']
  have hb : Below W.heap.size W (W.alloc (.cells (m.map bV).toArray 5)) := (Below.refl _ _).alloc (Nat.le_refl _) _
  refine hK.out _ _ hb (hJ.later hb (by rw [hf]; rfl)) ?_
  unfold Holds; rw [hf]; simp only; rw [putV_same]
  exact ⟨_, _, _, [], rfl, hJ.size, by have := Blk.new W (m.map bV).toArray 5; simpa using this, hm, Nat.le_refl _, hM⟩
/-- 'len(b)' of new bytes. -/
theorem step_len {x : Operand} {m : List UInt8} {z : Int} (j : Nat) (hz : (m.length : Int) = z) (hs : Soft wt (Holds l W0)) (hg : Wants ops wt fr (Holds l W0) i o true) (ho : o.op = .call { callee := .builtin .len, args := #[x], argTypes := #[22] }) (hf : factAt l i = .oth (fun v => v = .int .i64 z))
    (hj : factAt l j = .rd m) (hw : wt i j = true) (hx : ∀ u, (⟨fr u, df⟩ : Act).eval x = u j) : StepAt Try.prog ops wt Q fr df (Holds l W0) (Keep l W0) i o :=
  step_oth hs hg hf fun L u w _ hG hdep => by
    have h := hG j (hdep j hw)
    unfold Holds at h
    rw [hj] at h
    simp only at h
    obtain ⟨g, n, cap, r, h1, h2, h3, h4, h5, h6⟩ := h
    refine ⟨_, ?_, rfl⟩
    unfold execOp
    simp only [ho, resolve, List.map_toArray, List.map_cons, List.map_nil, hx, h1, ← hz, ← h4]
    go_simp
theorem run_eqlS {ev : Operand → Value} {x y : Operand} {t : TypeId} {w : World} {m m' : List UInt8} (ho : o.op = .binOp .eql 9 x y t) (hx : ev x = .string (bs m)) (hy : ev y = .string (bs m')) :
    (execOp ev o).run Try.prog w = .ok (.value (.bool (decide (m = m')))) w := by
  have h := bs_eqT m m'
  unfold execOp
  simp only [ho, hx, hy]
  go_simp
theorem run_neqS {ev : Operand → Value} {x y : Operand} {t : TypeId} {w : World} {m m' : List UInt8} (ho : o.op = .binOp .neq 9 x y t) (hx : ev x = .string (bs m)) (hy : ev y = .string (bs m')) :
    (execOp ev o).run Try.prog w = .ok (.value (.bool (!decide (m = m')))) w := by
  have h := bs_eqT m m'
  unfold execOp
  simp only [ho, hx, hy]
  go_simp
end
theorem cell_keep {w w' : World} {p : Addr} {v : Value} (h : w.cell? p = some v) (hb : Below w.heap.size w w') : w'.cell? p = some v := by rw [hb.cell (cell_lt h)]; exact h
theorem store_u8 {w : World} {p : Addr} {c : Int} {v : Value} (h : w.cell? p = some v) (hf : w.frozen? p = false) : (Instr.storeAt 5 (.pointer (some p)) (.int .u8 c)).run Try.prog w = .ok () (w.setCell p (.int .u8 c)) := by go_simp
theorem load_u8 {w : World} {p : Addr} {v : Value} (h : w.cell? p = some v) : (Instr.loadAt 5 (.pointer (some p))).run Try.prog w = .ok v w := by go_simp
theorem load_u64 {w : World} {p : Addr} {v : Value} (h : w.cell? p = some v) : (Instr.loadAt 38 (.pointer (some p))).run Try.prog w = .ok v w := by go_simp
/-- A number and something known. -/
def IsTV (R : Rp) (v : Value) (xs : List F) (c : Value) : Prop := ∃ r, v = .tuple #[r, c] ∧ IsFs R r xs
theorem run_extractV0 {R : Rp} {ev : Operand → Value} {o : Oper} {x : Operand} {xs : List F} {c : Value} {w : World} (ho : o.op = .extract x 0) (h : IsTV R (ev x) xs c) : ∃ v, (execOp ev o).run Try.prog w = .ok (.value v) w ∧ IsFs R v xs := by
  obtain ⟨r, e, h1⟩ := h
  refine ⟨r, ?_, h1⟩
  unfold execOp
  simp only [ho, e]
  simp [Instr.extract]
theorem run_extractV1 {R : Rp} {ev : Operand → Value} {o : Oper} {x : Operand} {xs : List F} {c : Value} {w : World} (ho : o.op = .extract x 1) (h : IsTV R (ev x) xs c) : ∃ v, (execOp ev o).run Try.prog w = .ok (.value v) w ∧ v = c := by
  obtain ⟨r, e, h1⟩ := h
  refine ⟨c, ?_, rfl⟩
  unfold execOp
  simp only [ho, e]
  simp [Instr.extract]
end Go.Proofs.Ytmoggjbnlimepaa
