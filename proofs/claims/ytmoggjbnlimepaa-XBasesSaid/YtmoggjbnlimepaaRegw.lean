/- Statements on numbers of the field that lie in memory: the steps of their operations. -/
import Derived.Test.YtmoggjbnlimepaaReg
import Derived.Test.YtmoggjbnlimepaaRows
namespace Go.Proofs.Ytmoggjbnlimepaa
open Go Go.RowKit

/-- A type of so many numbers. -/
structure TyOk (R : Rp) (ty : TypeId) (m : Nat) : Prop where
  row : ∃ d, Try.prog.underlying ty = some d ∧ d.isRow = true
  size : (Try.prog.info? ty).map (·.size) = some (R.n * m)
/-- No old variable is written ahead of i. -/
def noSto (wt : Nat → Nat → Bool) (l : List Fact) (i : Nat) : Bool := (List.range l.length).all fun k => !(factAt l k).isSto || wt k i
theorem noSto_spec {wt : Nat → Nat → Bool} {l : List Fact} {i k g : Nat} (h : noSto wt l i = true) (hf : (factAt l k).tgt = some g) : wt k i = true := by
  have hlt : k < l.length := by
    rcases Nat.lt_or_ge k l.length with h | h
    · exact h
    · rw [factAt_len h] at hf; cases hf
  unfold noSto at h
  rw [List.all_eq_true] at h
  have := h k (by simpa using hlt)
  simpa [hf, Fact.isSto] using this

/-- No old variable b is written ahead of i. -/
def Apart (wt : Nat → Nat → Bool) (l : List Fact) (i b : Nat) : Prop := ∀ k g, (factAt l k).tgt = some g → wt k i = true ∨ g ≠ b
theorem noSto_apart {wt : Nat → Nat → Bool} {l : List Fact} {i b : Nat} (h : noSto wt l i = true) : Apart wt l i b := fun _ _ hf => .inl (noSto_spec h hf)

section
variable {R : Rp} {ops : Array Oper} {wt : Nat → Nat → Bool} {Q : Exit → Act → World → Prop} {fr : (Nat → Value) → Array Value} {df : List Deferred} {l : List Fact} {W0 : World} {i : Nat} {o : Oper}

/-- What an operand gives. -/
def Gives (R : Rp) (wt : Nat → Nat → Bool) (fr : (Nat → Value) → Array Value) (df : List Deferred) (l : List Fact) (W0 : World) (i : Nat) (x : Operand) (xs : List F) : Prop :=
  ∀ L u w, (∀ k, L k = true → Holds l W0 k L u w) → (∀ d, wt i d = true → L d = true) → IsFs R ((⟨fr u, df⟩ : Act).eval x) xs
theorem gives_op {x : Operand} {xs : List F} (j : Nat) (hj : factAt l j = .val R xs) (hw : wt i j = true) (hx : ∀ u, (⟨fr u, df⟩ : Act).eval x = u j) : Gives R wt fr df l W0 i x xs := fun L u w hG hd => by
  have := hG j (hd j hw)
  unfold Holds at this
  rw [hj] at this
  rw [hx u]; exact this
theorem gives_c {x : Operand} {xs : List F} {v : Value} (hv : IsFs R v xs) (hx : ∀ u, (⟨fr u, df⟩ : Act).eval x = v) : Gives R wt fr df l W0 i x xs := fun L u w hG hd => by rw [hx u]; exact hv
theorem Gives.h {x : Operand} {xs : List F} (h : Gives R wt fr df l W0 i x xs) {L : Nat → Bool} {u : Nat → Value} {w : World} (hG : ∀ k, L k = true → Holds l W0 k L u w) (hd : ∀ d, wt i d = true → L d = true) : IsFs R ((⟨fr u, df⟩ : Act).eval x) xs := h L u w hG hd

theorem holds_val {xs : List F} (hf : factAt l i = .val R xs) {L : Nat → Bool} {u : Nat → Value} {w : World} {v : Value} (h : IsFs R v xs) : Holds l W0 i L (putV u i v) w := by
  unfold Holds; rw [hf]; simp only; rw [putV_same]; exact h
theorem holds_any (hf : factAt l i = .any) {L : Nat → Bool} {u : Nat → Value} {w : World} : Holds l W0 i L u w := by
  unfold Holds; rw [hf]; trivial
theorem isNew_val {xs : List F} (hf : factAt l i = .val R xs) : (factAt l i).isNew = false := by rw [hf]; rfl

theorem step_load_at {ty : TypeId} {x : Operand} {xs : List F} (hs : Soft wt (Holds l W0)) (hg : Wants ops wt fr (Holds l W0) i o true) (ho : o.op = .load ty x) (hf : factAt l i = .val R xs) (hT : TyOk R ty xs.length) (b off : Nat)
    (hx : ∀ L u w, (∀ k, L k = true → Holds l W0 k L u w) → (∀ d, wt i d = true → L d = true) → (⟨fr u, df⟩ : Act).eval x = .pointer (some ⟨b, off, none⟩)) (hb : b < W0.heap.size) (h : HasFs R W0 b off xs) (hno : Apart wt l i b) :
    StepAt Try.prog ops wt Q fr df (Holds l W0) (Keep l W0) i o := by
  refine StepAt.soft hs hg fun L u W hcl hJ hG hL hdep K hK => ?_
  have hblk := hJ.block b hb (fun k hk => by
    cases hLk : L k with
    | false => rfl
    | true =>
      rcases hno k b hk with h1 | h1
      · rw [hcl k i hLk h1] at hL; cases hL
      · exact absurd rfl h1)
  obtain ⟨cs, hc, hr⟩ := h.blk hblk
  obtain ⟨d, hd1, hd2⟩ := hT.row
  exact wp_load_mid ty x ho b off (hx L u W hG hdep) cs d hr hd1 hd2 (by rw [hT.size, hc.len]) (hK.out _ _ (Below.refl _ _) (hJ.later (Below.refl _ _) (isNew_val hf)) (holds_val hf ⟨cs, rfl, hc⟩))
/-- A load through a pointer that is known from the beginning. -/
theorem step_load {ty : TypeId} {x : Operand} {xs : List F} (b off : Nat) (hs : Soft wt (Holds l W0)) (hg : Wants ops wt fr (Holds l W0) i o true) (ho : o.op = .load ty x) (hf : factAt l i = .val R xs) (hT : TyOk R ty xs.length)
    (hx : ∀ u, (⟨fr u, df⟩ : Act).eval x = .pointer (some ⟨b, off, none⟩)) (hb : b < W0.heap.size) (h : HasFs R W0 b off xs) (hno : Apart wt l i b) :
    StepAt Try.prog ops wt Q fr df (Holds l W0) (Keep l W0) i o := step_load_at hs hg ho hf hT b off (fun _ u _ _ _ => hx u) hb h hno
/-- A load of a field. -/
theorem step_loadF {ty : TypeId} {x : Operand} {xs : List F} (j b off : Nat) (hs : Soft wt (Holds l W0)) (hg : Wants ops wt fr (Holds l W0) i o true) (ho : o.op = .load ty x) (hf : factAt l i = .val R xs) (hT : TyOk R ty xs.length)
    (hx : ∀ u, (⟨fr u, df⟩ : Act).eval x = u j) (hj : factAt l j = .ptr b off) (hw : wt i j = true) (hb : b < W0.heap.size) (h : HasFs R W0 b off xs) (hno : Apart wt l i b) :
    StepAt Try.prog ops wt Q fr df (Holds l W0) (Keep l W0) i o := step_load_at hs hg ho hf hT b off (fun L u w hG hd => by
      have := hG j (hd j hw)
      unfold Holds at this
      rw [hj] at this
      rw [hx u]; exact this) hb h hno
/-- A load of a new variable of the same statement. -/
theorem step_loadN {ty : TypeId} {x : Operand} {xs : List F} (a s : Nat) (hs : Soft wt (Holds l W0)) (hg : Wants ops wt fr (Holds l W0) i o true) (ho : o.op = .load ty x) (hf : factAt l i = .val R xs) (hT : TyOk R ty xs.length)
    (hx : ∀ u, (⟨fr u, df⟩ : Act).eval x = u a) (hs' : factAt l s = .st a R xs) (hw : wt i s = true) :
    StepAt Try.prog ops wt Q fr df (Holds l W0) (Keep l W0) i o := by
  refine StepAt.soft hs hg fun L u W hcl hJ hG hL hdep K hK => ?_
  have h := hG s (hdep s hw)
  unfold Holds at h
  rw [hs'] at h
  obtain ⟨g, h1, h2, cs, hc, hr⟩ := h
  obtain ⟨d, hd1, hd2⟩ := hT.row
  exact wp_load_mid ty x ho g 0 (by rw [hx u]; exact h1) cs d hr hd1 hd2 (by rw [hT.size, hc.len]) (hK.out _ _ (Below.refl _ _) (hJ.later (Below.refl _ _) (isNew_val hf)) (holds_val hf ⟨cs, rfl, hc⟩))
/-- The place of a field. -/
theorem step_field {s : TypeId} {x : Operand} {f b off off' : Nat} (hs : Soft wt (Holds l W0)) (hg : Wants ops wt fr (Holds l W0) i o true) (ho : o.op = .fieldAddr s x f) (hf : factAt l i = .ptr b off')
    (hx : ∀ u, (⟨fr u, df⟩ : Act).eval x = .pointer (some ⟨b, off, none⟩)) (hr : ∀ w, (Instr.fieldAt s (.pointer (some ⟨b, off, none⟩)) f).run Try.prog w = .ok (.pointer (some ⟨b, off', none⟩)) w) :
    StepAt Try.prog ops wt Q fr df (Holds l W0) (Keep l W0) i o := by
  refine StepAt.soft hs hg fun L u W hcl hJ hG hL hdep K hK => ?_
  unfold Oper.wp execOp
  simp only [ho, hx u, Sem.run_bind, hr, Result.andThen_ok, Sem.run_pure, Oper.upon_value]
  refine hK.out _ _ (Below.refl _ _) (hJ.later (Below.refl _ _) (by rw [hf]; rfl)) ?_
  unfold Holds; rw [hf]; simp only; rw [putV_same]
/-- A new variable. -/
theorem step_alloc {ty : TypeId} {n : Nat} {zs : Array Value} (hs : Soft wt (Holds l W0)) (hg : Wants ops wt fr (Holds l W0) i o true) (ho : o.op = .alloc ty) (hf : factAt l i = .new n) (hn : 0 < n) (hz : zs.size = n)
    (hr : ∀ w, (Instr.alloc ty true (.tuple #[])).run Try.prog w = .ok (.pointer (some ⟨w.heap.size, 0, none⟩)) (w.alloc (.cells zs ty))) :
    StepAt Try.prog ops wt Q fr df (Holds l W0) (Keep l W0) i o := by
  refine StepAt.soft hs hg fun L u W hcl hJ hG hL hdep K hK => ?_
  unfold Oper.wp execOp
  simp only [ho, Sem.run_bind, hr, Result.andThen_ok, Sem.run_pure, Oper.upon_value]
  have hb : Below W.heap.size W (W.alloc (.cells zs ty)) := (Below.refl _ _).alloc (Nat.le_refl _) _
  refine hK.out _ _ hb (hJ.new hb hG) ?_
  unfold Holds; rw [hf]; simp only; rw [putV_same]
  refine ⟨_, rfl, hJ.size, hn, fun j hj => ?_⟩
  have hB := Blk.new W zs ty
  rw [Nat.zero_add, hB.cell, hB.frozen, List.getElem?_eq_getElem (by simp; omega)]
  exact ⟨rfl, rfl⟩
theorem run_box (ty : TypeId) (cs : Array Value) (w : World) : (Instr.box ty (.agg cs)).run Try.prog w = .ok (.pointer (some ⟨w.heap.size, 0, none⟩)) (w.alloc (.cells cs ty)) := rfl
/-- A new variable that holds a value. -/
theorem step_box {ty : TypeId} {x : Operand} {y : F} {xs : List F} (hs : Soft wt (Holds l W0)) (hg : Wants ops wt fr (Holds l W0) i o true) (ho : o.op = .box ty x) (hf : factAt l i = .box R (y :: xs)) (hx : Gives R wt fr df l W0 i x (y :: xs)) :
    StepAt Try.prog ops wt Q fr df (Holds l W0) (Keep l W0) i o := by
  refine StepAt.soft hs hg fun L u W hcl hJ hG hL hdep K hK => ?_
  obtain ⟨cs, he, hc⟩ := hx.h hG hdep
  unfold Oper.wp execOp
  simp only [ho, he, Sem.run_bind, run_box, Result.andThen_ok, Sem.run_pure, Oper.upon_value]
  have hb : Below W.heap.size W (W.alloc (.cells cs.toArray ty)) := (Below.refl _ _).alloc (Nat.le_refl _) _
  refine hK.out _ _ hb (hJ.new hb hG) ?_
  unfold Holds; rw [hf]; simp only; rw [putV_same]
  have hB := Blk.new W cs.toArray ty
  have hl : 0 < cs.length := by rw [hc.len]; exact Nat.mul_pos R.pos (by simp)
  refine ⟨_, rfl, ⟨hJ.size, by simp⟩, fun j hj => ?_, cs, hc, fun j v hv => ?_⟩
  · have hlen := hc.len
    rw [Nat.zero_add, hB.cell, hB.frozen, List.getElem?_eq_getElem (by show j < cs.length; omega)]
    exact ⟨rfl, rfl⟩
  · rw [Nat.zero_add, hB.cell]; simpa using hv
/-- A store into a new variable of the same statement. -/
theorem step_store {ty : TypeId} {x y : Operand} {xs : List F} {n : Nat} (a : Nat) (hs : Soft wt (Holds l W0)) (hok : ownersOk wt l = true) (hg : Wants ops wt fr (Holds l W0) i o true) (ho : o.op = .store ty x y) (hf : factAt l i = .st a R xs) (ha : factAt l a = .new n) (hw : wt i a = true)
    (hown : onlyOwner l i a = true) (hnr : l.any Fact.isRd = false) (hup : (l.all (Fact.usedUp wt i)) = true) (hx : ∀ u, (⟨fr u, df⟩ : Act).eval x = u a) (hy : Gives R wt fr df l W0 i y xs) (hT : TyOk R ty xs.length) (hn : R.n * xs.length = n) :
    StepAt Try.prog ops wt Q fr df (Holds l W0) (Keep l W0) i o := by
  refine StepAt.hard hs hg fun L u W hcl hJ hG hL hdep K hK => ?_
  obtain ⟨cs, he, hc⟩ := hy.h hG hdep
  have h := hG a (hdep a hw)
  unfold Holds at h
  rw [ha] at h
  obtain ⟨g, h1, h2, h3, h4⟩ := h
  have hl : cs.length = n := by rw [hc.len, hn]
  refine wp_store_mid ty x y ho g 0 cs.toArray (by rw [hx u]; exact h1) he (fun j hj => h4 j (by simp at hj; omega)) (by rw [hT.size]; simp [hc.len]) (all_oneCell_toArray hc.one) ?_
  have hai : a ≠ i := by rintro rfl; rw [ha] at hf; cases hf
  refine hK.out _ _ (hJ.st h2 (by rw [hf]; rfl)) (fun k hk hki _ hh => holds_st hok hcl hJ (hdep a hw) ha h1 h2 hown hnr hup hdep hk hki hh) ?_
  unfold Holds; rw [hf]; simp only; rw [putV_ne hai]
  exact ⟨g, h1, h2, hasFs_same hc h4 (by omega)⟩
/-- A store into an old variable. -/
theorem step_storeO {ty : TypeId} {x y : Operand} {xs : List F} (b n : Nat) (hs : Soft wt (Holds l W0)) (hg : Wants ops wt fr (Holds l W0) i o true) (ho : o.op = .store ty x y) (hf : factAt l i = .sto b R xs) (hup : (l.all (Fact.usedUp wt i)) = true)
    (hone : ∀ k, k ≠ i → (factAt l k).tgt ≠ some b) (hx : ∀ u, (⟨fr u, df⟩ : Act).eval x = .pointer (some ⟨b, 0, none⟩)) (hb : b < W0.heap.size) (ht : W0.there b 0 n) (hy : Gives R wt fr df l W0 i y xs) (hT : TyOk R ty xs.length) (hn : R.n * xs.length = n) :
    StepAt Try.prog ops wt Q fr df (Holds l W0) (Keep l W0) i o := by
  refine StepAt.hard hs hg fun L u W hcl hJ hG hL hdep K hK => ?_
  obtain ⟨cs, he, hc⟩ := hy.h hG hdep
  have hblk := hJ.block b hb (fun k hk => by
    by_cases hki : k = i
    · subst hki; exact hL
    · exact absurd hk (hone k hki))
  have ht' := there_blk ht hblk
  have hl : cs.length = n := by rw [hc.len, hn]
  refine wp_store_mid ty x y ho b 0 cs.toArray (hx u) he (fun j hj => ht' j (by simp at hj; omega)) (by rw [hT.size]; simp [hc.len]) (all_oneCell_toArray hc.one) ?_
  refine hK.out _ _ (hJ.sto hf) (fun k hk hki _ hh => holds_upd hup hdep hb (hone k hki) (Nat.le_of_eq (size_setCells _ _ _ _).symm) (fun x hx => heap_setCells _ _ _ _ _ hx) hh) ?_
  unfold Holds; rw [hf]; simp only
  exact ⟨hb, by rw [hn]; exact World.there_setCells ht' _ _ _, hasFs_same hc ht' (by omega)⟩
/-- A store into one cell of an old block. -/
theorem step_cst {ty : TypeId} {x y : Operand} {v old : Value} (b off : Nat) (hs : Soft wt (Holds l W0)) (hg : Wants ops wt fr (Holds l W0) i o true) (ho : o.op = .store ty x y) (hf : factAt l i = .cst b off v) (hup : (l.all (Fact.usedUp wt i)) = true)
    (hone : ∀ k, k ≠ i → (factAt l k).tgt ≠ some b) (hr : ∀ w : World, w.cell? ⟨b, off, none⟩ = some old → w.frozen? ⟨b, off, none⟩ = false → (Instr.storeAt ty (.pointer (some ⟨b, off, none⟩)) v).run Try.prog w = .ok () (w.setCell ⟨b, off, none⟩ v))
    (hx : ∀ L u w, (∀ k, L k = true → Holds l W0 k L u w) → (∀ d, wt i d = true → L d = true) → (⟨fr u, df⟩ : Act).eval x = .pointer (some ⟨b, off, none⟩))
    (hy : ∀ L u w, (∀ k, L k = true → Holds l W0 k L u w) → (∀ d, wt i d = true → L d = true) → (⟨fr u, df⟩ : Act).eval y = v)
    (hc : W0.cell? ⟨b, off, none⟩ = some old) (hz : W0.frozen? ⟨b, off, none⟩ = false) :
    StepAt Try.prog ops wt Q fr df (Holds l W0) (Keep l W0) i o := by
  have hb : b < W0.heap.size := cell_lt hc
  refine StepAt.hard hs hg fun L u W hcl hJ hG hL hdep K hK => ?_
  have hblk := hJ.block b hb (fun k hk => by
    by_cases hki : k = i
    · subst hki; exact hL
    · exact absurd hk (hone k hki))
  have hc' : W.cell? ⟨b, off, none⟩ = some old := by rw [World.cell?_of_block (w := W0) hblk]; exact hc
  have hz' : W.frozen? ⟨b, off, none⟩ = false := by rw [World.frozen?_of_block (w := W0) hblk]; exact hz
  have hrun : (execOp (⟨fr u, df⟩ : Act).eval o).run Try.prog W = .ok .skip (W.setCell ⟨b, off, none⟩ v) := by
    unfold execOp
    simp only [ho, hx L u W hG hdep, hy L u W hG hdep]
    simp [hr W hc' hz']
  unfold Oper.wp
  rw [hrun]
  refine hK.out _ _ (hJ.upd (by rw [hf]; rfl) (by rw [hf]; rfl) rfl rfl rfl (by simp) (fun x hx => set_other hx _ _)) (fun k hk hki _ hh => holds_upd hup hdep hb (hone k hki) (by simp) (fun x hx => set_other hx _ _) hh) ?_
  unfold Holds; rw [hf]; simp only
  exact ⟨hb, set_congr hblk _ _⟩
/-- A value that an instruction yields in whatever world. -/
theorem step_pure {xs : List F} (hs : Soft wt (Holds l W0)) (hg : Wants ops wt fr (Holds l W0) i o true) (hf : factAt l i = .val R xs)
    (h : ∀ L u w, (∀ k, L k = true → Holds l W0 k L u w) → (∀ d, wt i d = true → L d = true) → ∃ v, (execOp (⟨fr u, df⟩ : Act).eval o).run Try.prog w = .ok (.value v) w ∧ IsFs R v xs) :
    StepAt Try.prog ops wt Q fr df (Holds l W0) (Keep l W0) i o := by
  refine StepAt.soft hs hg fun L u W hcl hJ hG hL hdep K hK => ?_
  obtain ⟨v, hv, hx⟩ := h L u W hG hdep
  unfold Oper.wp
  rw [hv]
  exact hK.out _ _ (Below.refl _ _) (hJ.later (Below.refl _ _) (isNew_val hf)) (holds_val hf hx)
theorem run_build0 {ev : Operand → Value} {o : Oper} {t : TypeId} {xs : List F} {w : World} (ho : o.op = .build t #[]) (h : ∃ r, (Instr.build t #[]).run Try.prog w = .ok r w ∧ IsFs R r xs) :
    ∃ v, (execOp ev o).run Try.prog w = .ok (.value v) w ∧ IsFs R v xs := by
  obtain ⟨r, hr, hx⟩ := h
  refine ⟨r, ?_, hx⟩
  unfold execOp
  simp only [ho]
  simp [hr]
/-- Bytes handed on. -/
theorem step_moveB {bs : List UInt8} {x : Operand} (j : Nat) (hs : Soft wt (Holds l W0)) (hg : Wants ops wt fr (Holds l W0) i o true) (hf : factAt l i = .rd bs) (ho : o.op = .move x ∨ o.op = .assign x) (hj : factAt l j = .rd bs) (hw : wt i j = true)
    (hx : ∀ u, (⟨fr u, df⟩ : Act).eval x = u j) : StepAt Try.prog ops wt Q fr df (Holds l W0) (Keep l W0) i o := by
  refine StepAt.soft hs hg fun L u W hcl hJ hG hL hdep K hK => ?_
  have hr : (execOp (⟨fr u, df⟩ : Act).eval o).run Try.prog W = .ok (.value (u j)) W := by
    unfold execOp
    rcases ho with ho | ho <;> (simp only [ho, hx]; rfl)
  unfold Oper.wp
  rw [hr]
  refine hK.out _ _ (Below.refl _ _) (hJ.later (Below.refl _ _) (by rw [hf]; rfl)) ?_
  have h := hG j (hdep j hw)
  unfold Holds at h ⊢
  rw [hj] at h
  rw [hf]
  simp only at h ⊢
  rw [putV_same]; exact h
theorem run_build2 {ev : Operand → Value} {o : Oper} {t : TypeId} {x y : Operand} {r : Value} {w : World} (ho : o.op = .build t #[(0, x), (1, y)]) (h : (Instr.build t #[(0, ev x), (1, ev y)]).run Try.prog w = .ok r w) :
    (execOp ev o).run Try.prog w = .ok (.value r) w := by
  unfold execOp
  simp only [ho]
  simp [h]
theorem run_build3 {ev : Operand → Value} {o : Oper} {t : TypeId} {x y z : Operand} {r : Value} {w : World} (ho : o.op = .build t #[(0, x), (1, y), (2, z)]) (h : (Instr.build t #[(0, ev x), (1, ev y), (2, ev z)]).run Try.prog w = .ok r w) :
    (execOp ev o).run Try.prog w = .ok (.value r) w := by
  unfold execOp
  simp only [ho]
  simp [h]
theorem run_build4 {ev : Operand → Value} {o : Oper} {t : TypeId} {x y z v : Operand} {r : Value} {w : World} (ho : o.op = .build t #[(0, x), (1, y), (2, z), (3, v)]) (h : (Instr.build t #[(0, ev x), (1, ev y), (2, ev z), (3, ev v)]).run Try.prog w = .ok r w) :
    (execOp ev o).run Try.prog w = .ok (.value r) w := by
  unfold execOp
  simp only [ho]
  simp [h]
/-- A call whose result is told otherwise. -/
theorem step_callO {φ : Value → Prop} (hs : Soft wt (Holds l W0)) (hg : Wants ops wt fr (Holds l W0) i o true) (hf : factAt l i = .oth φ)
    (h : ∀ L u w, Keep l W0 L u w → (∀ k, L k = true → Holds l W0 k L u w) → (∀ d, wt i d = true → L d = true) → ∀ K : Act → World → Prop, Shut (∀ v w', φ v → Below w.heap.size w w' → K ((⟨fr u, df⟩ : Act).put o.dst v) w') → Oper.wp Try.prog o ⟨fr u, df⟩ w K Q) :
    StepAt Try.prog ops wt Q fr df (Holds l W0) (Keep l W0) i o :=
  StepAt.soft hs hg fun L u W _ hJ hG _ hdep K hK => h L u W hJ hG hdep K (fun v w' hv hb => hK.out v w' hb (hJ.later hb (by rw [hf]; rfl)) (by unfold Holds; rw [hf]; simp only; rw [putV_same]; exact hv))
/-- A call that hands back cells for a while. -/
theorem step_callT {n v : Nat} {cs : List Value} (hs : Soft wt (Holds l W0)) (hg : Wants ops wt fr (Holds l W0) i o true) (hf : factAt l i = .tmp n cs v)
    (h : ∀ L u w, Keep l W0 L u w → (∀ k, L k = true → Holds l W0 k L u w) → (∀ d, wt i d = true → L d = true) → ∀ K : Act → World → Prop,
      Shut (∀ g w', Blk w' g cs 5 → Below w.heap.size w w' → K ((⟨fr u, df⟩ : Act).put o.dst (.slice (some ⟨g, 0, none⟩) n n)) w') → Oper.wp Try.prog o ⟨fr u, df⟩ w K Q) :
    StepAt Try.prog ops wt Q fr df (Holds l W0) (Keep l W0) i o :=
  StepAt.soft hs hg fun L u W _ hJ hG _ hdep K hK => h L u W hJ hG hdep K (fun g w' h1 hb => hK.out _ w' hb (hJ.later hb (by rw [hf]; rfl)) (by
    unfold Holds; rw [hf]; simp only; rw [putV_same]
    exact ⟨g, rfl, fun _ => h1⟩))
/-- A call that hands back bytes. -/
theorem step_callB {bs : List UInt8} (hs : Soft wt (Holds l W0)) (hg : Wants ops wt fr (Holds l W0) i o true) (hf : factAt l i = .rd bs)
    (h : ∀ L u w, Keep l W0 L u w → (∀ k, L k = true → Holds l W0 k L u w) → (∀ d, wt i d = true → L d = true) → ∀ K : Act → World → Prop,
      Shut (∀ g n cap r w', w.heap.size ≤ g → Blk w' g (bs.map bV ++ r) 5 → bs.length = n → n ≤ cap → cap ≤ maxLen → Below w.heap.size w w' → K ((⟨fr u, df⟩ : Act).put o.dst (.slice (some ⟨g, 0, none⟩) n cap)) w') → Oper.wp Try.prog o ⟨fr u, df⟩ w K Q) :
    StepAt Try.prog ops wt Q fr df (Holds l W0) (Keep l W0) i o :=
  StepAt.soft hs hg fun L u W _ hJ hG _ hdep K hK => h L u W hJ hG hdep K (fun g n cap r w' h1 h2 h3 h4 h5 hb => hK.out _ w' hb (hJ.later hb (by rw [hf]; rfl)) (by
    unfold Holds; rw [hf]; simp only; rw [putV_same]
    exact ⟨g, n, cap, r, rfl, Nat.le_trans hJ.size h1, h2, h3, h4, h5⟩))
/-- A value that an instruction yields, told otherwise. -/
theorem step_pureO {φ : Value → Prop} (hs : Soft wt (Holds l W0)) (hg : Wants ops wt fr (Holds l W0) i o true) (hf : factAt l i = .oth φ)
    (h : ∀ L u w, (∀ k, L k = true → Holds l W0 k L u w) → (∀ d, wt i d = true → L d = true) → ∃ v, (execOp (⟨fr u, df⟩ : Act).eval o).run Try.prog w = .ok (.value v) w ∧ φ v) :
    StepAt Try.prog ops wt Q fr df (Holds l W0) (Keep l W0) i o := by
  refine StepAt.soft hs hg fun L u W hcl hJ hG hL hdep K hK => ?_
  obtain ⟨v, hv, hx⟩ := h L u W hG hdep
  unfold Oper.wp
  rw [hv]
  exact hK.out _ _ (Below.refl _ _) (hJ.later (Below.refl _ _) (by rw [hf]; rfl)) (by unfold Holds; rw [hf]; simp only; rw [putV_same]; exact hx)
/-- A guard that lets the operation come. -/
theorem wants_on {b : Bool} (j : Nat) (hgd : o.guard = some (j, b)) (hj : factAt l j = .oth (fun v => v = .bool b)) (hw : wt i j = true) (hy : ∀ u, ((ops[j]?).bind (·.dst)).bind ((fr u)[·]?) = some (u j)) : Wants ops wt fr (Holds l W0) i o true := fun L u w hG hd => by
  have h := hG j (hd j hw)
  unfold Holds at h
  rw [hj] at h
  simp only at h
  simp [Region.wanted, hgd, yielded, hy, h]
/-- A guard that shuts it out. -/
theorem wants_off {b c : Bool} (j : Nat) (hbc : (b == c) = false) (hgd : o.guard = some (j, b)) (hj : factAt l j = .oth (fun v => v = .bool c)) (hw : wt i j = true) (hy : ∀ u, ((ops[j]?).bind (·.dst)).bind ((fr u)[·]?) = some (u j)) : Wants ops wt fr (Holds l W0) i o false := fun L u w hG hd => by
  have h := hG j (hd j hw)
  unfold Holds at h
  rw [hj] at h
  simp only at h
  cases b <;> cases c <;> simp_all [Region.wanted, yielded]
/-- An operation that is shut out. -/
theorem step_out (hs : Soft wt (Holds l W0)) (hg : Wants ops wt fr (Holds l W0) i o false) (hf : factAt l i = .any) : StepAt Try.prog ops wt Q fr df (Holds l W0) (Keep l W0) i o :=
  StepAt.out hs hg fun L u w hJ _ _ => ⟨hJ.later (Below.refl _ _) (by rw [hf]; rfl), holds_any hf⟩
theorem holds_oth {φ : Value → Prop} {j : Nat} (hj : factAt l j = .oth φ) {L : Nat → Bool} {u : Nat → Value} {w : World} (h : Holds l W0 j L u w) : φ (u j) := by
  unfold Holds at h; rw [hj] at h; exact h
/-- One of two, by a test that is known. -/
theorem step_pick {c x y : Operand} {φ : Value → Prop} (b : Bool) (hs : Soft wt (Holds l W0)) (hg : Wants ops wt fr (Holds l W0) i o true) (ho : o.op = .pick c x y) (hf : factAt l i = .oth φ)
    (hc : ∀ L u w, (∀ k, L k = true → Holds l W0 k L u w) → (∀ d, wt i d = true → L d = true) → (⟨fr u, df⟩ : Act).eval c = .bool b)
    (h : ∀ L u w, (∀ k, L k = true → Holds l W0 k L u w) → (∀ d, wt i d = true → L d = true) → φ ((⟨fr u, df⟩ : Act).eval (if b then x else y))) :
    StepAt Try.prog ops wt Q fr df (Holds l W0) (Keep l W0) i o := by
  refine StepAt.soft hs hg fun L u W hcl hJ hG hL hdep K hK => ?_
  have h1 := hc L u W hG hdep
  have h2 := h L u W hG hdep
  have hr : (execOp (⟨fr u, df⟩ : Act).eval o).run Try.prog W = .ok (.value ((⟨fr u, df⟩ : Act).eval (if b then x else y))) W := by
    unfold execOp
    simp only [ho, h1]
    cases b <;> rfl
  unfold Oper.wp
  rw [hr]
  exact hK.out _ _ (Below.refl _ _) (hJ.later (Below.refl _ _) (by rw [hf]; rfl)) (by unfold Holds; rw [hf]; simp only; rw [putV_same]; exact h2)
/-- Two results in one value. -/
def IsT2 (R : Rp) (v : Value) (xs ys : List F) : Prop := ∃ r r', v = .tuple #[r, r'] ∧ IsFs R r xs ∧ IsFs R r' ys
theorem run_extract0 {ev : Operand → Value} {o : Oper} {x : Operand} {xs ys : List F} {w : World} (ho : o.op = .extract x 0) (h : IsT2 R (ev x) xs ys) : ∃ v, (execOp ev o).run Try.prog w = .ok (.value v) w ∧ IsFs R v xs := by
  obtain ⟨r, r', e, h1, h2⟩ := h
  refine ⟨r, ?_, h1⟩
  unfold execOp
  simp only [ho, e]
  simp [Instr.extract]
theorem run_extract1 {ev : Operand → Value} {o : Oper} {x : Operand} {xs ys : List F} {w : World} (ho : o.op = .extract x 1) (h : IsT2 R (ev x) xs ys) : ∃ v, (execOp ev o).run Try.prog w = .ok (.value v) w ∧ IsFs R v ys := by
  obtain ⟨r, r', e, h1, h2⟩ := h
  refine ⟨r', ?_, h2⟩
  unfold execOp
  simp only [ho, e]
  simp [Instr.extract]
theorem run_move {ev : Operand → Value} {o : Oper} {x : Operand} {w : World} (ho : o.op = .move x) : (execOp ev o).run Try.prog w = .ok (.value (ev x)) w := by
  unfold execOp
  simp only [ho]
  rfl
theorem run_assign {ev : Operand → Value} {o : Oper} {x : Operand} {w : World} (ho : o.op = .assign x) : (execOp ev o).run Try.prog w = .ok (.value (ev x)) w := by
  unfold execOp
  simp only [ho]
  rfl
/-- A call that hands back numbers. -/
theorem step_call {xs : List F} (hs : Soft wt (Holds l W0)) (hg : Wants ops wt fr (Holds l W0) i o true) (hf : factAt l i = .val R xs)
    (h : ∀ L u w, Keep l W0 L u w → (∀ k, L k = true → Holds l W0 k L u w) → L i = false → (∀ d, wt i d = true → L d = true) → ∀ K : Act → World → Prop, Shut (∀ v w', IsFs R v xs → Below w.heap.size w w' → K ((⟨fr u, df⟩ : Act).put o.dst v) w') → Oper.wp Try.prog o ⟨fr u, df⟩ w K Q) :
    StepAt Try.prog ops wt Q fr df (Holds l W0) (Keep l W0) i o :=
  StepAt.soft hs hg fun L u W _ hJ hG hL hdep K hK => h L u W hJ hG hL hdep K (fun v w' hv hb => hK.out v w' hb (hJ.later hb (isNew_val hf)) (holds_val hf hv))
end
/-- Two results that lie in memory. -/
theorem results_cells2 {R : Rp} {fn : Func} {p q : Tmp} {ty ty' : TypeId} (h : fn.results = #[.cell p ty, .cell q ty']) (tmps : Array Value) (w : World) {g g' : Nat} {xs ys : List F}
    (hp : tmps.getD p undef = .pointer (some ⟨g, 0, none⟩)) (hq : tmps.getD q undef = .pointer (some ⟨g', 0, none⟩)) (hx : HasFs R w g 0 xs) (hy : HasFs R w g' 0 ys) (hT : TyOk R ty xs.length) (hT' : TyOk R ty' ys.length) :
    ∃ r r', (results fn tmps).run Try.prog w = .ok (.tuple #[r, r']) w ∧ IsFs R r xs ∧ IsFs R r' ys := by
  obtain ⟨cs, hc, hr⟩ := hx
  obtain ⟨ds, hd, hs⟩ := hy
  obtain ⟨d, h1, h2⟩ := hT.row
  obtain ⟨d', h1', h2'⟩ := hT'.row
  have hp' : tmps[p]?.getD undef = .pointer (some ⟨g, 0, none⟩) := by simpa using hp
  have hq' : tmps[q]?.getD undef = .pointer (some ⟨g', 0, none⟩) := by simpa using hq
  have e1 := run_loadVar_mid (P := Try.prog) w g 0 ty cs d hr h1 h2 (by rw [hT.size, hc.len])
  have e2 := run_loadVar_mid (P := Try.prog) w g' 0 ty' ds d' hs h1' h2' (by rw [hT'.size, hd.len])
  exact ⟨.agg cs.toArray, .agg ds.toArray, by simp [results, h, hp', hq', asAddr, e1, e2], ⟨cs, rfl, hc⟩, ⟨ds, rfl, hd⟩⟩
theorem results_cell1 {R : Rp} {fn : Func} {p : Tmp} {ty : TypeId} (h : fn.results = #[.cell p ty]) (tmps : Array Value) (w : World) {g : Nat} {xs : List F}
    (hp : tmps.getD p undef = .pointer (some ⟨g, 0, none⟩)) (hx : HasFs R w g 0 xs) (hT : TyOk R ty xs.length) :
    ∃ r, (results fn tmps).run Try.prog w = .ok r w ∧ IsFs R r xs := by
  obtain ⟨cs, hc, hr⟩ := hx
  obtain ⟨d, h1, h2⟩ := hT.row
  have hp' : tmps[p]?.getD undef = .pointer (some ⟨g, 0, none⟩) := by simpa using hp
  have e1 := run_loadVar_mid (P := Try.prog) w g 0 ty cs d hr h1 h2 (by rw [hT.size, hc.len])
  exact ⟨.agg cs.toArray, by simp [results, h, hp', asAddr, e1], ⟨cs, rfl, hc⟩⟩
theorem ret_cells2 {R : Rp} {fn : Func} {RR : Ending → World → Prop} {a : Act} {p q : Tmp} {ty ty' : TypeId} {w : World} {g g' : Nat} {xs ys : List F} (h : fn.results = #[.cell p ty, .cell q ty'])
    (hp : a.tmps.getD p undef = .pointer (some ⟨g, 0, none⟩)) (hq : a.tmps.getD q undef = .pointer (some ⟨g', 0, none⟩)) (hx : HasFs R w g 0 xs) (hy : HasFs R w g' 0 ys) (hT : TyOk R ty xs.length) (hT' : TyOk R ty' ys.length)
    (hd : a.defers = []) (hR : ∀ r r', IsFs R r xs → IsFs R r' ys → RR (.returned (.tuple #[r, r'])) w) : bodyPost Try.prog fn RR .ret a w := by
  obtain ⟨r, r', e, i1, i2⟩ := results_cells2 h a.tmps w hp hq hx hy hT hT'
  exact bodyPost_ret e hd (hR r r' i1 i2)
theorem ret_cell1 {R : Rp} {fn : Func} {RR : Ending → World → Prop} {a : Act} {p : Tmp} {ty : TypeId} {w : World} {g : Nat} {xs : List F} (h : fn.results = #[.cell p ty])
    (hp : a.tmps.getD p undef = .pointer (some ⟨g, 0, none⟩)) (hx : HasFs R w g 0 xs) (hT : TyOk R ty xs.length)
    (hd : a.defers = []) (hR : ∀ r, IsFs R r xs → RR (.returned r) w) : bodyPost Try.prog fn RR .ret a w := by
  obtain ⟨r, e, i1⟩ := results_cell1 h a.tmps w hp hx hT
  exact bodyPost_ret e hd (hR r i1)
theorem ret_cell_slot {R : Rp} {fn : Func} {RR : Ending → World → Prop} {a : Act} {p q : Tmp} {ty : TypeId} {w : World} {g : Nat} {xs : List F} {v : Value} (h : fn.results = #[.cell p ty, .tmp q])
    (hp : a.tmps.getD p undef = .pointer (some ⟨g, 0, none⟩)) (hq : a.tmps.getD q undef = v) (hx : HasFs R w g 0 xs) (hT : TyOk R ty xs.length)
    (hd : a.defers = []) (hR : ∀ r, IsFs R r xs → RR (.returned (.tuple #[r, v])) w) : bodyPost Try.prog fn RR .ret a w := by
  obtain ⟨cs, hc, hr⟩ := hx
  obtain ⟨d, h1, h2⟩ := hT.row
  have hp' : a.tmps[p]?.getD undef = .pointer (some ⟨g, 0, none⟩) := by simpa using hp
  have hq' : a.tmps[q]?.getD undef = v := by simpa using hq
  have e1 := run_loadVar_mid (P := Try.prog) w g 0 ty cs d hr h1 h2 (by rw [hT.size, hc.len])
  exact bodyPost_ret (v := .tuple #[.agg cs.toArray, v]) (by simp [results, h, hp', hq', asAddr, e1]) hd (hR _ ⟨cs, rfl, hc⟩)
end Go.Proofs.Ytmoggjbnlimepaa
