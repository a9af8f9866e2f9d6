/- Statements that append to slices of their own: the steps. -/
import Derived.Test.YtmoggjbnlimepaaRegs
import Derived.Test.YtmoggjbnlimepaaFlat
namespace Go.Proofs.Ytmoggjbnlimepaa
open Go Go.RowKit

theorem own_RdB {w : World} {base E g n cap : Nat} {l : List UInt8} (h : w.ownsRow base E 1 (.slice (some ⟨g, 0, none⟩) n cap) n (l.map bV)) : RdB w (some ⟨g, 0, none⟩) n cap l := by
  obtain ⟨h1, h2⟩ := h
  simp at h1
  rcases h2 with ⟨h, _⟩ | ⟨g', cap', cur, hv, hg, hh, hc, hm, hs, ht⟩
  · cases h
  · simp at hv
    obtain ⟨rfl, rfl⟩ := hv
    exact RdB.blk (E := E) (cur.toList.drop n) (by unfold Blk; rw [hh, ← ht, Nat.mul_one, List.take_append_drop]) h1 hc hm
theorem run_app_own (w : World) (base : Nat) (ty : TypeId) {g n cap : Nat} {l : List UInt8} (hown : w.ownsRow base 5 1 (.slice (some ⟨g, 0, none⟩) n cap) n (l.map bV))
    {sa : Option Addr} {m sc : Nat} {r : List UInt8} (hr : RdB w sa m sc r) (hlen : n + m ≤ 70368744177664) (hbase : base ≤ w.heap.size) :
    ∃ g' cap' w', (Builtin.append_ #[22, 22] ty #[.slice (some ⟨g, 0, none⟩) n cap, .slice sa m sc]).run Try.prog w = .ok (.slice (some ⟨g', 0, none⟩) (n + m) cap') w' ∧
      w'.ownsRow base 5 1 (.slice (some ⟨g', 0, none⟩) (n + m) cap') (n + m) ((l ++ r).map bV) ∧ w.grownBy w' (some g) ∧ (g' = g ∨ w.heap.size ≤ g') := by
  obtain ⟨i0, hi, hz0, hz1, hz2⟩ := info_parts (show (Try.prog.info? 5).map (fun i => (i.zero, i.size, i.bytes)) = some (some (.int .u8 0), 1, 1) from by kernel_rfl)
  cases sa with
  | none =>
    obtain rfl := hr.hnil rfl
    obtain rfl : m = 0 := by have := hr.hcap; omega
    obtain rfl : r = [] := List.eq_nil_of_length_eq_zero hr.hlen
    exact ⟨g, cap, w, run_append_owned_none (P := Try.prog) (w := w) base 22 ty 5 i0 1 Try.underlying22 hi _ n (l.map bV) hown, by simpa using hown, ⟨rfl, rfl, rfl, Nat.le_refl _, fun _ _ _ => rfl⟩, .inl rfl⟩
  | some ad =>
    have hl : (r.map bV).length = m * 1 := by simp [hr.hlen]
    have hnews : ∀ j u, (r.map bV)[j]? = some u → w.cell? (ad.add j) = some u := by
      intro j u hu
      obtain ⟨hj, hv⟩ := List.getElem?_eq_some_iff.1 hu
      simp at hj
      obtain ⟨b, q, hab, hc⟩ := hr.get j hj
      simp at hab
      subst hab
      rw [show Addr.add ⟨b, q, none⟩ j = ⟨b, q + j, none⟩ from by unfold Addr.add; split <;> simp_all, hc, ← hv]
      simp
    have h1 : ∀ u ∈ r.map bV, u.oneCell' = true := by
      intro u hu
      simp at hu
      obtain ⟨c, _, rfl⟩ := hu
      rfl
    obtain ⟨v', w', e, h2, h3, h4⟩ := run_append_own (P := Try.prog) w base 22 ty 5 i0 (.int .u8 0) 1 1 Try.underlying22 hi hz0 hz1 hz2 rfl (by decide) _ n (l.map bV) hown ad m sc (r.map bV) hl hnews h1 (by unfold maxLen; omega) (by omega) hbase
    rw [← List.map_append] at h2
    have hcells := hown.cells (g := g) rfl
    have hlo := hown.1
    rcases hown.2 with ⟨h, _⟩ | ⟨g1, c1, cur, hv, hg, hh, hc, hm, hs, ht⟩
    · cases h
    · simp at hv
      obtain ⟨rfl, rfl⟩ := hv
      by_cases hroom : n + m ≤ cap
      · have e2 := run_append_room (P := Try.prog) w 22 ty 5 i0 Try.underlying22 hi g n cap cur hh ad m sc (r.map bV) (by rw [hz1]; exact hl) hnews h1 hroom (by rw [hz1, hl]; omega)
        rw [e] at e2
        injection e2 with e3 e4
        subst e3
        exact ⟨g, cap, w', e, h2, h3, .inl rfl⟩
      · have e2 := run_append_grow (P := Try.prog) w 22 ty 5 i0 (.int .u8 0) Try.underlying22 hi hz0 ⟨g, 0, none⟩ n cap (l.map bV) (by rw [hz1]; exact hlo) hcells ad m sc (r.map bV) (by rw [hz1]; exact hl) hnews (by omega) (by omega) (growslice_fits (by omega) (by rw [hz2]; omega))
        rw [e] at e2
        injection e2 with e3 e4
        subst e3
        exact ⟨_, _, w', e, h2, h3, .inr (Nat.le_refl _)⟩

/-- a waits for b, through others. -/
inductive Path (wt : Nat → Nat → Bool) : Nat → Nat → Prop
  | one {a b : Nat} : wt a b = true → Path wt a b
  | cons {a c b : Nat} : wt a c = true → Path wt c b → Path wt a b
theorem Path.listed {wt : Nat → Nat → Bool} {L : Nat → Bool} (hcl : ∀ k d, L k = true → wt k d = true → L d = true) {a b : Nat} (h : Path wt a b) (ha : L a = true) : L b = true := by
  induction h with
  | one h => exact hcl _ _ ha h
  | cons h _ ih => exact ih (hcl _ _ ha h)
theorem Path.first {wt : Nat → Nat → Bool} {L : Nat → Bool} {a b : Nat} (hcl : ∀ k d, L k = true → wt k d = true → L d = true) (hdep : ∀ d, wt a d = true → L d = true) (h : Path wt a b) : L b = true := by
  cases h with
  | one h => exact hdep _ h
  | cons h h2 => exact h2.listed hcl (hdep _ h)
theorem putL_false' {L : Nat → Bool} {i j : Nat} (h : putL L i j = false) : j ≠ i := by
  rintro rfl; rw [putL_same] at h; cases h

/-- Behind an operation that makes a slice of its own. -/
theorem Keep.ownNew {l : List Fact} {W0 w w' : World} {L : Nat → Bool} {u : Nat → Value} {i g n0 c0 : Nat} {row : Option Nat} (h : Keep l W0 L u w) (hH : ∀ k, L k = true → Holds l W0 k L u w) (hgr : w.grownBy w' row) (hrow : ∀ q, row = some q → W0.heap.size ≤ q)
    (hfr : w.heap.size ≤ g ∨ ∃ j l1 n c, factAt l j = .own l1 i ∧ L j = true ∧ L i = false ∧ u j = .slice (some ⟨g, 0, none⟩) n c) :
    Keep l W0 (putL L i) (putV u i (.slice (some ⟨g, 0, none⟩) n0 c0)) w' := by
  have key : ∀ k n c l2 v2, k ≠ i → factAt l k = .own l2 v2 → L k = true → putL L i v2 = false → u k ≠ .slice (some ⟨g, 0, none⟩) n c := by
    intro k n c l2 v2 hki hf hk hv e
    have hlt : g < w.heap.size := by
      have := hH k hk
      unfold Holds at this
      rw [hf] at this
      obtain ⟨q, cap, h1, _, h3, _⟩ := this
      rw [e] at h1
      simp at h1
      obtain ⟨rfl, _⟩ := h1
      exact h3
    rcases hfr with hfr | ⟨j, l1, n1, c1, hj, hLj, hLi, e1⟩
    · omega
    · have hne : j ≠ k := by
        rintro rfl
        rw [hj] at hf
        cases hf
        exact putL_false' hv rfl
      exact h.own j k g n1 c1 n c l1 i l2 v2 hne hj hf hLj hk hLi (putL_false hv) e1 e
  refine ⟨hgr.os.trans h.os, hgr.tape.trans h.tape, hgr.output.trans h.output, Nat.le_trans h.size hgr.size, fun b hlt hs => ?_, fun k k' q hne hk hk' n1 n2 e => ?_, fun k k' q n c n' c' l1 v1 l2 v2 hne hf hf' hk hk' hv hv' e => ?_⟩
  · have := h.size
    rw [hgr.block b (by omega) (fun e => by have := hrow b e.symm; omega)]
    exact h.block b hlt (fun k hf => putL_false (hs k hf))
  · by_cases h1 : k = i
    · subst h1; rw [putV_same] at e; cases e
    · by_cases h2 : k' = i
      · subst h2; rw [putV_same]; intro e2; cases e2
      · rw [putL_ne h1] at hk
        rw [putL_ne h2] at hk'
        rw [putV_ne h1] at e
        rw [putV_ne h2]
        exact h.apart k k' q hne hk hk' n1 n2 e
  · by_cases h1 : k = i
    · subst h1
      have h2 : k' ≠ k := fun e => hne e.symm
      rw [putV_same] at e
      simp at e
      obtain ⟨rfl, _⟩ := e
      rw [putL_ne h2] at hk'
      rw [putV_ne h2]
      exact key k' _ _ l2 v2 h2 hf' hk' hv'
    · rw [putL_ne h1] at hk
      rw [putV_ne h1] at e
      by_cases h2 : k' = i
      · subst h2
        rw [putV_same]
        intro e2
        simp at e2
        obtain ⟨rfl, _⟩ := e2
        exact key k _ _ l1 v1 h1 hf hk hv e
      · rw [putL_ne h2] at hk'
        rw [putV_ne h2]
        exact h.own k k' q n c n' c' l1 v1 l2 v2 hne hf hf' hk hk' (putL_false hv) (putL_false hv') e

/-- What an append may stand beside. -/
def Fact.beside : Fact → Bool
  | .any => true | .val _ _ => true | .ptr _ _ => true | .oth _ => true | .rdt _ _ => true | .own _ _ => true | _ => false
theorem beside_at {l : List Fact} (h : l.all Fact.beside = true) (k : Nat) : (factAt l k).beside = true := by
  rcases Nat.lt_or_ge k l.length with hlt | hge
  · rw [List.all_eq_true] at h
    have := h l[k] (List.getElem_mem hlt)
    have hk : l[k]? = some l[k] := by simp [hlt]
    unfold factAt
    rw [hk]; exact this
  · rw [factAt_len hge]; rfl
theorem beside_sto {l : List Fact} (h : l.all Fact.beside = true) : ∀ k b, (factAt l k).tgt = some b → False := fun k b hk => by
  have := beside_at h k
  cases hf : factAt l k <;> rw [hf] at hk this <;> first | (cases hk; done) | (cases this; done)

section
variable {R : Rp} {ops : Array Oper} {wt : Nat → Nat → Bool} {Q : Exit → Act → World → Prop} {fr : (Nat → Value) → Array Value} {df : List Deferred} {l : List Fact} {W0 : World} {i : Nat} {o : Oper}

/-- '[]byte{}'. -/
theorem step_build0s {v : Nat} (hs : Soft wt (Holds l W0)) (hg : Wants ops wt fr (Holds l W0) i o true) (hf : factAt l i = .own [] v)
    (hr : ∀ ev w, (execOp ev o).run Try.prog w = .ok (.value (.slice (some ⟨w.heap.size, 0, none⟩) 0 0)) (w.alloc (.cells #[] 5))) :
    StepAt Try.prog ops wt Q fr df (Holds l W0) (Keep l W0) i o := by
  refine StepAt.soft hs hg fun L u W hcl hJ hG hL hdep K hK => ?_
  unfold Oper.wp
  rw [hr]
  have hb : Below W.heap.size W (W.alloc (.cells #[] 5)) := (Below.refl _ _).alloc (Nat.le_refl _) _
  refine hK.out _ _ hb (hJ.ownNew hG (World.grownBy_alloc W _ none) (fun q hq => by cases hq) (.inl (Nat.le_refl _))) ?_
  unfold Holds; rw [hf]; simp only; rw [putV_same]
  exact ⟨_, 0, rfl, hJ.size, by simp, fun _ => World.ownsRow_made W #[] 0 hJ.size (Nat.zero_le _) rfl⟩
/-- 'append(s, x...)', where s is a slice of the statement's own. -/
theorem step_app {x y : Operand} {l1 l2 : List UInt8} {v m sc : Nat} {sa : Option Addr} (j : Nat) (hg : Wants ops wt fr (Holds l W0) i o true) (ho : o.op = .call { callee := .builtin .append, args := #[x, y], argTypes := #[22, 22] })
    (hf : factAt l i = .own (l1 ++ l2) v) (hj : factAt l j = .own l1 i) (hw : wt i j = true) (hx : ∀ u, (⟨fr u, df⟩ : Act).eval x = u j)
    (hy : ∀ L u w, (∀ k, L k = true → Holds l W0 k L u w) → (∀ d, wt i d = true → L d = true) → (⟨fr u, df⟩ : Act).eval y = .slice sa m sc) (hR : RdB W0 sa m sc l2) (hlen : l1.length + l2.length ≤ 70368744177664)
    (hbe : l.all Fact.beside = true) (hgone : ∀ k l' v', factAt l k = .rdt l' v' → Path wt i v' ∨ Path wt k i) :
    StepAt Try.prog ops wt Q fr df (Holds l W0) (Keep l W0) i o := by
  intro L u W hcl hJ hG hL hdep K hK
  rw [if_pos (hg L u W hG hdep)]
  have hGj := hG j (hdep j hw)
  unfold Holds at hGj
  rw [hj] at hGj
  simp only at hGj
  obtain ⟨g, cap, e1, hb0, hlt, hown⟩ := hGj
  have hown := hown hL
  have hB : Below W0.heap.size W0 W := hJ.below (Nat.le_refl _) (fun k b hk => (beside_sto hbe k b hk).elim)
  have hr := hR.below hB
  obtain rfl : l2.length = m := hr.hlen
  obtain ⟨g', cap', w', hrun, hown', hgr, hfr⟩ := run_app_own W W0.heap.size o.type hown hr hlen hJ.size
  have hrun' : (execOp (⟨fr u, df⟩ : Act).eval o).run Try.prog W = .ok (.value (.slice (some ⟨g', 0, none⟩) (l1.length + l2.length) cap')) w' := by
    unfold execOp
    simp only [ho, resolve, invoke, builtin, Sem.run_bind, Sem.run_pure, Result.andThen_ok, List.map_toArray, List.map_cons, List.map_nil, hx, e1, hy L u W hG hdep, hrun]
  unfold Oper.wp
  rw [hrun']
  have hKeep : Keep l W0 (putL L i) (putV u i (.slice (some ⟨g', 0, none⟩) (l1.length + l2.length) cap')) w' :=
    hJ.ownNew hG hgr (fun q hq => by cases hq; exact hb0) (by
      rcases hfr with rfl | hfr
      · exact .inr ⟨j, l1, _, _, hj, hdep j hw, hL, e1⟩
      · exact .inl hfr)
  refine hK.out _ _ hKeep (fun k hk hki hwk hh => ?_) ?_
  · have hbk := beside_at hbe k
    unfold Holds at hh ⊢
    cases hfk : factAt l k with
    | any => trivial
    | val R xs => simp only [hfk] at hh ⊢; rw [putV_ne hki]; exact hh
    | ptr g o => simp only [hfk] at hh ⊢; rw [putV_ne hki]; exact hh
    | oth φ => simp only [hfk] at hh ⊢; rw [putV_ne hki]; exact hh
    | rdt l' v' =>
      simp only [hfk] at hh ⊢
      rw [putV_ne hki]
      obtain ⟨q, n, c, r, h1, h2, h3, h4, h5, h6⟩ := hh
      refine ⟨q, n, c, r, h1, h2, h3, h4, h5, fun hl => ?_⟩
      exfalso
      rcases hgone k l' v' hfk with hp | hp
      · have := hp.first hcl hdep
        rw [putL_false hl] at this; cases this
      · have := hp.listed hcl hk
        rw [hL] at this; cases this
    | own l' v' =>
      simp only [hfk] at hh ⊢
      rw [putV_ne hki]
      obtain ⟨q, c, h1, h2, h3, h4⟩ := hh
      refine ⟨q, c, h1, h2, Nat.lt_of_lt_of_le h3 hgr.size, fun hl => ?_⟩
      have hne : j ≠ k := by
        rintro rfl
        rw [hj] at hfk
        cases hfk
        exact putL_false' hl rfl
      have hqg : q ≠ g := by
        rintro rfl
        exact hJ.own j k q _ _ _ _ l1 i l' v' hne hj hfk (hdep j hw) hk hL (putL_false hl) e1 h1
      exact own_keep (h4 (putL_false hl)) (hgr.block q h3 (by simpa using hqg))
    | _ => rw [hfk] at hbk; cases hbk
  · unfold Holds; rw [hf]; simp only; rw [putV_same]
    refine ⟨g', cap', by rw [List.length_append], ?_, ?_, fun _ => by rw [List.length_append]; exact hown'⟩
    · rcases hfr with rfl | hfr
      · exact hb0
      · exact Nat.le_trans hJ.size hfr
    · exact (hown'.lt g' rfl).2
/-- A call that hands back bytes, for a while. -/
theorem step_callRt {bs : List UInt8} {v : Nat} (hs : Soft wt (Holds l W0)) (hg : Wants ops wt fr (Holds l W0) i o true) (hf : factAt l i = .rdt bs v)
    (h : ∀ L u w, Keep l W0 L u w → (∀ k, L k = true → Holds l W0 k L u w) → L i = false → (∀ d, wt i d = true → L d = true) → ∀ K : Act → World → Prop,
      Shut (∀ g n cap r w', w.heap.size ≤ g → Blk w' g (bs.map bV ++ r) 5 → bs.length = n → n ≤ cap → cap ≤ maxLen → Below w.heap.size w w' → K ((⟨fr u, df⟩ : Act).put o.dst (.slice (some ⟨g, 0, none⟩) n cap)) w') → Oper.wp Try.prog o ⟨fr u, df⟩ w K Q) :
    StepAt Try.prog ops wt Q fr df (Holds l W0) (Keep l W0) i o :=
  StepAt.soft hs hg fun L u W _ hJ hG hL hdep K hK => h L u W hJ hG hL hdep K (fun g n cap r w' h1 h2 h3 h4 h5 hb => hK.out _ w' hb (hJ.later hb (by rw [hf]; rfl)) (by
    unfold Holds; rw [hf]; simp only; rw [putV_same]
    exact ⟨g, n, cap, r, rfl, Nat.le_trans hJ.size h1, h3, h4, h5, fun _ => h2⟩))
/-- 'string(b)' of such bytes. -/
theorem step_convT {x : Operand} {m : List UInt8} (j : Nat) (hs : Soft wt (Holds l W0)) (hg : Wants ops wt fr (Holds l W0) i o true) (ho : o.op = .convert 22 9 x) (hf : factAt l i = .oth (fun v => v = .string (bs m)))
    (hj : factAt l j = .rdt m i) (hw : wt i j = true) (hx : ∀ u, (⟨fr u, df⟩ : Act).eval x = u j) : StepAt Try.prog ops wt Q fr df (Holds l W0) (Keep l W0) i o := by
  refine StepAt.soft hs hg fun L u W hcl hJ hG hL hdep K hK => ?_
  have h := hG j (hdep j hw)
  unfold Holds at h
  rw [hj] at h
  simp only at h
  obtain ⟨g, n, cap, r, h1, h2, h3, h4, h5, h6⟩ := h
  unfold Oper.wp
  rw [run_conv ho (by rw [hx, h1]) (RdB.blk r (h6 hL) h3 h4 h5)]
  exact hK.out _ _ (Below.refl _ _) (hJ.later (Below.refl _ _) (by rw [hf]; rfl)) (by unfold Holds; rw [hf]; simp only; rw [putV_same])
end
end Go.Proofs.Ytmoggjbnlimepaa
