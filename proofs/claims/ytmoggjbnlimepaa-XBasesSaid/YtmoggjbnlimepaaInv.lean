/- A statement that draws its order, walked by an invariant: one proof for each operation, not one for each order. -/
import Derived.Deep.RegionHeld3
import Derived.WalkKit
namespace Go.Proofs.Ytmoggjbnlimepaa
open Go Go.RowKit

section
variable {P : Program} {ops : Array Oper} {Q : Exit → Act → World → Prop} {md : Region.Mode}

/-- Each operation waits only for earlier ones. -/
def earlier (md : Region.Mode) (ops : Array Oper) : Bool :=
  (List.range ops.size).all fun i => ((ops[i]?).map fun o => o.after.all fun e => !Region.binds md e || decide (e.on < i)).getD true
theorem earlier_spec (h : earlier md ops = true) {i : Nat} {o : Oper} (ho : ops[i]? = some o) {e : Edge} (he : e ∈ o.after) (hb : Region.binds md e = true) : e.on < i := by
  have hlt : i < ops.size := (Array.getElem?_eq_some_iff.1 ho).1
  unfold earlier at h
  rw [List.all_eq_true] at h
  have h1 := h i (by simpa using hlt)
  simp only [ho, Option.map_some, Option.getD_some, Array.all_eq_true_iff_forall_mem, Bool.or_eq_true, Bool.not_eq_true', decide_eq_true_eq] at h1
  rcases h1 e he with h2 | h2
  · rw [h2] at hb; cases hb
  · exact h2

/-- Operation i has come up, too. -/
def putL (L : Nat → Bool) (i : Nat) : Nat → Bool := fun j => if j = i then true else L j
theorem putL_same (L : Nat → Bool) (i : Nat) : putL L i i = true := by simp [putL]
theorem putL_ne {L : Nat → Bool} {i j : Nat} (h : j ≠ i) : putL L i j = L j := by simp [putL, h]
theorem putL_old {L : Nat → Bool} {i j : Nat} (h : L j = true) : putL L i j = true := by unfold putL; split <;> simp [h]
def lsL (listed : Array Bool) : Nat → Bool := fun j => listed.getD j false
theorem lsL_none (n : Nat) : lsL (Array.replicate n false) = fun _ => false := by
  funext j
  unfold lsL
  rw [Array.getD_eq_getD_getElem?]
  by_cases h : j < n
  · simp [h]
  · rw [Array.getElem?_eq_none (by simpa using h)]; rfl
theorem lsL_up {listed : Array Bool} {i : Nat} (hi : i < listed.size) : lsL (listed.setIfInBounds i true) = putL (lsL listed) i := by
  funext j
  unfold lsL putL
  by_cases h : j = i
  · subst h; simp [hi]
  · rw [if_neg h]; exact getD_set_ne false (Ne.symm h)

theorem ready_least (he : earlier md ops = true) {listed : Array Bool} (hs : listed.size = ops.size) (hr : Region.ready md ops listed = []) :
    ∀ i, i < ops.size → lsL listed i = true := by
  intro i
  induction i using Nat.strongRecOn with
  | _ i ih =>
    intro hi
    cases h : lsL listed i with
    | true => rfl
    | false =>
      have : i ∈ Region.ready md ops listed := by
        rw [mem_ready]
        refine ⟨?_, ops[i], by simp [hi], fun e he' hb => ?_⟩
        · unfold lsL at h; simpa [show i < listed.size by omega] using h
        · have := earlier_spec he (i := i) (o := ops[i]) (by simp [hi]) he' hb
          exact ih _ this (by omega)
      rw [hr] at this; cases this

/-- The invariant I holds at the beginning, each operation keeps it, and what follows is shown from it: whatever the order. -/
theorem wpAny_inv (he : earlier md ops = true) (I : (Nat → Bool) → Act → World → Prop)
    (hstep : ∀ i o, ops[i]? = some o → ∀ L a w, I L a w → L i = false → (∀ e ∈ o.after, Region.binds md e = true → L e.on = true) → wpOp P ops Q i (fun a' w' => I (putL L i) a' w') a w)
    (hdone : ∀ L a w, (∀ i, i < ops.size → L i = true) → I L a w → Q .normal a w) :
    ∀ fuel (listed : Array Bool) a w, listed.size = ops.size → listed.count false ≤ fuel → I (lsL listed) a w → wpAny P md ops Q fuel listed a w := by
  intro fuel
  induction fuel with
  | zero =>
    intro listed a w hs hc hI
    have hall : ∀ i, i < ops.size → lsL listed i = true := fun i hi => by
      have h0 : listed.count false = 0 := by omega
      have hn : false ∉ listed := Array.count_eq_zero.1 h0
      have hlt : i < listed.size := by omega
      unfold lsL
      cases hb : listed.getD i false with
      | true => rfl
      | false =>
        exfalso; apply hn
        simp [hlt] at hb
        exact hb ▸ Array.getElem_mem hlt
    refine ⟨?_, hdone _ _ _ hall hI⟩
    apply List.eq_nil_iff_forall_not_mem.2
    intro i hi
    obtain ⟨h0, o, ho, _⟩ := mem_ready.1 hi
    have hlt : i < ops.size := (Array.getElem?_eq_some_iff.1 ho).1
    have h1 := hall i hlt
    unfold lsL at h1
    simp [show i < listed.size by omega] at h0 h1
    rw [h0] at h1; cases h1
  | succ fuel ih =>
    intro listed a w hs hc hI
    refine ⟨fun hr => hdone _ _ _ (ready_least he hs hr) hI, fun i hi => ?_⟩
    obtain ⟨h0, o, ho, hdep⟩ := mem_ready.1 hi
    have hlt : i < ops.size := (Array.getElem?_eq_some_iff.1 ho).1
    have hltL : i < listed.size := by omega
    have hb : listed[i] = false := by simpa [hltL] using h0
    refine wpOp_mono (fun a' w' h => ih _ a' w' (by simpa using hs) ?_ (by rw [lsL_up hltL]; exact h)) (hstep i o ho (lsL listed) a w hI (by unfold lsL; simpa [hltL] using hb) hdep)
    have e : (listed.setIfInBounds i true).count false + 1 = listed.count false := by
      have hset : listed.setIfInBounds i true = listed.set i true hltL := by simp [Array.setIfInBounds, hltL]
      rw [hset, Array.count_set]
      have hpos : 0 < listed.count false := Array.count_pos_iff.2 (hb ▸ Array.getElem_mem hltL)
      simp [hb]; omega
    omega

/-! ### the values of the operations, and what is known of each -/
/-- The operation k yielded u k. -/
def putV (u : Nat → Value) (i : Nat) (v : Value) : Nat → Value := fun j => if j = i then v else u j
theorem putV_same (u : Nat → Value) (i : Nat) (v : Value) : putV u i v i = v := by simp [putV]
theorem putV_ne {u : Nat → Value} {i j : Nat} {v : Value} (h : j ≠ i) : putV u i v j = u j := by simp [putV, h]

/-- Operation o waits for operation d. -/
def waitsFor (md : Region.Mode) (o : Oper) (d : Nat) : Bool := o.after.any fun e => Region.binds md e && (e.on == d)
def waitsOn (md : Region.Mode) (ops : Array Oper) (k d : Nat) : Bool := ((ops[k]?).map fun o => waitsFor md o d).getD false
theorem waitsFor_spec {o : Oper} {d : Nat} (h : waitsFor md o d = true) : ∃ e ∈ o.after, Region.binds md e = true ∧ e.on = d := by
  unfold waitsFor at h
  rw [Array.any_eq_true] at h
  obtain ⟨j, hj, h⟩ := h
  simp only [Bool.and_eq_true, beq_iff_eq] at h
  exact ⟨o.after[j], Array.getElem_mem hj, h.1, h.2⟩
theorem waitsFor_mk {o : Oper} {e : Edge} (he : e ∈ o.after) (hb : Region.binds md e = true) : waitsFor md o e.on = true := by
  unfold waitsFor
  rw [Array.any_eq_true]
  obtain ⟨j, hj, rfl⟩ := Array.mem_iff_getElem.1 he
  exact ⟨j, hj, by simp [hb]⟩
/-- A statement whose order is fixed: each operation waits for all ahead of it. -/
def inTurn (k d : Nat) : Bool := decide (d < k)

/-- The state in the midst of a statement: G k: what is known of operation k's value once it has come up; J: what else is known; wt k d: k waits for d. -/
structure Mid (wt : Nat → Nat → Bool) (fr : (Nat → Value) → Array Value) (df : List Deferred) (G : Nat → (Nat → Bool) → (Nat → Value) → World → Prop) (J : (Nat → Bool) → (Nat → Value) → World → Prop)
    (L : Nat → Bool) (a : Act) (w : World) : Prop where
  closed : ∀ k d, L k = true → wt k d = true → L d = true
  ex : ∃ u, a = ⟨fr u, df⟩ ∧ J L u w ∧ ∀ k, L k = true → G k L u w

/-- One operation's step, for every state in which it may come up. -/
def StepAt (P : Program) (ops : Array Oper) (wt : Nat → Nat → Bool) (Q : Exit → Act → World → Prop) (fr : (Nat → Value) → Array Value) (df : List Deferred)
    (G : Nat → (Nat → Bool) → (Nat → Value) → World → Prop) (J : (Nat → Bool) → (Nat → Value) → World → Prop) (i : Nat) (o : Oper) : Prop :=
  ∀ L u w, (∀ k d, L k = true → wt k d = true → L d = true) → J L u w → (∀ k, L k = true → G k L u w) → L i = false → (∀ d, wt i d = true → L d = true) →
    ∀ K : Act → World → Prop, Shut (∀ v w', J (putL L i) (putV u i v) w' → (∀ k, L k = true → k ≠ i → wt k i = false → G k L u w → G k (putL L i) (putV u i v) w') → G i (putL L i) (putV u i v) w' → K ((⟨fr u, df⟩ : Act).put o.dst v) w') →
      if Region.wanted o (yielded ops (fr u)) = true then Oper.wp P o ⟨fr u, df⟩ w K Q else K ((⟨fr u, df⟩ : Act).put o.dst undef) w

/-- What the facts G rest on: the values of k itself and of those that k waits for; they stay in later worlds. -/
structure Soft (wt : Nat → Nat → Bool) (G : Nat → (Nat → Bool) → (Nat → Value) → World → Prop) : Prop where
  sup : ∀ k L u i v w, k ≠ i → wt k i = false → G k L u w → G k (putL L i) (putV u i v) w
  later : ∀ k L u w w', Below w.heap.size w w' → G k L u w → G k L u w'
theorem putL_false {L : Nat → Bool} {i j : Nat} (h : putL L i j = false) : L j = false := by
  unfold putL at h; split at h
  · cases h
  · exact h

section steps
variable {wt : Nat → Nat → Bool} {fr : (Nat → Value) → Array Value} {df : List Deferred} {G : Nat → (Nat → Bool) → (Nat → Value) → World → Prop} {J : (Nat → Bool) → (Nat → Value) → World → Prop} {i : Nat} {o : Oper}
/-- Operation i is wanted in every state in which it may come up. -/
def Wants (ops : Array Oper) (wt : Nat → Nat → Bool) (fr : (Nat → Value) → Array Value) (G : Nat → (Nat → Bool) → (Nat → Value) → World → Prop) (i : Nat) (o : Oper) (b : Bool) : Prop :=
  ∀ L u w, (∀ k, L k = true → G k L u w) → (∀ d, wt i d = true → L d = true) → Region.wanted o (yielded ops (fr u)) = b
theorem wants_none (hg : o.guard = none) : Wants ops wt fr G i o true := fun _ _ _ _ _ => by simp [Region.wanted, hg]
theorem StepAt.soft (hs : Soft wt G) (hg : Wants ops wt fr G i o true)
    (h : ∀ L u w, (∀ k d, L k = true → wt k d = true → L d = true) → J L u w → (∀ k, L k = true → G k L u w) → L i = false → (∀ d, wt i d = true → L d = true) →
      ∀ K : Act → World → Prop, Shut (∀ v w', Below w.heap.size w w' → J (putL L i) (putV u i v) w' → G i (putL L i) (putV u i v) w' → K ((⟨fr u, df⟩ : Act).put o.dst v) w') → Oper.wp P o ⟨fr u, df⟩ w K Q) :
    StepAt P ops wt Q fr df G J i o := fun L u w hcl hJ hG hL hdep K hK => by
  rw [if_pos (hg L u w hG hdep)]
  exact h L u w hcl hJ hG hL hdep K (fun v w' hb hj hg => hK.out v w' hj (fun _ _ hki hw hgk => hs.later _ _ _ _ _ hb (hs.sup _ _ _ _ _ _ hki hw hgk)) hg)
/-- A step that is shut out by its guard. -/
theorem StepAt.out (hs : Soft wt G) (hg : Wants ops wt fr G i o false)
    (h : ∀ L u w, J L u w → (∀ k, L k = true → G k L u w) → (∀ d, wt i d = true → L d = true) → J (putL L i) (putV u i undef) w ∧ G i (putL L i) (putV u i undef) w) :
    StepAt P ops wt Q fr df G J i o := fun L u w hcl hJ hG hL hdep K hK => by
  rw [if_neg (by rw [hg L u w hG hdep]; simp)]
  obtain ⟨h1, h2⟩ := h L u w hJ hG hdep
  exact hK.out undef w h1 (fun _ _ hki hw hgk => hs.sup _ _ _ _ _ _ hki hw hgk) h2
/-- A step that writes to what was there: what becomes of the other facts is to be shown. -/
theorem StepAt.hard (hs : Soft wt G) (hg : Wants ops wt fr G i o true)
    (h : ∀ L u w, (∀ k d, L k = true → wt k d = true → L d = true) → J L u w → (∀ k, L k = true → G k L u w) → L i = false → (∀ d, wt i d = true → L d = true) →
      ∀ K : Act → World → Prop, Shut (∀ v w', J (putL L i) (putV u i v) w' → (∀ k, L k = true → k ≠ i → wt k i = false → G k L u w → G k L u w') → G i (putL L i) (putV u i v) w' → K ((⟨fr u, df⟩ : Act).put o.dst v) w') → Oper.wp P o ⟨fr u, df⟩ w K Q) :
    StepAt P ops wt Q fr df G J i o := fun L u w hcl hJ hG hL hdep K hK => by
  rw [if_pos (hg L u w hG hdep)]
  exact h L u w hcl hJ hG hL hdep K (fun v w' hj hk hg => hK.out v w' hj (fun k hL' hki hw hgk => hs.sup _ _ _ _ _ _ hki hw (hk k hL' hki hw hgk)) hg)
end steps
theorem dep_ne {wt : Nat → Nat → Bool} {k j i : Nat} (h : wt k j = true) (hw : wt k i = false) : j ≠ i := by
  rintro rfl; rw [h] at hw; cases hw

def AllSteps (P : Program) (ops : Array Oper) (wt : Nat → Nat → Bool) (Q : Exit → Act → World → Prop) (fr : (Nat → Value) → Array Value) (df : List Deferred)
    (G : Nat → (Nat → Bool) → (Nat → Value) → World → Prop) (J : (Nat → Bool) → (Nat → Value) → World → Prop) : Nat → List Oper → Prop
  | _, [] => True
  | i, o :: l => StepAt P ops wt Q fr df G J i o ∧ AllSteps P ops wt Q fr df G J (i + 1) l
theorem AllSteps.at {wt : Nat → Nat → Bool} {fr : (Nat → Value) → Array Value} {df : List Deferred} {G : Nat → (Nat → Bool) → (Nat → Value) → World → Prop} {J : (Nat → Bool) → (Nat → Value) → World → Prop} :
    ∀ (l : List Oper) (i : Nat), AllSteps P ops wt Q fr df G J i l → ∀ k o, l[k]? = some o → StepAt P ops wt Q fr df G J (i + k) o
  | [], _, _, k, o, h => by simp at h
  | x :: l, i, h, 0, o, hk => by simp at hk; subst hk; exact h.1
  | x :: l, i, h, k + 1, o, hk => by
    have := AllSteps.at l (i + 1) h.2 k o (by simpa using hk)
    rw [show i + (k + 1) = i + 1 + k by omega]; exact this

section regions
variable {id : Nat} {a : Act} {w : World} (fr : (Nat → Value) → Array Value) (G : Nat → (Nat → Bool) → (Nat → Value) → World → Prop) (J : (Nat → Bool) → (Nat → Value) → World → Prop) (u0 : Nat → Value)
/-- One step of the invariant. -/
theorem Mid.step {wt : Nat → Nat → Bool} {df : List Deferred} {fr : (Nat → Value) → Array Value} {G : Nat → (Nat → Bool) → (Nat → Value) → World → Prop} {J : (Nat → Bool) → (Nat → Value) → World → Prop}
    (hfr : ∀ u i v, i < ops.size → (⟨fr u, df⟩ : Act).put ((ops[i]?).bind (·.dst)) v = ⟨fr (putV u i v), df⟩)
    {i : Nat} {o : Oper} (ho : ops[i]? = some o) (hs : StepAt P ops wt Q fr df G J i o) {L : Nat → Bool} {a : Act} {w : World} (h : Mid wt fr df G J L a w) (hL : L i = false) (hdep : ∀ d, wt i d = true → L d = true)
    (K : Act → World → Prop) (hK : ∀ a w, Mid wt fr df G J (putL L i) a w → K a w) :
    if Region.wanted o (yielded ops a.tmps) = true then Oper.wp P o a w K Q else K (a.put o.dst undef) w := by
  obtain ⟨hcl, u, rfl, hJ, hG⟩ := h
  have hlt : i < ops.size := (Array.getElem?_eq_some_iff.1 ho).1
  refine hs L u w hcl hJ hG hL hdep K (fun v w2 hJ2 hG2 hi => hK _ _ ⟨fun k d hk hd => ?_, putV u i v, ?_, hJ2, fun k hk => ?_⟩)
  · by_cases hki : k = i
    · subst hki
      exact putL_old (hdep d hd)
    · rw [putL_ne hki] at hk
      exact putL_old (hcl k d hk hd)
  · have := hfr u i v hlt
    rw [ho] at this
    exact this
  · by_cases hki : k = i
    · subst hki; exact hi
    · rw [putL_ne hki] at hk
      refine hG2 k hk hki ?_ (hG k hk)
      cases hw : wt k i with
      | false => rfl
      | true => rw [hcl k i hk hw] at hL; cases hL

/-- A statement that draws its order. -/
theorem wp_region_mid (hm : P.follows .mixedOrders = true) (he : earlier .any ops = true)
    (hfr : ∀ u i v, i < ops.size → (⟨fr u, a.defers⟩ : Act).put ((ops[i]?).bind (·.dst)) v = ⟨fr (putV u i v), a.defers⟩)
    (ha : a.tmps = fr u0) (hJ : J (fun _ => false) u0 w.drew)
    (hsoft : Soft (waitsOn .any ops) G) (hsteps : Soft (waitsOn .any ops) G → AllSteps P ops (waitsOn .any ops) Q fr a.defers G J 0 ops.toList)
    (hdone : ∀ L u W, (∀ i, i < ops.size → L i = true) → J L u W → (∀ k, k < ops.size → G k L u W) → Q .normal ⟨fr u, a.defers⟩ W) : (Code.region id ops true).wp P Q a w := by
  refine wp_region_any hm (wpAny_inv he (Mid (waitsOn .any ops) fr a.defers G J) ?_ ?_ _ _ _ _ (by simp) (by simp) ?_)
  · intro i o ho L a' w' hM hL hdep
    have hs := AllSteps.at _ _ (hsteps hsoft) i o (by simpa using ho)
    rw [Nat.zero_add] at hs
    refine wpOp_step ho (fun K hK => Mid.step hfr ho hs hM hL (fun d hd => ?_) K hK)
    rw [waitsOn, ho] at hd
    obtain ⟨e, he', hb, rfl⟩ := waitsFor_spec hd
    exact hdep e he' hb
  · rintro L a' w' hall ⟨_, u, rfl, hJ, hG⟩
    exact hdone L u w' hall hJ (fun k hk => hG k (hall k hk))
  · rw [lsL_none]
    refine ⟨(fun k d hk => by cases hk), u0, ?_, hJ, (fun k hk => by cases hk)⟩
    cases a; simp_all

/-- A statement whose order is fixed, by the same means. -/
theorem wp_region_turn
    (hfr : ∀ u i v, i < ops.size → (⟨fr u, a.defers⟩ : Act).put ((ops[i]?).bind (·.dst)) v = ⟨fr (putV u i v), a.defers⟩)
    (ha : a.tmps = fr u0) (hJ : J (fun _ => false) u0 w)
    (hsoft : Soft inTurn G) (hsteps : Soft inTurn G → AllSteps P ops inTurn Q fr a.defers G J 0 ops.toList)
    (hdone : ∀ L u W, (∀ i, i < ops.size → L i = true) → J L u W → (∀ k, k < ops.size → G k L u W) → Q .normal ⟨fr u, a.defers⟩ W) : (Code.region id ops false).wp P Q a w := by
  have key : ∀ (m i : Nat) (a' : Act) (w' : World), i + m = ops.size → Mid inTurn fr a.defers G J (fun j => decide (j < i)) a' w' → wpOps P ops Q (List.range' i m) a' w' := by
    intro m
    induction m with
    | zero =>
      rintro i a' w' hi ⟨_, u, rfl, hJ, hG⟩
      exact hdone _ u w' (fun j hj => by simp; omega) hJ (fun k hk => hG k (by simp; omega))
    | succ m ih =>
      intro i a' w' hi hM
      have hlt : i < ops.size := by omega
      have ho : ops[i]? = some ops[i] := by simp [hlt]
      have hs := AllSteps.at _ _ (hsteps hsoft) i ops[i] (by simp [hlt])
      rw [Nat.zero_add] at hs
      rw [List.range'_succ, wpOps_cons]
      refine wpOp_step ho (fun K hK => Mid.step hfr ho hs hM (by simp) (fun d hd => by simpa [inTurn] using hd) K (fun a2 w2 h2 => hK _ _ (ih (i + 1) a2 w2 (by omega) ?_)))
      have e : putL (fun j => decide (j < i)) i = fun j => decide (j < i + 1) := by
        funext j; unfold putL; split
        · subst_vars; simp
        · rw [decide_eq_decide]; omega
      rw [← e]; exact h2
  refine wp_region ?_
  rw [List.range_eq_range']
  refine key _ 0 a w (by simp) ⟨(fun k d hk => by simp at hk), u0, ?_, ?_, (fun k hk => by simp at hk)⟩
  · cases a; simp_all
  · have e : (fun j : Nat => decide (j < 0)) = fun _ => false := by funext j; simp
    rw [e]; exact hJ
end regions
end
end Go.Proofs.Ytmoggjbnlimepaa
