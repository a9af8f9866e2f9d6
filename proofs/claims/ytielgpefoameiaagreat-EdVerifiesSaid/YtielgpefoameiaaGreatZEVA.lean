/- What EV rests on, part 1 of 6: my own texts, put together (merge.py). -/
import Derived.Deep.RegionHeld3
import Derived.WalkKit
import Derived.ProofKit
import Derived.Lib.Hide
import Derived.OpenShut
import Derived.Deep.MidRow
import Derived.Test.YtielgpefoameiaaGreatRows
import Derived.WalkSpells
import Derived.StillTactics
import Derived.Laws.Pointers
import Derived.Laws.CopyOwn
import Derived.Laws.AppendOwnNone
import Derived.RowKit3
import Derived.BigQuiet
import Derived.Deep.QuietTactic
import Derived.Deep.LoopGhost
import Derived.Deep.DeepFit
import Derived.WalkLawsBesides
import Derived.Shelf.Spec.BitsCarry
import Derived.Laws.IdiomStrings
import Derived.Deep.WholeRow
import Derived.Laws.Rows
import Derived.Deep.DeepCutAuto
import Derived.Lib.AppendZerosOnto
import Derived.Lib.SliceRun
import Derived.Deep.Matrix
import Derived.Deep.AppendLies
import Derived.ShutString
import Derived.ChangeOld
set_option maxRecDepth 100000
namespace Go.Proofs.YtielgpefoameiaaGreat
open Go Go.RowKit
section
variable {P : Program} {ops : Array Oper} {Q : Exit → Act → World → Prop} {md : Region.Mode}
def earlier (md : Region.Mode) (ops : Array Oper) : Bool :=
  (List.range ops.size).all fun i => ((ops[i]?).map fun o => o.after.all fun e => !Region.binds md e || decide (e.on < i)).getD true
theorem earlier_spec (h : earlier md ops = true) {i : Nat} {o : Oper} (ho : ops[i]? = some o) {e : Edge} (he : e ∈ o.after) (hb : Region.binds md e = true) : e.on < i := by
  have hlt : i < ops.size := (Array.getElem?_eq_some_iff.1 ho).1
  unfold earlier at h
  rw [List.all_eq_true] at h
  have h1 := h i (by simpa using hlt)
  simp only [ho, Option.map_some, Option.getD_some, Array.all_eq_true_iff_forall_mem, Bool.or_eq_true, Bool.not_eq_true', decide_eq_true_eq] at h1
  rcases h1 e he with h2 | h2
  · rw [h2] at hb; cases hb
  · exact h2
def putL (L : Nat → Bool) (i : Nat) : Nat → Bool := fun j => if j = i then true else L j
theorem putL_same (L : Nat → Bool) (i : Nat) : putL L i i = true := by simp [putL]
theorem putL_ne {L : Nat → Bool} {i j : Nat} (h : j ≠ i) : putL L i j = L j := by simp [putL, h]
theorem putL_old {L : Nat → Bool} {i j : Nat} (h : L j = true) : putL L i j = true := by unfold putL; split <;> simp [h]
def lsL (listed : Array Bool) : Nat → Bool := fun j => listed.getD j false
theorem lsL_none (n : Nat) : lsL (Array.replicate n false) = fun _ => false := by
  funext j
  unfold lsL
  rw [Array.getD_eq_getD_getElem?]
  by_cases h : j < n
  · simp [h]
  · rw [Array.getElem?_eq_none (by simpa using h)]; rfl
theorem lsL_up {listed : Array Bool} {i : Nat} (hi : i < listed.size) : lsL (listed.setIfInBounds i true) = putL (lsL listed) i := by
  funext j
  unfold lsL putL
  by_cases h : j = i
  · subst h; simp [hi]
  · rw [if_neg h]; exact getD_set_ne false (Ne.symm h)
theorem ready_least (he : earlier md ops = true) {listed : Array Bool} (hs : listed.size = ops.size) (hr : Region.ready md ops listed = []) :
    ∀ i, i < ops.size → lsL listed i = true := by
  intro i
  induction i using Nat.strongRecOn with
  | _ i ih =>
    intro hi
    cases h : lsL listed i with
    | true => rfl
    | false =>
      have : i ∈ Region.ready md ops listed := by
        rw [mem_ready]
        refine ⟨?_, ops[i], by simp [hi], fun e he' hb => ?_⟩
        · unfold lsL at h; simpa [show i < listed.size by omega] using h
        · have := earlier_spec he (i := i) (o := ops[i]) (by simp [hi]) he' hb
          exact ih _ this (by omega)
      rw [hr] at this; cases this
theorem wpAny_inv (he : earlier md ops = true) (I : (Nat → Bool) → Act → World → Prop)
    (hstep : ∀ i o, ops[i]? = some o → ∀ L a w, I L a w → L i = false → (∀ e ∈ o.after, Region.binds md e = true → L e.on = true) → wpOp P ops Q i (fun a' w' => I (putL L i) a' w') a w)
    (hdone : ∀ L a w, (∀ i, i < ops.size → L i = true) → I L a w → Q .normal a w) :
    ∀ fuel (listed : Array Bool) a w, listed.size = ops.size → listed.count false ≤ fuel → I (lsL listed) a w → wpAny P md ops Q fuel listed a w := by
  intro fuel
  induction fuel with
  | zero =>
    intro listed a w hs hc hI
    have hall : ∀ i, i < ops.size → lsL listed i = true := fun i hi => by
      have h0 : listed.count false = 0 := by omega
      have hn : false ∉ listed := Array.count_eq_zero.1 h0
      have hlt : i < listed.size := by omega
      unfold lsL
      cases hb : listed.getD i false with
      | true => rfl
      | false =>
        exfalso; apply hn
        simp [hlt] at hb
        exact hb ▸ Array.getElem_mem hlt
    refine ⟨?_, hdone _ _ _ hall hI⟩
    apply List.eq_nil_iff_forall_not_mem.2
    intro i hi
    obtain ⟨h0, o, ho, _⟩ := mem_ready.1 hi
    have hlt : i < ops.size := (Array.getElem?_eq_some_iff.1 ho).1
    have h1 := hall i hlt
    unfold lsL at h1
    simp [show i < listed.size by omega] at h0 h1
    rw [h0] at h1; cases h1
  | succ fuel ih =>
    intro listed a w hs hc hI
    refine ⟨fun hr => hdone _ _ _ (ready_least he hs hr) hI, fun i hi => ?_⟩
    obtain ⟨h0, o, ho, hdep⟩ := mem_ready.1 hi
    have hlt : i < ops.size := (Array.getElem?_eq_some_iff.1 ho).1
    have hltL : i < listed.size := by omega
    have hb : listed[i] = false := by simpa [hltL] using h0
    refine wpOp_mono (fun a' w' h => ih _ a' w' (by simpa using hs) ?_ (by rw [lsL_up hltL]; exact h)) (hstep i o ho (lsL listed) a w hI (by unfold lsL; simpa [hltL] using hb) hdep)
    have e : (listed.setIfInBounds i true).count false + 1 = listed.count false := by
      have hset : listed.setIfInBounds i true = listed.set i true hltL := by simp [Array.setIfInBounds, hltL]
      rw [hset, Array.count_set]
      have hpos : 0 < listed.count false := Array.count_pos_iff.2 (hb ▸ Array.getElem_mem hltL)
      simp [hb]; omega
    omega
def putV (u : Nat → Value) (i : Nat) (v : Value) : Nat → Value := fun j => if j = i then v else u j
theorem putV_same (u : Nat → Value) (i : Nat) (v : Value) : putV u i v i = v := by simp [putV]
theorem putV_ne {u : Nat → Value} {i j : Nat} {v : Value} (h : j ≠ i) : putV u i v j = u j := by simp [putV, h]
def waitsFor (md : Region.Mode) (o : Oper) (d : Nat) : Bool := o.after.any fun e => Region.binds md e && (e.on == d)
def waitsOn (md : Region.Mode) (ops : Array Oper) (k d : Nat) : Bool := ((ops[k]?).map fun o => waitsFor md o d).getD false
theorem waitsFor_spec {o : Oper} {d : Nat} (h : waitsFor md o d = true) : ∃ e ∈ o.after, Region.binds md e = true ∧ e.on = d := by
  unfold waitsFor at h
  rw [Array.any_eq_true] at h
  obtain ⟨j, hj, h⟩ := h
  simp only [Bool.and_eq_true, beq_iff_eq] at h
  exact ⟨o.after[j], Array.getElem_mem hj, h.1, h.2⟩
def inTurn (k d : Nat) : Bool := decide (d < k)
structure Mid (wt : Nat → Nat → Bool) (fr : (Nat → Value) → Array Value) (df : List Deferred) (G : Nat → (Nat → Bool) → (Nat → Value) → World → Prop) (J : (Nat → Bool) → (Nat → Value) → World → Prop)
    (L : Nat → Bool) (a : Act) (w : World) : Prop where
  closed : ∀ k d, L k = true → wt k d = true → L d = true
  ex : ∃ u, a = ⟨fr u, df⟩ ∧ J L u w ∧ ∀ k, L k = true → G k L u w
def StepAt (P : Program) (ops : Array Oper) (wt : Nat → Nat → Bool) (Q : Exit → Act → World → Prop) (fr : (Nat → Value) → Array Value) (df : List Deferred)
    (G : Nat → (Nat → Bool) → (Nat → Value) → World → Prop) (J : (Nat → Bool) → (Nat → Value) → World → Prop) (i : Nat) (o : Oper) : Prop :=
  ∀ L u w, (∀ k d, L k = true → wt k d = true → L d = true) → J L u w → (∀ k, L k = true → G k L u w) → L i = false → (∀ d, wt i d = true → L d = true) →
    ∀ K : Act → World → Prop, Shut (∀ v w', J (putL L i) (putV u i v) w' → (∀ k, L k = true → k ≠ i → wt k i = false → G k L u w → G k (putL L i) (putV u i v) w') → G i (putL L i) (putV u i v) w' → K ((⟨fr u, df⟩ : Act).put o.dst v) w') →
      if Region.wanted o (yielded ops (fr u)) = true then Oper.wp P o ⟨fr u, df⟩ w K Q else K ((⟨fr u, df⟩ : Act).put o.dst undef) w
structure Soft (wt : Nat → Nat → Bool) (G : Nat → (Nat → Bool) → (Nat → Value) → World → Prop) : Prop where
  sup : ∀ k L u i v w, k ≠ i → wt k i = false → G k L u w → G k (putL L i) (putV u i v) w
  later : ∀ k L u w w', Below w.heap.size w w' → G k L u w → G k L u w'
theorem putL_false {L : Nat → Bool} {i j : Nat} (h : putL L i j = false) : L j = false := by
  unfold putL at h; split at h
  · cases h
  · exact h
section steps
variable {wt : Nat → Nat → Bool} {fr : (Nat → Value) → Array Value} {df : List Deferred} {G : Nat → (Nat → Bool) → (Nat → Value) → World → Prop} {J : (Nat → Bool) → (Nat → Value) → World → Prop} {i : Nat} {o : Oper}
def Wants (ops : Array Oper) (wt : Nat → Nat → Bool) (fr : (Nat → Value) → Array Value) (G : Nat → (Nat → Bool) → (Nat → Value) → World → Prop) (i : Nat) (o : Oper) (b : Bool) : Prop :=
  ∀ L u w, (∀ k, L k = true → G k L u w) → (∀ d, wt i d = true → L d = true) → Region.wanted o (yielded ops (fr u)) = b
theorem wants_none (hg : o.guard = none) : Wants ops wt fr G i o true := fun _ _ _ _ _ => by simp [Region.wanted, hg]
theorem StepAt.soft (hs : Soft wt G) (hg : Wants ops wt fr G i o true)
    (h : ∀ L u w, (∀ k d, L k = true → wt k d = true → L d = true) → J L u w → (∀ k, L k = true → G k L u w) → L i = false → (∀ d, wt i d = true → L d = true) →
      ∀ K : Act → World → Prop, Shut (∀ v w', Below w.heap.size w w' → J (putL L i) (putV u i v) w' → G i (putL L i) (putV u i v) w' → K ((⟨fr u, df⟩ : Act).put o.dst v) w') → Oper.wp P o ⟨fr u, df⟩ w K Q) :
    StepAt P ops wt Q fr df G J i o := fun L u w hcl hJ hG hL hdep K hK => by
  rw [if_pos (hg L u w hG hdep)]
  exact h L u w hcl hJ hG hL hdep K (fun v w' hb hj hg => hK.out v w' hj (fun _ _ hki hw hgk => hs.later _ _ _ _ _ hb (hs.sup _ _ _ _ _ _ hki hw hgk)) hg)
theorem StepAt.out (hs : Soft wt G) (hg : Wants ops wt fr G i o false)
    (h : ∀ L u w, J L u w → (∀ k, L k = true → G k L u w) → (∀ d, wt i d = true → L d = true) → J (putL L i) (putV u i undef) w ∧ G i (putL L i) (putV u i undef) w) :
    StepAt P ops wt Q fr df G J i o := fun L u w hcl hJ hG hL hdep K hK => by
  rw [if_neg (by rw [hg L u w hG hdep]; simp)]
  obtain ⟨h1, h2⟩ := h L u w hJ hG hdep
  exact hK.out undef w h1 (fun _ _ hki hw hgk => hs.sup _ _ _ _ _ _ hki hw hgk) h2
theorem StepAt.hard (hs : Soft wt G) (hg : Wants ops wt fr G i o true)
    (h : ∀ L u w, (∀ k d, L k = true → wt k d = true → L d = true) → J L u w → (∀ k, L k = true → G k L u w) → L i = false → (∀ d, wt i d = true → L d = true) →
      ∀ K : Act → World → Prop, Shut (∀ v w', J (putL L i) (putV u i v) w' → (∀ k, L k = true → k ≠ i → wt k i = false → G k L u w → G k L u w') → G i (putL L i) (putV u i v) w' → K ((⟨fr u, df⟩ : Act).put o.dst v) w') → Oper.wp P o ⟨fr u, df⟩ w K Q) :
    StepAt P ops wt Q fr df G J i o := fun L u w hcl hJ hG hL hdep K hK => by
  rw [if_pos (hg L u w hG hdep)]
  exact h L u w hcl hJ hG hL hdep K (fun v w' hj hk hg => hK.out v w' hj (fun k hL' hki hw hgk => hs.sup _ _ _ _ _ _ hki hw (hk k hL' hki hw hgk)) hg)
end steps
theorem dep_ne {wt : Nat → Nat → Bool} {k j i : Nat} (h : wt k j = true) (hw : wt k i = false) : j ≠ i := by
  rintro rfl; rw [h] at hw; cases hw
def AllSteps (P : Program) (ops : Array Oper) (wt : Nat → Nat → Bool) (Q : Exit → Act → World → Prop) (fr : (Nat → Value) → Array Value) (df : List Deferred)
    (G : Nat → (Nat → Bool) → (Nat → Value) → World → Prop) (J : (Nat → Bool) → (Nat → Value) → World → Prop) : Nat → List Oper → Prop
  | _, [] => True
  | i, o :: l => StepAt P ops wt Q fr df G J i o ∧ AllSteps P ops wt Q fr df G J (i + 1) l
theorem AllSteps.at {wt : Nat → Nat → Bool} {fr : (Nat → Value) → Array Value} {df : List Deferred} {G : Nat → (Nat → Bool) → (Nat → Value) → World → Prop} {J : (Nat → Bool) → (Nat → Value) → World → Prop} :
    ∀ (l : List Oper) (i : Nat), AllSteps P ops wt Q fr df G J i l → ∀ k o, l[k]? = some o → StepAt P ops wt Q fr df G J (i + k) o
  | [], _, _, k, o, h => by simp at h
  | x :: l, i, h, 0, o, hk => by simp at hk; subst hk; exact h.1
  | x :: l, i, h, k + 1, o, hk => by
    have := AllSteps.at l (i + 1) h.2 k o (by simpa using hk)
    rw [show i + (k + 1) = i + 1 + k by omega]; exact this
section regions
variable {id : Nat} {a : Act} {w : World} (fr : (Nat → Value) → Array Value) (G : Nat → (Nat → Bool) → (Nat → Value) → World → Prop) (J : (Nat → Bool) → (Nat → Value) → World → Prop) (u0 : Nat → Value)
theorem Mid.step {wt : Nat → Nat → Bool} {df : List Deferred} {fr : (Nat → Value) → Array Value} {G : Nat → (Nat → Bool) → (Nat → Value) → World → Prop} {J : (Nat → Bool) → (Nat → Value) → World → Prop}
    (hfr : ∀ u i v, i < ops.size → (⟨fr u, df⟩ : Act).put ((ops[i]?).bind (·.dst)) v = ⟨fr (putV u i v), df⟩)
    {i : Nat} {o : Oper} (ho : ops[i]? = some o) (hs : StepAt P ops wt Q fr df G J i o) {L : Nat → Bool} {a : Act} {w : World} (h : Mid wt fr df G J L a w) (hL : L i = false) (hdep : ∀ d, wt i d = true → L d = true)
    (K : Act → World → Prop) (hK : ∀ a w, Mid wt fr df G J (putL L i) a w → K a w) :
    if Region.wanted o (yielded ops a.tmps) = true then Oper.wp P o a w K Q else K (a.put o.dst undef) w := by
  obtain ⟨hcl, u, rfl, hJ, hG⟩ := h
  have hlt : i < ops.size := (Array.getElem?_eq_some_iff.1 ho).1
  refine hs L u w hcl hJ hG hL hdep K (fun v w2 hJ2 hG2 hi => hK _ _ ⟨fun k d hk hd => ?_, putV u i v, ?_, hJ2, fun k hk => ?_⟩)
  · by_cases hki : k = i
    · subst hki
      exact putL_old (hdep d hd)
    · rw [putL_ne hki] at hk
      exact putL_old (hcl k d hk hd)
  · have := hfr u i v hlt
    rw [ho] at this
    exact this
  · by_cases hki : k = i
    · subst hki; exact hi
    · rw [putL_ne hki] at hk
      refine hG2 k hk hki ?_ (hG k hk)
      cases hw : wt k i with
      | false => rfl
      | true => rw [hcl k i hk hw] at hL; cases hL
theorem wp_region_mid (hm : P.follows .mixedOrders = true) (he : earlier .any ops = true)
    (hfr : ∀ u i v, i < ops.size → (⟨fr u, a.defers⟩ : Act).put ((ops[i]?).bind (·.dst)) v = ⟨fr (putV u i v), a.defers⟩)
    (ha : a.tmps = fr u0) (hJ : J (fun _ => false) u0 w.drew)
    (hsoft : Soft (waitsOn .any ops) G) (hsteps : Soft (waitsOn .any ops) G → AllSteps P ops (waitsOn .any ops) Q fr a.defers G J 0 ops.toList)
    (hdone : ∀ L u W, (∀ i, i < ops.size → L i = true) → J L u W → (∀ k, k < ops.size → G k L u W) → Q .normal ⟨fr u, a.defers⟩ W) : (Code.region id ops true).wp P Q a w := by
  refine wp_region_any hm (wpAny_inv he (Mid (waitsOn .any ops) fr a.defers G J) ?_ ?_ _ _ _ _ (by simp) (by simp) ?_)
  · intro i o ho L a' w' hM hL hdep
    have hs := AllSteps.at _ _ (hsteps hsoft) i o (by simpa using ho)
    rw [Nat.zero_add] at hs
    refine wpOp_step ho (fun K hK => Mid.step hfr ho hs hM hL (fun d hd => ?_) K hK)
    rw [waitsOn, ho] at hd
    obtain ⟨e, he', hb, rfl⟩ := waitsFor_spec hd
    exact hdep e he' hb
  · rintro L a' w' hall ⟨_, u, rfl, hJ, hG⟩
    exact hdone L u w' hall hJ (fun k hk => hG k (hall k hk))
  · rw [lsL_none]
    refine ⟨(fun k d hk => by cases hk), u0, ?_, hJ, (fun k hk => by cases hk)⟩
    cases a; simp_all
theorem wp_region_turn
    (hfr : ∀ u i v, i < ops.size → (⟨fr u, a.defers⟩ : Act).put ((ops[i]?).bind (·.dst)) v = ⟨fr (putV u i v), a.defers⟩)
    (ha : a.tmps = fr u0) (hJ : J (fun _ => false) u0 w)
    (hsoft : Soft inTurn G) (hsteps : Soft inTurn G → AllSteps P ops inTurn Q fr a.defers G J 0 ops.toList)
    (hdone : ∀ L u W, (∀ i, i < ops.size → L i = true) → J L u W → (∀ k, k < ops.size → G k L u W) → Q .normal ⟨fr u, a.defers⟩ W) : (Code.region id ops false).wp P Q a w := by
  have key : ∀ (m i : Nat) (a' : Act) (w' : World), i + m = ops.size → Mid inTurn fr a.defers G J (fun j => decide (j < i)) a' w' → wpOps P ops Q (List.range' i m) a' w' := by
    intro m
    induction m with
    | zero =>
      rintro i a' w' hi ⟨_, u, rfl, hJ, hG⟩
      exact hdone _ u w' (fun j hj => by simp; omega) hJ (fun k hk => hG k (by simp; omega))
    | succ m ih =>
      intro i a' w' hi hM
      have hlt : i < ops.size := by omega
      have ho : ops[i]? = some ops[i] := by simp [hlt]
      have hs := AllSteps.at _ _ (hsteps hsoft) i ops[i] (by simp [hlt])
      rw [Nat.zero_add] at hs
      rw [List.range'_succ, wpOps_cons]
      refine wpOp_step ho (fun K hK => Mid.step hfr ho hs hM (by simp) (fun d hd => by simpa [inTurn] using hd) K (fun a2 w2 h2 => hK _ _ (ih (i + 1) a2 w2 (by omega) ?_)))
      have e : putL (fun j => decide (j < i)) i = fun j => decide (j < i + 1) := by
        funext j; unfold putL; split
        · subst_vars; simp
        · rw [decide_eq_decide]; omega
      rw [← e]; exact h2
  refine wp_region ?_
  rw [List.range_eq_range']
  refine key _ 0 a w (by simp) ⟨(fun k d hk => by simp at hk), u0, ?_, ?_, (fun k hk => by simp at hk)⟩
  · cases a; simp_all
  · have e : (fun j : Nat => decide (j < 0)) = fun _ => false := by funext j; simp
    rw [e]; exact hJ
end regions
end
end Go.Proofs.YtielgpefoameiaaGreat
namespace Go.Proofs.YtielgpefoameiaaGreat
structure Pr (p : Nat) : Prop where
  two : 2 ≤ p
  div : ∀ m, m ∣ p → m = 1 ∨ m = p
theorem Pr.cop {p a : Nat} (h : Pr p) (ha : ¬ p ∣ a) : Nat.Coprime p a := by
  rcases h.div (Nat.gcd p a) (Nat.gcd_dvd_left p a) with h1 | h1
  · exact h1
  · exact absurd (h1 ▸ Nat.gcd_dvd_right p a) ha
theorem Pr.mul {p a b : Nat} (h : Pr p) (hd : p ∣ a * b) : p ∣ a ∨ p ∣ b := by
  by_cases ha : p ∣ a
  · exact .inl ha
  · exact .inr ((h.cop ha).dvd_of_dvd_mul_left hd)
theorem has_prime : ∀ n, 2 ≤ n → ∃ p, Pr p ∧ p ∣ n := by
  intro n
  induction n using Nat.strongRecOn with
  | _ n ih =>
    intro hn
    by_cases h : ∃ m, m ∣ n ∧ m ≠ 1 ∧ m ≠ n
    · obtain ⟨m, hd, h1, h2⟩ := h
      have hle := Nat.le_of_dvd (by omega) hd
      have h0 : m ≠ 0 := by rintro rfl; have := Nat.eq_zero_of_zero_dvd hd; omega
      obtain ⟨p, hp, hpm⟩ := ih m (by omega) (by omega)
      exact ⟨p, hp, Nat.dvd_trans hpm hd⟩
    · refine ⟨n, ⟨hn, fun m hm => ?_⟩, Nat.dvd_refl n⟩
      by_cases h1 : m = 1
      · exact .inl h1
      · by_cases h2 : m = n
        · exact .inr h2
        · exact absurd ⟨m, hm, h1, h2⟩ h
def choose : Nat → Nat → Nat
  | _, 0 => 1
  | 0, _ + 1 => 0
  | n + 1, k + 1 => choose n k + choose n (k + 1)
theorem choose_high : ∀ n k, n < k → choose n k = 0
  | 0, k + 1, _ => rfl
  | n + 1, k + 1, h => by rw [choose, choose_high n k (by omega), choose_high n (k + 1) (by omega)]
theorem choose_self : ∀ n, choose n n = 1
  | 0 => rfl
  | n + 1 => by rw [choose, choose_self n, choose_high n (n + 1) (by omega)]
theorem choose_zero (n : Nat) : choose n 0 = 1 := by cases n <;> rfl
theorem choose_mul : ∀ n k, (k + 1) * choose (n + 1) (k + 1) = (n + 1) * choose n k
  | 0, 0 => rfl
  | 0, k + 1 => by simp [choose]
  | n + 1, 0 => by
    have h := choose_mul n 0
    rw [choose_zero] at h
    have e : choose (n + 1 + 1) (0 + 1) = choose (n + 1) 0 + choose (n + 1) (0 + 1) := rfl
    rw [e, choose_zero]
    omega
  | n + 1, k + 1 => by
    have h1 := choose_mul n k
    have h2 := choose_mul n (k + 1)
    have e1 : choose (n + 1 + 1) (k + 1 + 1) = choose (n + 1) (k + 1) + choose (n + 1) (k + 1 + 1) := rfl
    have e2 : choose (n + 1) (k + 1) = choose n k + choose n (k + 1) := rfl
    generalize hA : choose (n + 1) (k + 1) = A at *
    generalize choose (n + 1) (k + 1 + 1) = B at *
    generalize choose (n + 1 + 1) (k + 1 + 1) = C at *
    generalize choose n k = a at *
    generalize choose n (k + 1) = b at *
    subst e1 e2
    grind
def binSum (n x : Nat) : Nat → Nat
  | 0 => 0
  | k + 1 => binSum n x k + choose n k * x ^ k
theorem binSum_step (n x : Nat) : ∀ k, binSum (n + 1) x (k + 1) = binSum n x (k + 1) + x * binSum n x k
  | 0 => by simp [binSum, choose_zero]
  | k + 1 => by
    have h := binSum_step n x k
    rw [binSum, h]
    simp only [binSum, choose, Nat.pow_succ]
    grind
theorem binom (n x : Nat) : (x + 1) ^ n = binSum n x (n + 1) := by
  induction n with
  | zero => simp [binSum, choose]
  | succ n ih =>
    have e : binSum n x (n + 1 + 1) = binSum n x (n + 1) := by
      show binSum n x (n + 1) + choose n (n + 1) * x ^ (n + 1) = _
      rw [choose_high n (n + 1) (by omega)]; omega
    rw [binSum_step, Nat.pow_succ, ih, e, Nat.mul_add, Nat.mul_one, Nat.mul_comm x]; omega
theorem Pr.choose {p : Nat} (hp : Pr p) (k : Nat) (h0 : 0 < k) (h1 : k < p) : p ∣ choose p k := by
  obtain ⟨n, rfl⟩ : ∃ n, p = n + 1 := ⟨p - 1, by have := hp.two; omega⟩
  obtain ⟨j, rfl⟩ : ∃ j, k = j + 1 := ⟨k - 1, by omega⟩
  have h := choose_mul n j
  have hd : n + 1 ∣ (j + 1) * Go.Proofs.YtielgpefoameiaaGreat.choose (n + 1) (j + 1) := ⟨_, h⟩
  rcases hp.mul hd with h2 | h2
  · exact absurd (Nat.le_of_dvd (by omega) h2) (by omega)
  · exact h2
theorem binSum_mod {p x : Nat} (hp : Pr p) : ∀ k, 1 ≤ k → k ≤ p → binSum p x k % p = 1 % p := by
  intro k
  induction k with
  | zero => omega
  | succ k ih =>
    intro _ h2
    by_cases hk : k = 0
    · subst hk; simp [binSum, choose_zero]
    · rw [binSum, Nat.add_mod, ih (by omega) (by omega), Nat.mul_mod, Nat.mod_eq_zero_of_dvd (hp.choose k (by omega) (by omega)), Nat.zero_mul, Nat.zero_mod, Nat.add_zero, Nat.mod_mod]
theorem fermat' {p : Nat} (hp : Pr p) (x : Nat) : x ^ p % p = x % p := by
  induction x with
  | zero => rw [Nat.zero_pow (by have := hp.two; omega)]
  | succ x ih =>
    rw [binom, binSum, choose_self, Nat.one_mul, Nat.add_mod, binSum_mod hp p (by have := hp.two; omega) (Nat.le_refl _), ih, ← Nat.add_mod, Nat.add_comm]
theorem fermat {p : Nat} (hp : Pr p) (x : Nat) (hx : ¬ p ∣ x) : x ^ (p - 1) % p = 1 := by
  have h := fermat' hp x
  have h2 := hp.two
  have hd : p ∣ x * (x ^ (p - 1) - 1) := by
    rw [Nat.mul_sub, Nat.mul_one, show x * x ^ (p - 1) = x ^ p from by rw [Nat.mul_comm, ← Nat.pow_succ]; congr 1; omega]
    exact Nat.dvd_of_mod_eq_zero (Nat.sub_mod_eq_zero_of_mod_eq h)
  have hx0 : 0 < x := Nat.pos_of_ne_zero (by rintro rfl; exact hx (Nat.dvd_zero p))
  have hp1 : 0 < x ^ (p - 1) := Nat.pow_pos hx0
  rcases hp.mul hd with h3 | h3
  · exact absurd h3 hx
  · have h4 := Nat.mod_eq_zero_of_dvd h3
    have h5 : x ^ (p - 1) = (x ^ (p - 1) - 1) + 1 := by omega
    rw [h5, Nat.add_mod, h4, Nat.zero_add, Nat.mod_mod, Nat.mod_eq_of_lt (by omega)]
def powMod (n : Nat) : Nat → Nat → Nat → Nat
  | 0, _, _ => 1 % n
  | f + 1, a, e => if e = 0 then 1 % n else let r := powMod n f (a * a % n) (e / 2); if e % 2 = 1 then r * a % n else r
theorem pow_mod' (a n e : Nat) : (a % n) ^ e % n = a ^ e % n := by
  induction e with
  | zero => rfl
  | succ e ih => rw [Nat.pow_succ, Nat.pow_succ, Nat.mul_mod, ih, Nat.mod_mod, ← Nat.mul_mod]
theorem powMod_spec (n : Nat) : ∀ f a e, e < 2 ^ f → powMod n f a e = a ^ e % n
  | 0, a, e, h => by
    obtain rfl : e = 0 := by simp at h; exact h
    rfl
  | f + 1, a, e, h => by
    unfold powMod
    by_cases h0 : e = 0
    · subst h0; simp
    · rw [if_neg h0]
      have hf : e / 2 < 2 ^ f := by rw [Nat.pow_succ] at h; omega
      have hr := powMod_spec n f (a * a % n) (e / 2) hf
      have h2 : (a * a % n) ^ (e / 2) % n = a ^ (2 * (e / 2)) % n := by
        rw [pow_mod', ← Nat.pow_two, ← Nat.pow_mul]
      simp only [hr, h2]
      by_cases h1 : e % 2 = 1
      · rw [if_pos h1, Nat.mul_mod, Nat.mod_mod, ← Nat.mul_mod, ← Nat.pow_succ]
        congr 2; omega
      · rw [if_neg h1]
        congr 2; omega
theorem pow_gcd (a r : Nat) : ∀ m n, a ^ m % r = 1 % r → a ^ n % r = 1 % r → a ^ (Nat.gcd m n) % r = 1 % r := by
  intro m n
  induction m, n using Nat.gcd.induction with
  | H0 n => intro _ h; rw [Nat.gcd_zero_left]; exact h
  | H1 m n hm ih =>
    intro h1 h2
    rw [Nat.gcd_rec]
    refine ih ?_ h1
    have e : a ^ n = (a ^ m) ^ (n / m) * a ^ (n % m) := by rw [← Nat.pow_mul, ← Nat.pow_add, Nat.div_add_mod]
    rw [e, Nat.mul_mod, ← pow_mod', h1, pow_mod', Nat.one_pow, ← Nat.mul_mod, Nat.one_mul] at h2
    exact h2
theorem pock_one {N a q r : Nat} (hN : 2 ≤ N) (hq : Pr q) (hqN : q ∣ N - 1) (h1 : a ^ (N - 1) % N = 1) (h2 : Nat.gcd (a ^ ((N - 1) / q) % N + (N - 1)) N = 1) (hr : Pr r) (hrN : r ∣ N) : q ∣ r - 1 := by
  have ha : ¬ r ∣ a := by
    intro hd
    have h3 : r ∣ a ^ (N - 1) := Nat.dvd_trans hd ⟨a ^ (N - 1 - 1), by rw [← Nat.pow_succ']; congr 1; omega⟩
    have h4 := Nat.div_add_mod (a ^ (N - 1)) N
    rw [h1] at h4
    have h5 : r ∣ N * (a ^ (N - 1) / N) := Nat.dvd_trans hrN (Nat.dvd_mul_right _ _)
    have h6 : r ∣ 1 := (Nat.dvd_add_right h5).1 (by rw [h4]; exact h3)
    have := Nat.le_of_dvd (by omega) h6
    have := hr.two; omega
  have hF := fermat hr a ha
  have hr1 : 1 % r = 1 := Nat.mod_eq_of_lt (by have := hr.two; omega)
  have hM : a ^ (N - 1) % r = 1 % r := by
    rw [← Nat.mod_mod_of_dvd (a ^ (N - 1)) hrN, h1]
  by_cases hd : q ∣ r - 1
  · exact hd
  · exfalso
    have hg : Nat.gcd (N - 1) (r - 1) ∣ (N - 1) / q := by
      obtain ⟨c, hc⟩ := hqN
      rw [hc, Nat.mul_div_cancel_left _ (by have := hq.two; omega)]
      have hcop : Nat.Coprime (Nat.gcd (q * c) (r - 1)) q := by
        refine Nat.Coprime.symm (hq.cop fun hx => hd (Nat.dvd_trans hx (Nat.gcd_dvd_right _ _)))
      exact hcop.dvd_of_dvd_mul_left (Nat.gcd_dvd_left _ _)
    have h3 := pow_gcd a r (N - 1) (r - 1) hM (by rw [hr1]; exact hF)
    obtain ⟨k, hk⟩ := hg
    have h4 : a ^ ((N - 1) / q) % r = 1 % r := by
      rw [hk, Nat.pow_mul, ← pow_mod', h3, pow_mod', Nat.one_pow]
    have h5 : r ∣ a ^ ((N - 1) / q) % N + (N - 1) := by
      apply Nat.dvd_of_mod_eq_zero
      rw [Nat.add_mod, Nat.mod_mod_of_dvd _ hrN, h4, hr1]
      obtain ⟨c, hc⟩ := hrN
      have hc0 : 0 < c := Nat.pos_of_ne_zero (by rintro rfl; omega)
      have : N - 1 = (r - 1) + r * (c - 1) := by rw [Nat.mul_sub, ← hc]; have := Nat.le_of_dvd (by omega) (show r ∣ N from ⟨c, hc⟩); have := hr.two; omega
      rw [this, Nat.add_mul_mod_self_left, Nat.mod_eq_of_lt (show r - 1 < r by have := hr.two; omega), show 1 + (r - 1) = r by have := hr.two; omega, Nat.mod_self]
    have h6 : r ∣ 1 := h2 ▸ Nat.dvd_gcd h5 hrN
    have := Nat.le_of_dvd (by omega) h6
    have := hr.two; omega
theorem prime_of {N : Nat} (hN : 2 ≤ N) (h : ∀ r, Pr r → r ∣ N → N < r * r) : Pr N := by
  refine ⟨hN, fun m hm => ?_⟩
  obtain ⟨c, hc⟩ := hm
  by_cases hm1 : m = 1
  · exact .inl hm1
  · by_cases hc1 : c = 1
    · subst hc1; exact .inr (by omega)
    · exfalso
      have hm0 : 2 ≤ m := by
        rcases Nat.lt_or_ge m 2 with h | h
        · have : m = 0 := by omega
          subst this; omega
        · exact h
      have hc0 : 2 ≤ c := by
        rcases Nat.lt_or_ge c 2 with h | h
        · have : c = 0 := by omega
          subst this; omega
        · exact h
      obtain ⟨r, hr, hrm⟩ := has_prime m hm0
      obtain ⟨s, hs, hsc⟩ := has_prime c hc0
      have h1 := h r hr (hc ▸ Nat.dvd_trans hrm (Nat.dvd_mul_right _ _))
      have h2 := h s hs (hc ▸ Nat.dvd_trans hsc (Nat.dvd_mul_left _ _))
      have h3 := Nat.le_of_dvd (by omega) hrm
      have h4 := Nat.le_of_dvd (by omega) hsc
      rw [hc] at h1 h2
      have h5 : m * c < m * m := Nat.lt_of_lt_of_le h1 (Nat.mul_le_mul h3 h3)
      have h6 : m * c < c * c := Nat.lt_of_lt_of_le h2 (Nat.mul_le_mul h4 h4)
      have h7 : c < m := Nat.lt_of_mul_lt_mul_left h5
      have h8 : m < c := Nat.lt_of_mul_lt_mul_right h6
      omega
theorem pock1 {N a q f : Nat} (hN : 2 ≤ N) (hq : Pr q) (hqN : (N - 1) % q = 0) (hf : N - 1 < 2 ^ f) (h1 : powMod N f a (N - 1) = 1) (h2 : Nat.gcd (powMod N f a ((N - 1) / q) + (N - 1)) N = 1) (hs : N < q * q) : Pr N := by
  rw [powMod_spec N f _ _ hf] at h1
  rw [powMod_spec N f _ _ (Nat.lt_of_le_of_lt (Nat.div_le_self _ _) hf)] at h2
  refine prime_of hN fun r hr hrN => ?_
  have h3 := pock_one hN hq (Nat.dvd_of_mod_eq_zero hqN) h1 h2 hr hrN
  have h4 := Nat.le_of_dvd (by have := hr.two; omega) h3
  exact Nat.lt_of_lt_of_le hs (Nat.mul_le_mul (by omega) (by omega))
theorem pock2 {N a q s f : Nat} (hN : 2 ≤ N) (hq : Pr q) (hs : Pr s) (hqs : Nat.gcd q s = 1) (hqN : (N - 1) % q = 0) (hsN : (N - 1) % s = 0) (hf : N - 1 < 2 ^ f) (h1 : powMod N f a (N - 1) = 1) (h2 : Nat.gcd (powMod N f a ((N - 1) / q) + (N - 1)) N = 1) (h3 : Nat.gcd (powMod N f a ((N - 1) / s) + (N - 1)) N = 1) (hb : N < q * s * (q * s)) : Pr N := by
  rw [powMod_spec N f _ _ hf] at h1
  rw [powMod_spec N f _ _ (Nat.lt_of_le_of_lt (Nat.div_le_self _ _) hf)] at h2 h3
  refine prime_of hN fun r hr hrN => ?_
  have h4 := pock_one hN hq (Nat.dvd_of_mod_eq_zero hqN) h1 h2 hr hrN
  have h5 := pock_one hN hs (Nat.dvd_of_mod_eq_zero hsN) h1 h3 hr hrN
  have h6 : q * s ∣ r - 1 := Nat.Coprime.mul_dvd_of_dvd_of_dvd hqs h4 h5
  have h7 := Nat.le_of_dvd (by have := hr.two; omega) h6
  exact Nat.lt_of_lt_of_le hb (Nat.mul_le_mul (by omega) (by omega))
def noDiv (n : Nat) : Nat → Nat → Bool
  | 0, _ => true
  | f + 1, d => if n % d = 0 then false else noDiv n f (d + 1)
theorem noDiv_spec (n : Nat) : ∀ f d, noDiv n f d = true → ∀ m, d ≤ m → m < d + f → n % m ≠ 0
  | 0, d, _, m, h1, h2 => by omega
  | f + 1, d, h, m, h1, h2 => by
    unfold noDiv at h
    by_cases h0 : n % d = 0
    · rw [if_pos h0] at h; cases h
    · rw [if_neg h0] at h
      by_cases hm : m = d
      · rw [hm]; exact h0
      · exact noDiv_spec n f (d + 1) h m (by omega) (by omega)
theorem small_prime {n f : Nat} (hn : 2 ≤ n) (h : noDiv n f 2 = true) (hf : n < (f + 2) * (f + 2)) : Pr n := by
  refine prime_of hn fun r hr hrn => ?_
  by_cases h1 : r < f + 2
  · exact absurd (Nat.mod_eq_zero_of_dvd hrn) (noDiv_spec n f 2 h r hr.two (by omega))
  · exact Nat.lt_of_lt_of_le hf (Nat.mul_le_mul (by omega) (by omega))
theorem pr_991 : Pr 991 := small_prime (f := 31) (by omega) (by decide +kernel) (by omega)
theorem pr_103 : Pr 103 := small_prime (f := 10) (by omega) (by decide +kernel) (by omega)
theorem pr_8574133 : Pr 8574133 := pock2 (a := 2) (q := 991) (s := 103) (f := 24) (by omega) pr_991 pr_103 (by decide +kernel) (by decide +kernel) (by decide +kernel) (by decide +kernel) (by decide +kernel) (by decide +kernel) (by decide +kernel) (by decide +kernel)
theorem pr_127 : Pr 127 := small_prime (f := 11) (by omega) (by decide +kernel) (by omega)
theorem pr_1919519569386763 : Pr 1919519569386763 := pock2 (a := 2) (q := 8574133) (s := 127) (f := 51) (by omega) pr_8574133 pr_127 (by decide +kernel) (by decide +kernel) (by decide +kernel) (by decide +kernel) (by decide +kernel) (by decide +kernel) (by decide +kernel) (by decide +kernel)
theorem pr_569003 : Pr 569003 := small_prime (f := 754) (by omega) (by decide +kernel) (by omega)
theorem pr_2773320623 : Pr 2773320623 := pock1 (a := 2) (q := 569003) (f := 32) (by omega) pr_569003 (by decide +kernel) (by decide +kernel) (by decide +kernel) (by decide +kernel) (by decide +kernel)
theorem pr_72106336199 : Pr 72106336199 := pock1 (a := 2) (q := 2773320623) (f := 37) (by omega) pr_2773320623 (by decide +kernel) (by decide +kernel) (by decide +kernel) (by decide +kernel) (by decide +kernel)
theorem pr_75445702479781427272750846543864801 : Pr 75445702479781427272750846543864801 := pock2 (a := 2) (q := 1919519569386763) (s := 72106336199) (f := 116) (by omega) pr_1919519569386763 pr_72106336199 (by decide +kernel) (by decide +kernel) (by decide +kernel) (by decide +kernel) (by decide +kernel) (by decide +kernel) (by decide +kernel) (by decide +kernel)
theorem pr_430751 : Pr 430751 := small_prime (f := 656) (by omega) (by decide +kernel) (by omega)
theorem pr_4153 : Pr 4153 := small_prime (f := 64) (by omega) (by decide +kernel) (by omega)
theorem pr_31757755568855353 : Pr 31757755568855353 := pock2 (a := 2) (q := 430751) (s := 4153) (f := 55) (by omega) pr_430751 pr_4153 (by decide +kernel) (by decide +kernel) (by decide +kernel) (by decide +kernel) (by decide +kernel) (by decide +kernel) (by decide +kernel) (by decide +kernel)
theorem pr_74058212732561358302231226437062788676166966415465897661863160754340907 : Pr 74058212732561358302231226437062788676166966415465897661863160754340907 := pock2 (a := 2) (q := 75445702479781427272750846543864801) (s := 31757755568855353) (f := 236) (by omega) pr_75445702479781427272750846543864801 pr_31757755568855353 (by decide +kernel) (by decide +kernel) (by decide +kernel) (by decide +kernel) (by decide +kernel) (by decide +kernel) (by decide +kernel) (by decide +kernel)
theorem pr_57896044618658097711785492504343953926634992332820282019728792003956564819949 : Pr 57896044618658097711785492504343953926634992332820282019728792003956564819949 := pock1 (a := 2) (q := 74058212732561358302231226437062788676166966415465897661863160754340907) (f := 255) (by omega) pr_74058212732561358302231226437062788676166966415465897661863160754340907 (by decide +kernel) (by decide +kernel) (by decide +kernel) (by decide +kernel) (by decide +kernel)
def Pq : Nat := 57896044618658097711785492504343953926634992332820282019728792003956564819949
def expInv : Nat := 57896044618658097711785492504343953926634992332820282019728792003956564819947
theorem Pq_pos : 0 < Pq := by unfold Pq; omega
theorem p255 : (57896044618658097711785492504343953926634992332820282019728792003956564819968 : Nat) % Pq = 19 % Pq := by decide +kernel
def cr (f : Nat → Nat) (c0 : Nat) : Nat → Nat
  | 0 => c0
  | i + 1 => (f i + cr f c0 i) / 2251799813685248
def pas (f : Nat → Nat) (c0 : Nat) (i : Nat) : Nat := (f i + cr f c0 i) % 2251799813685248
def val (f : Nat → Nat) : Nat := f 0 + 2251799813685248 * (f 1 + 2251799813685248 * (f 2 + 2251799813685248 * (f 3 + 2251799813685248 * f 4)))
theorem pas_val (f : Nat → Nat) (c0 : Nat) : val (pas f c0) + 57896044618658097711785492504343953926634992332820282019728792003956564819968 * cr f c0 5 = val f + c0 := by
  unfold val pas
  simp only [cr]
  omega
def cF (f : Nat → Nat) : Nat → Nat :=
  let g := pas (pas f 0) (cr f 0 5 * 19)
  let c := cr (pas f 0) (cr f 0 5 * 19) 5 * 19
  fun i => if i = 0 then g 0 + c else g i
structure Lim (f : Nat → Nat) : Prop where
  l0 : f 0 < 2251799813685248 + 20
  l1 : f 1 < 2251799813685248
  l2 : f 2 < 2251799813685248
  l3 : f 3 < 2251799813685248
  l4 : f 4 < 2251799813685248
theorem add_mul_mod19 (a c : Nat) : (a + 57896044618658097711785492504343953926634992332820282019728792003956564819968 * c) % Pq = (a + c * 19) % Pq := by
  rw [Nat.add_mod, Nat.mul_mod, p255, ← Nat.mul_mod, ← Nat.add_mod, Nat.mul_comm 19]
theorem cF_val (f : Nat → Nat) : val (cF f) % Pq = val f % Pq := by
  have h1 := pas_val f 0
  have h2 := pas_val (pas f 0) (cr f 0 5 * 19)
  have e : val (cF f) = val (pas (pas f 0) (cr f 0 5 * 19)) + cr (pas f 0) (cr f 0 5 * 19) 5 * 19 := by
    simp only [val, cF, if_true, if_neg (show ¬ (1 = 0) by omega), if_neg (show ¬ (2 = 0) by omega), if_neg (show ¬ (3 = 0) by omega), if_neg (show ¬ (4 = 0) by omega)]
    omega
  rw [e, ← add_mul_mod19, h2, ← add_mul_mod19, h1, Nat.add_zero]
theorem cr_lt (f : Nat → Nat) (c0 : Nat) (h : ∀ i, i < 5 → f i ≤ 9223372036854775808) (hc : c0 ≤ 9223372036854775807) : ∀ i, i ≤ 5 → cr f c0 i ≤ 9223372036854775807
  | 0, _ => hc
  | i + 1, hi => by
    have h1 := cr_lt f c0 h hc i (by omega)
    have h2 := h i (by omega)
    unfold cr
    omega
theorem cr5 (f : Nat → Nat) (h : ∀ i, i < 5 → f i ≤ 9223372036854775808) : cr f 0 5 ≤ 4097 := by
  have h1 := cr_lt f 0 h (by omega) 4 (by omega)
  have h2 := h 4 (by omega)
  have h3 := cr_lt f 0 h (by omega) 3 (by omega)
  have h4 := h 3 (by omega)
  have e : cr f 0 5 = (f 4 + cr f 0 4) / 2251799813685248 := rfl
  have e2 : cr f 0 4 = (f 3 + cr f 0 3) / 2251799813685248 := rfl
  omega
theorem pas_lt (f : Nat → Nat) (c0 i : Nat) : pas f c0 i < 2251799813685248 := Nat.mod_lt _ (by omega)
theorem cr_one (f : Nat → Nat) (c0 : Nat) (h : ∀ i, f i < 2251799813685248) (hc : c0 ≤ 2251799813685248) : ∀ i, 1 ≤ i → cr f c0 i ≤ 1
  | 0, h0 => by omega
  | 1, _ => by have := h 0; unfold cr; simp only [cr]; omega
  | i + 2, _ => by
    have h1 := cr_one f c0 h hc (i + 1) (by omega)
    have h2 := h (i + 1)
    rw [cr]; omega
theorem cF_lim (f : Nat → Nat) (h : ∀ i, i < 5 → f i ≤ 9223372036854775808) : Lim (cF f) := by
  have h5 := cr5 f h
  have h1 := cr_one (pas f 0) (cr f 0 5 * 19) (pas_lt f 0) (by omega) 5 (by omega)
  have hp := pas_lt (pas f 0) (cr f 0 5 * 19)
  refine ⟨?_, ?_, ?_, ?_, ?_⟩
  · show pas (pas f 0) (cr f 0 5 * 19) 0 + cr (pas f 0) (cr f 0 5 * 19) 5 * 19 < _
    have := hp 0; omega
  · exact hp 1
  · exact hp 2
  · exact hp 3
  · exact hp 4
theorem prP : Pr Pq := pr_57896044618658097711785492504343953926634992332820282019728792003956564819949
instance : NeZero Pq := ⟨by unfold Pq; omega⟩
abbrev F := Fin Pq
def fn (n : Nat) : F := ⟨n % Pq, Nat.mod_lt _ Pq_pos⟩
def fpow (x : F) (n : Nat) : F := ⟨x.val ^ n % Pq, Nat.mod_lt _ Pq_pos⟩
def finv (x : F) : F := fpow x expInv
theorem fn_val (n : Nat) : (fn n).val = n % Pq := rfl
theorem fpow_val (x : F) (n : Nat) : (fpow x n).val = x.val ^ n % Pq := rfl
theorem F.ext' {x y : F} (h : x.val = y.val) : x = y := Fin.ext h
theorem F.mul_val (x y : F) : (x * y).val = x.val * y.val % Pq := rfl
theorem fpow_add (x : F) (m n : Nat) : fpow x (m + n) = fpow x m * fpow x n := by
  apply F.ext'
  rw [F.mul_val, fpow_val, fpow_val, fpow_val, Nat.pow_add, Nat.mul_mod]
theorem fpow_one (x : F) : fpow x 1 = x := by
  apply F.ext'; rw [fpow_val, Nat.pow_one, Nat.mod_eq_of_lt x.isLt]
theorem fpow_zero (x : F) : fpow x 0 = 1 := by
  apply F.ext'; rw [fpow_val, Nat.pow_zero]; rfl
theorem fpow_mul (x : F) (m n : Nat) : fpow (fpow x m) n = fpow x (m * n) := by
  apply F.ext'; rw [fpow_val, fpow_val, fpow_val, pow_mod', ← Nat.pow_mul]
theorem fpow_mul_base (x y : F) (n : Nat) : fpow (x * y) n = fpow x n * fpow y n := by
  apply F.ext'; rw [fpow_val, F.mul_val, F.mul_val, fpow_val, fpow_val, pow_mod', Nat.mul_pow, Nat.mul_mod]
theorem fpow_nought (n : Nat) (h : 0 < n) : fpow 0 n = 0 := by
  apply F.ext'; rw [fpow_val, show (0 : F).val = 0 from rfl, Nat.zero_pow h]; rfl
theorem F.val_ne {x : F} (h : x ≠ 0) : ¬ Pq ∣ x.val := by
  intro hd
  apply h
  apply F.ext'
  show x.val = 0
  rw [← Nat.mod_eq_of_lt x.isLt]; exact Nat.mod_eq_zero_of_dvd hd
theorem fermatF {x : F} (h : x ≠ 0) : fpow x (Pq - 1) = 1 := by
  apply F.ext'; rw [fpow_val, fermat prP _ (F.val_ne h)]; rfl
theorem finv_mul {x : F} (h : x ≠ 0) : x * finv x = 1 := by
  have h1 := fermatF h
  rw [show Pq - 1 = 1 + expInv from by unfold Pq expInv; omega, fpow_add, fpow_one] at h1
  exact h1
instance : Inv F := ⟨finv⟩
instance : Div F := ⟨fun a b => a * finv b⟩
theorem finv_zero : finv 0 = 0 := fpow_nought _ (by unfold expInv; omega)
theorem F.mul_comm' (x y : F) : x * y = y * x := by grind
theorem finv_finv (x : F) : finv (finv x) = x := by
  by_cases h : x = 0
  · subst h; rw [finv_zero, finv_zero]
  · have h1 := finv_mul h
    have h2 : finv x ≠ 0 := by
      intro e
      have h3 := congrArg Fin.val h1
      rw [e, F.mul_val, show (0 : F).val = 0 from rfl, Nat.mul_zero] at h3
      exact absurd h3 (by decide)
    have h4 := finv_mul h2
    calc finv (finv x) = 1 * finv (finv x) := by grind
      _ = (x * finv x) * finv (finv x) := by rw [h1]
      _ = x * (finv x * finv (finv x)) := by grind
      _ = x := by rw [h4]; grind
theorem finv_one : finv 1 = 1 := by
  have h := finv_mul (x := 1) (by intro h; have := congrArg Fin.val h; exact absurd this (by decide))
  grind
instance fieldPow : HPow F Int F := ⟨fun x n => match n with | .ofNat n => fpow x n | .negSucc n => finv (fpow x (n + 1))⟩
instance fieldF : Lean.Grind.Field F where
  zpow := fieldPow
  div_eq_mul_inv := fun _ _ => rfl
  zero_ne_one := by intro h; have := congrArg Fin.val h; exact absurd this (by decide)
  inv_zero := finv_zero
  mul_inv_cancel := finv_mul
  zpow_zero := fun a => fpow_zero a
  zpow_succ := fun a n => by
    show fpow a (n + 1) = fpow a n * a
    rw [fpow_add, fpow_one]
  zpow_neg := fun a n => by
    cases n with
    | ofNat n =>
      cases n with
      | zero =>
        show fpow a 0 = finv (fpow a 0)
        rw [fpow_zero, finv_one]
      | succ n => rfl
    | negSucc n =>
      show fpow a (n + 1) = finv (finv (fpow a (n + 1)))
      rw [finv_finv]
theorem F.dom {x y : F} (h : x * y = 0) : x = 0 ∨ y = 0 := by grind
def sqm1 : F := fn 19681161376707505956807079304988542015446066515923890162744021073123829784752
theorem sqm1_sq : sqm1 * sqm1 = -1 := by decide +kernel
def exp8 : Nat := 7237005577332262213973186563042994240829374041602535252466099000494570602494
def exp2 : Nat := 28948022309329048855892746252171976963317496166410141009864396001978282409974
theorem exp_two : exp2 + exp2 = Pq - 1 := by decide +kernel
theorem exp_eight : (2 * exp8) + (2 * exp8) = 2 + exp2 := by decide +kernel
theorem half_one {y : F} (h : y ≠ 0) : fpow y exp2 = 1 ∨ fpow y exp2 = -1 := by
  have h1 := fermatF h
  rw [← exp_two, fpow_add] at h1
  have h2 : (fpow y exp2 - 1) * (fpow y exp2 + 1) = 0 := by grind
  rcases F.dom h2 with h | h
  · left; grind
  · right; grind
def cand (x : F) : F := if fpow x exp8 * fpow x exp8 = x then fpow x exp8 else fpow x exp8 * sqm1
def rootC (x : F) : Int := if cand x * cand x = x then 0 else 7
def rootV (x : F) : F := if cand x * cand x = x then (if (cand x).val % 2 = 1 then -cand x else cand x) else 0
theorem cand_sq (y : F) : cand (y * y) * cand (y * y) = y * y := by
  have h2 : fpow y 2 = y * y := by rw [show 2 = 1 + 1 from rfl, fpow_add, fpow_one]
  have h1 : fpow (y * y) exp8 * fpow (y * y) exp8 = y * y * fpow y exp2 := by
    rw [← h2, fpow_mul, ← fpow_add, exp_eight, fpow_add]
  unfold cand
  split
  · assumption
  · rename_i h
    by_cases hy : y = 0
    · subst hy
      rw [h1] at h; grind
    · rcases half_one hy with e | e
      · rw [h1, e] at h; grind
      · rw [e] at h1
        have := sqm1_sq
        grind
theorem rootC_sq (y : F) : rootC (y * y) = 0 := by unfold rootC; rw [if_pos (cand_sq y)]
theorem neg_val (x : F) : (-x).val = (Pq - x.val) % Pq := rfl
theorem neg_par (v : Nat) (h : v < Pq) (h1 : v % 2 = 1) : (Pq - v) % Pq % 2 = 0 := by
  rw [Nat.mod_eq_of_lt (show Pq - v < Pq by omega)]
  have : Pq % 2 = 1 := by decide +kernel
  omega
theorem rootV_even (x : F) : (rootV x).val % 2 = 0 := by
  unfold rootV
  by_cases h : cand x * cand x = x
  · rw [if_pos h]
    by_cases h1 : (cand x).val % 2 = 1
    · rw [if_pos h1, neg_val]
      exact neg_par _ (cand x).isLt h1
    · rw [if_neg h1]; exact (Nat.mod_two_eq_zero_or_one _).resolve_right h1
  · rw [if_neg h]; rfl
theorem rootV_mul {x : F} (h : rootC x = 0) : rootV x * rootV x = x := by
  unfold rootC at h
  unfold rootV
  by_cases e : cand x * cand x = x
  · rw [if_pos e]
    generalize cand x = c at *
    by_cases h1 : c.val % 2 = 1
    · rw [if_pos h1]
      clear h1 h
      grind
    · rw [if_neg h1]; exact e
  · rw [if_neg e] at h; cases h
theorem root_pm (y : F) : rootV (y * y) = y ∨ rootV (y * y) = -y := by
  have h := rootV_mul (rootC_sq y)
  have h2 : (rootV (y * y) - y) * (rootV (y * y) + y) = 0 := by grind
  rcases F.dom h2 with h | h
  · left; grind
  · right; grind
end Go.Proofs.YtielgpefoameiaaGreat
namespace Go.Proofs.YtielgpefoameiaaGreat
open Go.RowKit
theorem belowBy {P : Prop} (h : P := by repeat (first | (with_reducible refine Below.alloc' ?_ _) | (with_reducible refine Below.drew ?_) | (with_reducible refine below_drewN ?_ _) | ((with_reducible refine Below.setCell ?_ ?_ _); rotate_left; (focus (first | exact Nat.le_refl _ | (simp; done) | (simp; omega)))) | (with_reducible assumption) | (with_reducible exact Below.refl _ _))) : P := h
theorem ret_int {k : IntKind} {a b : Int} (h : a = b) : Ending.returned (.int k a) = Ending.returned (.int k b) := by rw [h]
theorem ret_bool {a b : Bool} (h : a = b) : Ending.returned (.bool a) = Ending.returned (.bool b) := by rw [h]
def bV (c : UInt8) : Value := .int .u8 (c.toNat : Int)
structure RdB (w : World) (a : Option Addr) (n cap : Nat) (l : List UInt8) : Prop where
  hlen : l.length = n
  hcap : n ≤ cap
  hmax : cap ≤ maxLen
  get : ∀ i (h : i < l.length), ∃ b o, a = some ⟨b, o, none⟩ ∧ w.cell? ⟨b, o + i, none⟩ = some (bV l[i])
  hnil : a = none → cap = 0
def Blk (w : World) (g : Nat) (cs : List Value) (E : TypeId) : Prop := w.heap[g]? = some (.cells cs.toArray E (0, 0))
theorem Blk.lt {w : World} {g : Nat} {cs : List Value} {E : TypeId} (h : Blk w g cs E) : g < w.heap.size := by
  unfold Blk at h
  by_cases hg : g < w.heap.size
  · exact hg
  · rw [Array.getElem?_eq_none (by omega)] at h; simp at h
theorem Blk.cell {w : World} {g : Nat} {cs : List Value} {E : TypeId} (h : Blk w g cs E) (i : Nat) : w.cell? ⟨g, i, none⟩ = cs[i]? := by
  unfold Blk at h
  simp [World.cell?, h]
theorem Blk.frozen {w : World} {g : Nat} {cs : List Value} {E : TypeId} (h : Blk w g cs E) (i : Nat) : w.frozen? ⟨g, i, none⟩ = false := by
  unfold Blk at h
  simp [World.frozen?, h]
theorem Blk.below {w w' : World} {B g : Nat} {cs : List Value} {E : TypeId} (h : Blk w g cs E) (hb : Below B w w') (hg : g < B) : Blk w' g cs E := by
  unfold Blk at *
  rw [hb.block g hg]; exact h
theorem Blk.below' {w w' : World} {g : Nat} {cs : List Value} {E : TypeId} (h : Blk w g cs E) (hb : Below w.heap.size w w') : Blk w' g cs E := h.below hb h.lt
theorem Blk.alloc {w : World} {g : Nat} {cs : List Value} {E : TypeId} (h : Blk w g cs E) (o : Obj) : Blk (w.alloc o) g cs E :=
  h.below ((Below.refl _ _).alloc (Nat.le_refl _) o) h.lt
theorem Blk.drew {w : World} {g : Nat} {cs : List Value} {E : TypeId} (h : Blk w g cs E) : Blk w.drew g cs E := h
theorem Blk.set {w : World} {g : Nat} {cs : List Value} {E : TypeId} (h : Blk w g cs E) (i : Nat) (v : Value) : Blk (w.setCell ⟨g, i, none⟩ v) g (cs.set i v) E := by
  unfold Blk at *
  simp [World.setCell, Array.getElem?_modify, h]
theorem Blk.other {w : World} {g : Nat} {cs : List Value} {E : TypeId} (h : Blk w g cs E) (a : Addr) (hne : a.block ≠ g) (v : Value) : Blk (w.setCell a v) g cs E := by
  unfold Blk at *
  rw [Below.heap_setCell _ _ _ _ (by omega)]; exact h
theorem Blk.new (w : World) (cs : Array Value) (E : TypeId) : Blk (w.alloc (.cells cs E)) w.heap.size cs.toList E := by
  unfold Blk
  show (w.heap.push _)[w.heap.size]? = _
  simp
theorem Blk.new' {w : World} {cs : Array Value} {E : TypeId} {g : Nat} (hg : g = w.heap.size) : Blk (w.alloc (.cells cs E)) g cs.toList E := by
  subst hg; exact Blk.new _ _ _
theorem Blk.own {w : World} {base E g n : Nat} {xs : List Value} (h : w.ownsRow base E 1 (.slice (some ⟨g, 0, none⟩) n n) n xs) : Blk w g xs E := by
  obtain ⟨h1, h2⟩ := h
  rcases h2 with ⟨h2, _⟩ | ⟨g', cap, cur, hv, _, hg, _, _, hs, ht⟩
  · cases h2
  · obtain ⟨h3, _, h5⟩ : g = g' ∧ n = n ∧ n = cap := by simpa using hv
    subst h3 h5
    have : cur.toList = xs := by rw [← ht, List.take_of_length_le (by simp [hs])]
    unfold Blk
    rw [hg, ← this]
def row (n : Nat) (f : Nat → Value) : List Value := (List.range n).map f
theorem row_len (n : Nat) (f : Nat → Value) : (row n f).length = n := by simp [row]
theorem row_get {n : Nat} {f : Nat → Value} {k : Nat} (h : k < n) : (row n f)[k]? = some (f k) := by simp [row, h]
theorem row_ext {n : Nat} {f g : Nat → Value} (h : ∀ i, i < n → f i = g i) : row n f = row n g := by
  unfold row; apply List.map_congr_left; intro i hi; exact h i (by simpa using hi)
theorem row_set {n : Nat} {f g : Nat → Value} (k : Nat) (v : Value) (hk : g k = v) (h : ∀ i, i < n → i ≠ k → g i = f i) : (row n f).set k v = row n g := by
  apply List.ext_getElem
  · simp [row]
  · intro i h1 h2
    have hi : i < n := by simpa [row] using h2
    rw [List.getElem_set]
    split
    · rename_i e; subst e; simp [row, hk]
    · rename_i e; simp [row, h i hi (fun x => e x.symm)]
theorem Blk.at {w : World} {g n E : Nat} {f : Nat → Value} (h : Blk w g (row n f) E) {k : Nat} (hk : k < n) : w.cell? ⟨g, k, none⟩ = some (f k) := by rw [h.cell, row_get hk]
theorem own_below {w w' : World} {base E n : Nat} {v : Value} {xs : List Value} (h : w.ownsRow base E 1 v n xs) (hb : Below w.heap.size w w') : w'.ownsRow base E 1 v n xs := by
  obtain ⟨h1, h2⟩ := h
  refine ⟨h1, ?_⟩
  rcases h2 with h2 | ⟨g, cap, cur, hv, hg, hh, r⟩
  · exact Or.inl h2
  · have hlt : g < w.heap.size := Blk.lt (cs := cur.toList) (E := E) (by unfold Blk; simpa using hh)
    exact Or.inr ⟨g, cap, cur, hv, hg, by rw [hb.block g hlt]; exact hh, r⟩
theorem own_rdb {w : World} {base E n : Nat} {v : Value} {l : List UInt8} (h : w.ownsRow base E 1 v n (l.map bV)) (hn : 0 < n) :
    ∃ g cap r, v = .slice (some ⟨g, 0, none⟩) n cap ∧ base ≤ g ∧ Blk w g (l.map bV ++ r) E ∧ l.length = n ∧ n ≤ cap ∧ cap ≤ maxLen := by
  obtain ⟨h1, h2⟩ := h
  simp at h1
  rcases h2 with ⟨_, h0⟩ | ⟨g, cap, cur, hv, hg, hh, hc, hm, hs, ht⟩
  · omega
  · refine ⟨g, cap, cur.toList.drop n, hv, hg, ?_, h1, hc, hm⟩
    unfold Blk
    rw [hh, ← ht, Nat.mul_one, List.take_append_drop]
theorem cell_lt {w : World} {p : Addr} {v : Value} (h : w.cell? p = some v) : p.block < w.heap.size := by
  by_cases hg : p.block < w.heap.size
  · exact hg
  · unfold World.cell? at h
    rw [Array.getElem?_eq_none (by omega)] at h; simp at h
theorem RdB.below {w w' : World} {a : Option Addr} {n cap : Nat} {l : List UInt8} (h : RdB w a n cap l) (hb : Below w.heap.size w w') : RdB w' a n cap l := by
  refine ⟨h.hlen, h.hcap, h.hmax, fun i hi => ?_, h.hnil⟩
  obtain ⟨b, o, ha, hc⟩ := h.get i hi
  exact ⟨b, o, ha, by rw [hb.cell (cell_lt hc)]; exact hc⟩
theorem RdB.drew {w : World} {a : Option Addr} {n cap : Nat} {l : List UInt8} (h : RdB w a n cap l) : RdB w.drew a n cap l := ⟨h.hlen, h.hcap, h.hmax, h.get, h.hnil⟩
theorem RdB.blk {w : World} {g E n cap : Nat} {l : List UInt8} (r : List Value) (h : Blk w g (l.map bV ++ r) E) (hn : l.length = n) (hc : n ≤ cap) (hm : cap ≤ maxLen) : RdB w (some ⟨g, 0, none⟩) n cap l :=
  ⟨hn, hc, hm, fun i hi => ⟨g, 0, rfl, by rw [Nat.zero_add, h.cell, List.getElem?_append_left (by simpa using hi)]; simp [hi]⟩, fun h => by cases h⟩
theorem RdB.nil (w : World) : RdB w none 0 0 [] := ⟨rfl, Nat.le_refl _, by simp, fun i h => by simp at h, fun _ => rfl⟩
theorem RdB.cases {w : World} {a : Option Addr} {n cap : Nat} {l : List UInt8} (h : RdB w a n cap l) :
    (n = 0 ∧ l = []) ∨ ∃ b o, 0 < n ∧ a = some ⟨b, o, none⟩ ∧ ∀ i (hi : i < l.length), w.cell? ⟨b, o + i, none⟩ = some (bV l[i]) := by
  by_cases h0 : n = 0
  · exact .inl ⟨h0, List.eq_nil_of_length_eq_zero (by rw [h.hlen, h0])⟩
  · obtain ⟨b, o, ha, _⟩ := h.get 0 (by have := h.hlen; omega)
    refine .inr ⟨b, o, by omega, ha, fun i hi => ?_⟩
    obtain ⟨b', o', ha', hc⟩ := h.get i hi
    rw [ha] at ha'
    simp at ha'
    obtain ⟨rfl, rfl⟩ := ha'
    exact hc
theorem Below.alloc' {a w : World} (h : Below a.heap.size a w) (o : Obj) : Below a.heap.size a (w.alloc o) := h.alloc h.size o
theorem Below.call {a w w1 : World} (h : Below a.heap.size a w) (hb : Below w.heap.size w w1) : Below a.heap.size a w1 := h.trans (hb.mono h.size)
theorem bcell {W w1 : World} (hb : Below W.heap.size W w1) : (∀ b o, b < W.heap.size → w1.cell? ⟨b, o, none⟩ = W.cell? ⟨b, o, none⟩) ∧ (∀ b o, b < W.heap.size → w1.frozen? ⟨b, o, none⟩ = W.frozen? ⟨b, o, none⟩) :=
  ⟨fun b o h => hb.cell (p := ⟨b, o, none⟩) h, fun b o h => hb.frozen (p := ⟨b, o, none⟩) h⟩
theorem RdB.of_ints {w : World} {a : Option Addr} {n cap : Nat} {zs : List Int}
    (h : (a = none ∧ n = 0 ∧ cap = 0 ∧ zs = []) ∨ ∃ x, a = some x ∧ n ≤ cap ∧ cap ≤ maxLen ∧ zs.length = cap ∧ (∀ i, i < zs.length → w.cell? (x.add i) = some (.int .u8 (zs.getD i 0))) ∧ ∀ z ∈ zs, (Lit.int .u8 z).wf = true) :
    ∃ l, RdB w a n cap l := by
  rcases h with ⟨rfl, rfl, rfl, rfl⟩ | ⟨⟨b, o, sp⟩, rfl, hl, hm, hz, hc, hw⟩
  · exact ⟨[], RdB.nil w⟩
  · refine ⟨(zs.take n).map fun z => UInt8.ofNat z.toNat, by simp [hz, hl], hl, hm, fun i hi => ?_, fun h => by cases h⟩
    simp [hz] at hi
    have h0 := hc 0 (by omega)
    have hsp : sp = none := by simpa [Addr.add] using World.cell?_spot h0
    subst hsp
    refine ⟨b, o, rfl, ?_⟩
    have h1 := hc i (by omega)
    have e : (Addr.add ⟨b, o, none⟩ i) = ⟨b, o + i, none⟩ := by
      unfold Addr.add; split
      · rename_i e; subst e; rfl
      · rfl
    rw [e] at h1
    rw [h1]
    have hmem : zs[i]'(by omega) ∈ zs := List.getElem_mem _
    have hwz := hw _ hmem
    have hb : 0 ≤ zs[i]'(by omega) ∧ zs[i]'(by omega) < 256 := by
      have := bounds_u8 hwz
      omega
    simp [bV, List.getElem?_eq_getElem (show i < zs.length by omega)]
    omega
theorem all_range_eqI : ∀ (xs ys : List Int), xs.length = ys.length → ((List.range xs.length).all fun i => xs.getD i 0 == ys.getD i 0) = (xs == ys)
  | [], [], _ => rfl
  | x :: xs, y :: ys, h => by
    have ih := all_range_eqI xs ys (by simpa using h)
    rw [List.length_cons, List.range_succ_eq_map, List.all_cons, List.all_map]
    simp only [List.getD_cons_zero, Function.comp_def, List.getD_cons_succ, ih]
    simp [List.cons_beq_cons]
  | [], _ :: _, h => by simp at h
  | _ :: _, [], h => by simp at h
theorem eqArr {P : Program} (w : World) (d : Nat) (t e : TypeId) (n : Nat) (k : IntKind) (ht : P.underlying t = some (.array n e)) (he : P.underlying e = some (.int k)) (hsz : ∀ w, (sizeOf e).run P w = .ok 1 w)
    (xs ys : List Int) (hx : xs.length = n) (hy : ys.length = n) :
    (Op.equalIn (d + 2) t (.agg (xs.map (Value.int k)).toArray) (.agg (ys.map (Value.int k)).toArray)).run P w = .ok (xs == ys) w := by
  rw [← all_range_eqI xs ys (hx.trans hy.symm), hx, List.range_eq_range', Op.equalIn]
  simp only [Sem.run_bind, run_underlying ht, Result.andThen_ok, hsz, Std.Legacy.Range.forIn_eq_forIn_range', Std.Legacy.Range.size, Nat.sub_zero, Nat.add_sub_cancel, Nat.div_one]
  have hl : ∀ i ∈ List.range' 0 n 1, i < n := fun i hi => by simpa using (List.mem_range'_1.1 hi).2
  generalize List.range' 0 n 1 = l at hl ⊢
  induction l with
  | nil => simp
  | cons i l ih =>
    have hi : i < n := hl i (by simp)
    have px : (part e (xs.map (Value.int k)).toArray (i * 1)).run P w = .ok (Value.int k (xs.getD i 0)) w := by
      simp [part, isAgg, run_underlying he, List.getD, List.getElem?_eq_getElem (show i < xs.length by omega)]
    have py : (part e (ys.map (Value.int k)).toArray (i * 1)).run P w = .ok (Value.int k (ys.getD i 0)) w := by
      simp [part, isAgg, run_underlying he, List.getD, List.getElem?_eq_getElem (show i < ys.length by omega)]
    have pe : (Op.equalIn (d + 1) e (Value.int k (xs.getD i 0)) (Value.int k (ys.getD i 0))).run P w = .ok (xs.getD i 0 == ys.getD i 0) w := by
      rw [run_equalIn_int w d e k k _ _ he]
    simp only [List.forIn_cons, Sem.run_bind, px, py, pe, Result.andThen_ok, List.all_cons]
    cases hb : (xs.getD i 0 == ys.getD i 0)
    · simp
    · simp only [Bool.not_true, Bool.false_eq_true, if_false, Sem.run_pure, Result.andThen_ok, Bool.true_and]
      exact ih fun j hj => hl j (by simp [hj])
theorem wp_gen {P : Program} {c : Code} {Q : Exit → Act → World → Prop} {a : Act} {w : World} (F : World → Prop) (hF : F w) (h : ∀ W, F W → Code.wp P c Q a W) : Code.wp P c Q a w := h w hF
end Go.Proofs.YtielgpefoameiaaGreat
namespace Go.Proofs.YtielgpefoameiaaGreat
open Go Go.RowKit
structure Rp (α : Type) where
  n : Nat
  rep : α → List Value → Prop
  pos : 0 < n
  len : ∀ (x : α) cs, rep x cs → cs.length = n
  one : ∀ (x : α) cs, rep x cs → ∀ v ∈ cs, v.oneCell' = true
variable {α : Type} {R : Rp α}
def Lims {α : Type} (R : Rp α) : List α → List Value → Prop
  | [], cs => cs = []
  | x :: xs, cs => ∃ h r, R.rep x h ∧ cs = h ++ r ∧ Lims R xs r
theorem Lims.len : ∀ {xs : List α} {cs : List Value}, Lims R xs cs → cs.length = R.n * xs.length
  | [], _, h => by cases h; simp
  | x :: xs, cs, h => by
    obtain ⟨h, r, hx, rfl, hr⟩ := h
    have := R.len _ _ hx
    have := Lims.len hr
    simp [List.length_append, Nat.mul_add]; omega
theorem Lims.one : ∀ {xs : List α} {cs : List Value}, Lims R xs cs → ∀ v ∈ cs, v.oneCell' = true
  | [], _, h, v, hv => by cases h; simp at hv
  | x :: xs, cs, h, v, hv => by
    obtain ⟨h, r, hx, rfl, hr⟩ := h
    rcases List.mem_append.1 hv with hv | hv
    · exact R.one _ _ hx v hv
    · exact Lims.one hr v hv
theorem Lims.drop : ∀ (k : Nat) {xs : List α} {cs : List Value}, Lims R xs cs → Lims R (xs.drop k) (cs.drop (R.n * k))
  | 0, _, _, h => by simpa using h
  | k + 1, [], _, h => by cases h; simp [Lims]
  | k + 1, x :: xs, cs, h => by
    obtain ⟨h, r, hx, rfl, hr⟩ := h
    have e := R.len _ _ hx
    have := Lims.drop k hr
    have e2 : (h ++ r).drop (R.n * (k + 1)) = r.drop (R.n * k) := by
      rw [show R.n * (k + 1) = h.length + R.n * k by rw [e, Nat.mul_add]; omega, List.drop_append]; simp
    rw [List.drop_succ_cons, e2]
    exact this
theorem Lims.take : ∀ (k : Nat) {xs : List α} {cs : List Value}, Lims R xs cs → Lims R (xs.take k) (cs.take (R.n * k))
  | 0, _, _, h => by simp [Lims]
  | k + 1, [], _, h => by cases h; simp [Lims]
  | k + 1, x :: xs, cs, h => by
    obtain ⟨h, r, hx, rfl, hr⟩ := h
    have e := R.len _ _ hx
    rw [List.take_succ_cons]
    refine ⟨h, r.take (R.n * k), hx, ?_, Lims.take k hr⟩
    rw [List.take_append, List.take_of_length_le (by rw [e, Nat.mul_add]; omega), e, Nat.mul_add, Nat.mul_one, Nat.add_sub_cancel]
theorem Lims.single {x : α} {cs : List Value} (h : R.rep x cs) : Lims R [x] cs := ⟨cs, [], h, by simp, rfl⟩
theorem Lims.of_single {x : α} {cs : List Value} (h : Lims R [x] cs) : R.rep x cs := by
  obtain ⟨h, r, hx, rfl, hr⟩ := h
  obtain rfl : r = [] := hr
  simpa using hx
def IsFs {α : Type} (R : Rp α) (v : Value) (xs : List α) : Prop := ∃ cs : List Value, v = .agg cs.toArray ∧ Lims R xs cs
def HasFs {α : Type} (R : Rp α) (w : World) (g o : Nat) (xs : List α) : Prop := ∃ cs, Lims R xs cs ∧ w.rangeAt g o cs
theorem range_later {w w' : World} {g o : Nat} {cs : List Value} (h : w.rangeAt g o cs) (hb : Below w.heap.size w w') : w'.rangeAt g o cs := fun j v hv => by
  have := h j v hv
  rw [hb.cell (cell_lt this)]; exact this
theorem there_later {w w' : World} {g o n : Nat} (h : w.there g o n) (hb : Below w.heap.size w w') : w'.there g o n := fun j hj => by
  obtain ⟨h1, h2⟩ := h j hj
  obtain ⟨v, hv⟩ := Option.isSome_iff_exists.1 h1
  have hlt := cell_lt hv
  exact ⟨by rw [hb.cell hlt]; exact h1, by rw [hb.frozen hlt]; exact h2⟩
theorem HasFs.later {w w' : World} {g o : Nat} {xs : List α} (h : HasFs R w g o xs) (hb : Below w.heap.size w w') : HasFs R w' g o xs := by
  obtain ⟨cs, h1, h2⟩ := h; exact ⟨cs, h1, range_later h2 hb⟩
theorem HasFs.fld {w : World} {g o : Nat} {xs : List α} (k m : Nat) (h : HasFs R w g o xs) : HasFs R w g (o + R.n * k) ((xs.drop k).take m) := by
  obtain ⟨cs, h1, h2⟩ := h
  refine ⟨_, (h1.drop k).take m, fun j v hv => ?_⟩
  have h3 : cs[R.n * k + j]? = some v := by
    rw [List.getElem?_take] at hv
    split at hv
    · simpa [List.getElem?_drop] using hv
    · cases hv
  have := h2 _ v h3
  rw [Nat.add_assoc]; exact this
theorem HasFs.blk {w w' : World} {g o : Nat} {xs : List α} (h : HasFs R w g o xs) (e : w'.heap[g]? = w.heap[g]?) : HasFs R w' g o xs := by
  obtain ⟨cs, h1, h2⟩ := h
  exact ⟨cs, h1, fun j v hv => by rw [World.cell?_of_block (w := w) e]; exact h2 j v hv⟩
theorem there_blk {w w' : World} {g o n : Nat} (h : w.there g o n) (e : w'.heap[g]? = w.heap[g]?) : w'.there g o n := fun j hj => by
  rw [World.cell?_of_block (w := w) e, World.frozen?_of_block (w := w) e]; exact h j hj
theorem blk_keep {w w' : World} {g E : Nat} {cs : List Value} (h : Blk w g cs E) (e : w'.heap[g]? = w.heap[g]?) : Blk w' g cs E := by
  unfold Blk at *; rw [e]; exact h
theorem there_lt {w : World} {g o n : Nat} (h : w.there g o n) (hn : 0 < n) : g < w.heap.size := by
  obtain ⟨v, hv⟩ := Option.isSome_iff_exists.1 (h 0 hn).1
  exact cell_lt hv
theorem HasFs.lt {w : World} {g o : Nat} {x : α} {xs : List α} (h : HasFs R w g o (x :: xs)) : g < w.heap.size := by
  obtain ⟨cs, h1, h2⟩ := h
  have hl := h1.len
  have hp := R.pos
  have h0 : 0 < cs.length := by rw [hl]; exact Nat.mul_pos hp (by simp)
  exact cell_lt (h2 0 _ (List.getElem?_eq_getElem h0))
theorem heap_setCells (b : Nat) : ∀ (vs : List Value) (o : Nat) (w : World) (k : Nat), k ≠ b → (w.setCells b o vs).heap[k]? = w.heap[k]?
  | [], _, _, _, _ => rfl
  | v :: r, o, w, k, h => by rw [World.setCells, heap_setCells b r _ _ k h, Below.heap_setCell _ _ _ _ h]
theorem size_setCells (b : Nat) : ∀ (vs : List Value) (o : Nat) (w : World), (w.setCells b o vs).heap.size = w.heap.size
  | [], _, _ => rfl
  | v :: r, o, w => by rw [World.setCells, size_setCells b r]; simp [World.setCell]
theorem below_setCells {B b : Nat} {w0 : World} (hb : B ≤ b) : ∀ (vs : List Value) (o : Nat) (w : World), Below B w0 w → Below B w0 (w.setCells b o vs)
  | [], _, _, h => h
  | v :: r, o, w, h => by rw [World.setCells]; exact below_setCells hb r _ _ (h.setCell hb v)
structure WP where
  P : Value → World → Prop
  st : ∀ v w w', P v w → Below w.heap.size w w' → P v w'
def till (L : Nat → Bool) (v : Option Nat) : Prop := ∀ k, v = some k → L k = false
theorem till_putL {L : Nat → Bool} {v : Option Nat} {i : Nat} (h : till (putL L i) v) : till L v := fun k e => putL_false (h k e)
inductive Fact where
  | any
  /-- the numbers xs -/
  | val {α : Type} (R : Rp α) (xs : List α)
  /-- where something lies -/
  | ptr (g o : Nat)
  /-- a new variable of n cells -/
  | new (n : Nat)
  /-- a new variable that holds xs -/
  | box {α : Type} (R : Rp α) (xs : List α)
  /-- operation a's new variable holds xs -/
  | st (a : Nat) {α : Type} (R : Rp α) (xs : List α)
  /-- the old variable g holds xs -/
  | sto (g : Nat) {α : Type} (R : Rp α) (xs : List α)
  /-- one cell of the old block g is now v, the rest of it as it was -/
  | cst (g o : Nat) (v : Value)
  /-- a value that is known otherwise -/
  | oth (φ : Value → Prop)
  /-- a new slice of these cells, till operation v comes up -/
  | tmp (n : Nat) (cs : List Value) (v : Nat)
  /-- a new slice of these bytes -/
  | rd (l : List UInt8)
  /-- a new slice of these bytes, till operation v comes up -/
  | rdt (l : List UInt8) (v : Nat)
  /-- these bytes, alone in a new block, till operation v comes up -/
  | own (l : List UInt8) (v : Nat)
  /-- a value that is so, till operation v comes up -/
  | wld (φ : WP) (v : Option Nat)
def Fact.isNew : Fact → Bool
  | .new _ => true | .box _ _ => true | .own _ _ => true | _ => false
def Fact.rdUsed (wt : Nat → Nat → Bool) (i : Nat) : Fact → Bool
  | .rd _ => false | .rdt _ v => wt i v | .own _ v => wt i v | .wld _ v => (v.map (wt i)).getD false | _ => true
def Fact.usedUp (wt : Nat → Nat → Bool) (i : Nat) : Fact → Bool
  | .tmp _ _ v => wt i v | .wld _ v => (v.map (wt i)).getD false | _ => true
def Fact.tgt : Fact → Option Nat
  | .sto g _ _ => some g | .cst g _ _ => some g | _ => none
def Fact.isSto (f : Fact) : Bool := f.tgt.isSome
def Fact.owner : Fact → Option Nat
  | .st a _ _ => some a | _ => none
def factAt (l : List Fact) (k : Nat) : Fact := (l[k]?).getD .any
theorem set_some {w : World} {g : Nat} (h : g < w.heap.size) (o : Nat) (v : Value) : ((w.setCell ⟨g, o, none⟩ v).heap[g]?) = some ((w.setCell ⟨g, o, none⟩ v).heap[g]'(by simpa using h)) := by
  rw [Array.getElem?_eq_getElem]
theorem some_lt {w : World} {g : Nat} {x : Obj} (h : w.heap[g]? = some x) : g < w.heap.size := (Array.getElem?_eq_some_iff.1 h).1
theorem set_congr {w w' : World} {g : Nat} (h : w.heap[g]? = w'.heap[g]?) (o : Nat) (v : Value) : (w.setCell ⟨g, o, none⟩ v).heap[g]? = (w'.setCell ⟨g, o, none⟩ v).heap[g]? := by
  simp [World.setCell, Array.getElem?_modify, h]
theorem set_other {w : World} {g x : Nat} (h : x ≠ g) (o : Nat) (v : Value) : (w.setCell ⟨g, o, none⟩ v).heap[x]? = w.heap[x]? := Below.heap_setCell _ _ _ _ h
def Holds (l : List Fact) (W0 : World) (k : Nat) (L : Nat → Bool) (u : Nat → Value) (w : World) : Prop :=
  match factAt l k with
  | .any => True
  | .val R xs => IsFs R (u k) xs
  | .ptr g o => u k = .pointer (some ⟨g, o, none⟩)
  | .new n => ∃ g, u k = .pointer (some ⟨g, 0, none⟩) ∧ W0.heap.size ≤ g ∧ 0 < n ∧ w.there g 0 n
  | .box R xs => ∃ g, u k = .pointer (some ⟨g, 0, none⟩) ∧ (W0.heap.size ≤ g ∧ g < w.heap.size) ∧ w.there g 0 (R.n * xs.length) ∧ HasFs R w g 0 xs
  | .st a R xs => ∃ g, u a = .pointer (some ⟨g, 0, none⟩) ∧ W0.heap.size ≤ g ∧ HasFs R w g 0 xs
  | .sto g R xs => g < W0.heap.size ∧ w.there g 0 (R.n * xs.length) ∧ HasFs R w g 0 xs
  | .cst g o v => g < W0.heap.size ∧ w.heap[g]? = (W0.setCell ⟨g, o, none⟩ v).heap[g]?
  | .oth φ => φ (u k)
  | .tmp n cs v => ∃ g, u k = .slice (some ⟨g, 0, none⟩) n n ∧ (L v = false → Blk w g cs 5)
  | .rd l => ∃ g n cap r, u k = .slice (some ⟨g, 0, none⟩) n cap ∧ W0.heap.size ≤ g ∧ Blk w g (l.map bV ++ r) 5 ∧ l.length = n ∧ n ≤ cap ∧ cap ≤ maxLen
  | .rdt l v => ∃ g n cap r, u k = .slice (some ⟨g, 0, none⟩) n cap ∧ W0.heap.size ≤ g ∧ l.length = n ∧ n ≤ cap ∧ cap ≤ maxLen ∧ (L v = false → Blk w g (l.map bV ++ r) 5)
  | .own l v => ∃ g cap, u k = .slice (some ⟨g, 0, none⟩) l.length cap ∧ W0.heap.size ≤ g ∧ g < w.heap.size ∧ (L v = false → w.ownsRow W0.heap.size 5 1 (.slice (some ⟨g, 0, none⟩) l.length cap) l.length (l.map bV))
  | .wld φ v => till L v → φ.P (u k) w
structure Keep (l : List Fact) (W0 : World) (L : Nat → Bool) (u : Nat → Value) (w : World) : Prop where
  os : w.os = W0.os
  tape : w.tape = W0.tape
  output : w.output = W0.output
  size : W0.heap.size ≤ w.heap.size
  block : ∀ b, b < W0.heap.size → (∀ k, (factAt l k).tgt = some b → L k = false) → w.heap[b]? = W0.heap[b]?
  apart : ∀ k k' g, k ≠ k' → L k = true → L k' = true → (factAt l k).isNew = true → (factAt l k').isNew = true → u k = .pointer (some ⟨g, 0, none⟩) → u k' ≠ .pointer (some ⟨g, 0, none⟩)
  own : ∀ k k' g n c n' c' l1 v1 l2 v2, k ≠ k' → factAt l k = .own l1 v1 → factAt l k' = .own l2 v2 → L k = true → L k' = true → L v1 = false → L v2 = false → u k = .slice (some ⟨g, 0, none⟩) n c → u k' ≠ .slice (some ⟨g, 0, none⟩) n' c'
theorem own_keep {w w' : World} {base E n m c g : Nat} {xs : List Value} (h : w.ownsRow base E 1 (.slice (some ⟨g, 0, none⟩) m c) n xs) (e : w'.heap[g]? = w.heap[g]?) : w'.ownsRow base E 1 (.slice (some ⟨g, 0, none⟩) m c) n xs := by
  obtain ⟨h1, h2⟩ := h
  refine ⟨h1, ?_⟩
  rcases h2 with h2 | ⟨g', cap, cur, hv, hg, hh, r⟩
  · exact .inl h2
  · refine .inr ⟨g', cap, cur, hv, hg, ?_, r⟩
    have hv2 := hv
    simp at hv2
    obtain ⟨rfl, _⟩ := hv2
    rw [e]; exact hh
def ownersOk (wt : Nat → Nat → Bool) (l : List Fact) : Bool := (List.range l.length).all fun k => ((factAt l k).owner.map fun a => wt k a && (factAt l a).isNew).getD true
theorem factAt_len {l : List Fact} {k : Nat} (h : l.length ≤ k) : factAt l k = .any := by simp [factAt, List.getElem?_eq_none h]
theorem ownersOk_spec {wt : Nat → Nat → Bool} {l : List Fact} (h : ownersOk wt l = true) {k a : Nat} {xs : List α} (hk : factAt l k = .st a R xs) : wt k a = true ∧ (factAt l a).isNew = true := by
  have hlt : k < l.length := by
    rcases Nat.lt_or_ge k l.length with h | h
    · exact h
    · rw [factAt_len h] at hk; cases hk
  unfold ownersOk at h
  rw [List.all_eq_true] at h
  have := h k (by simpa using hlt)
  simpa [hk, Fact.owner] using this
theorem holds_soft {wt : Nat → Nat → Bool} {l : List Fact} {W0 : World} (h : ownersOk wt l = true) : Soft wt (Holds l W0) where
  sup := fun k L u i v w hki hw hk => by
    unfold Holds at *
    cases hf : factAt l k with
    | any => trivial
    | val R xs => simp only [hf] at hk ⊢; rw [putV_ne hki]; exact hk
    | ptr g o => simp only [hf] at hk ⊢; rw [putV_ne hki]; exact hk
    | new n => simp only [hf] at hk ⊢; rw [putV_ne hki]; exact hk
    | box R xs => simp only [hf] at hk ⊢; rw [putV_ne hki]; exact hk
    | st a R xs => simp only [hf] at hk ⊢; rw [putV_ne (dep_ne (ownersOk_spec h hf).1 hw)]; exact hk
    | sto g R xs => simp only [hf] at hk ⊢; exact hk
    | cst g o v => simp only [hf] at hk ⊢; exact hk
    | oth φ => simp only [hf] at hk ⊢; rw [putV_ne hki]; exact hk
    | tmp n cs v => simp only [hf] at hk ⊢; rw [putV_ne hki]; obtain ⟨g, h1, h2⟩ := hk; exact ⟨g, h1, fun hl => h2 (putL_false hl)⟩
    | rd l => simp only [hf] at hk ⊢; rw [putV_ne hki]; exact hk
    | rdt l v => simp only [hf] at hk ⊢; rw [putV_ne hki]; obtain ⟨g, n, cap, r, h1, h2, h3, h4, h5, h6⟩ := hk; exact ⟨g, n, cap, r, h1, h2, h3, h4, h5, fun hl => h6 (putL_false hl)⟩
    | own l v => simp only [hf] at hk ⊢; rw [putV_ne hki]; obtain ⟨g, cap, h1, h2, h3, h4⟩ := hk; exact ⟨g, cap, h1, h2, h3, fun hl => h4 (putL_false hl)⟩
    | wld φ v => simp only [hf] at hk ⊢; rw [putV_ne hki]; exact fun hl => hk (till_putL hl)
  later := fun k L u w w' hb hk => by
    unfold Holds at *
    cases hf : factAt l k with
    | any => trivial
    | val R xs => simp only [hf] at hk ⊢; exact hk
    | ptr g o => simp only [hf] at hk ⊢; exact hk
    | new n => simp only [hf] at hk ⊢; obtain ⟨g, h1, h2, h3, h4⟩ := hk; exact ⟨g, h1, h2, h3, there_later h4 hb⟩
    | box R xs => simp only [hf] at hk ⊢; obtain ⟨g, h1, h2, h3, h4⟩ := hk; exact ⟨g, h1, ⟨h2.1, Nat.lt_of_lt_of_le h2.2 hb.size⟩, there_later h3 hb, h4.later hb⟩
    | st a R xs => simp only [hf] at hk ⊢; obtain ⟨g, h1, h2, h3⟩ := hk; exact ⟨g, h1, h2, h3.later hb⟩
    | sto g R xs => simp only [hf] at hk ⊢; exact ⟨hk.1, there_later hk.2.1 hb, hk.2.2.later hb⟩
    | cst g o v => simp only [hf] at hk ⊢; exact ⟨hk.1, by rw [hb.block g (some_lt (hk.2.trans (set_some hk.1 o v)))]; exact hk.2⟩
    | oth φ => simp only [hf] at hk ⊢; exact hk
    | tmp n cs v => simp only [hf] at hk ⊢; obtain ⟨g, h1, h2⟩ := hk; exact ⟨g, h1, fun hl => (h2 hl).below' hb⟩
    | rd l => simp only [hf] at hk ⊢; obtain ⟨g, n, cap, r, h1, h2, h3, h4⟩ := hk; exact ⟨g, n, cap, r, h1, h2, h3.below' hb, h4⟩
    | rdt l v => simp only [hf] at hk ⊢; obtain ⟨g, n, cap, r, h1, h2, h3, h4, h5, h6⟩ := hk; exact ⟨g, n, cap, r, h1, h2, h3, h4, h5, fun hl => (h6 hl).below' hb⟩
    | own l v => simp only [hf] at hk ⊢; obtain ⟨g, cap, h1, h2, h3, h4⟩ := hk; exact ⟨g, cap, h1, h2, Nat.lt_of_lt_of_le h3 hb.size, fun hl => own_below (h4 hl) hb⟩
    | wld φ v => simp only [hf] at hk ⊢; exact fun hl => φ.st _ _ _ (hk hl) hb
theorem Keep.start {l : List Fact} {W0 : World} {u : Nat → Value} : Keep l W0 (fun _ => false) u W0 :=
  ⟨rfl, rfl, rfl, Nat.le_refl _, fun _ _ _ => rfl, fun _ _ _ _ h => (by cases h), fun _ _ _ _ _ _ _ _ _ _ _ _ _ _ h => by cases h⟩
theorem Keep.drew {l : List Fact} {W0 : World} {u : Nat → Value} : Keep l W0 (fun _ => false) u W0.drew :=
  ⟨rfl, rfl, rfl, Nat.le_refl _, fun _ _ _ => rfl, fun _ _ _ _ h => (by cases h), fun _ _ _ _ _ _ _ _ _ _ _ _ _ _ h => by cases h⟩
theorem Keep.later {l : List Fact} {W0 w w' : World} {L : Nat → Bool} {u : Nat → Value} {i : Nat} {v : Value} (h : Keep l W0 L u w) (hb : Below w.heap.size w w') (hn : (factAt l i).isNew = false) : Keep l W0 (putL L i) (putV u i v) w' := by
  refine ⟨hb.os.trans h.os, hb.tape.trans h.tape, hb.output.trans h.output, Nat.le_trans h.size hb.size, fun b hlt hs => ?_, fun k k' g hne hk hk' n1 n2 e => ?_, fun k k' g n c n' c' l1 v1 l2 v2 hne hf hf' hk hk' hv hv' e => ?_⟩
  · have := h.size
    rw [hb.block b (by omega)]
    exact h.block b hlt (fun k hf => putL_false (hs k hf))
  · have h1 : k ≠ i := by rintro rfl; rw [n1] at hn; cases hn
    have h2 : k' ≠ i := by rintro rfl; rw [n2] at hn; cases hn
    rw [putL_ne h1] at hk
    rw [putL_ne h2] at hk'
    rw [putV_ne h1] at e
    rw [putV_ne h2]
    exact h.apart k k' g hne hk hk' n1 n2 e
  · have h1 : k ≠ i := by rintro rfl; rw [hf] at hn; cases hn
    have h2 : k' ≠ i := by rintro rfl; rw [hf'] at hn; cases hn
    rw [putL_ne h1] at hk
    rw [putL_ne h2] at hk'
    rw [putV_ne h1] at e
    rw [putV_ne h2]
    exact h.own k k' g n c n' c' l1 v1 l2 v2 hne hf hf' hk hk' (putL_false hv) (putL_false hv') e
theorem Holds.newlt {l : List Fact} {W0 w : World} {L : Nat → Bool} {u : Nat → Value} {k g : Nat} (h : Holds l W0 k L u w) (hn : (factAt l k).isNew = true) (e : u k = .pointer (some ⟨g, 0, none⟩)) : W0.heap.size ≤ g ∧ g < w.heap.size := by
  unfold Holds at h
  cases hf : factAt l k with
  | new n => simp only [hf] at h; obtain ⟨g', h1, h2, h3, h4⟩ := h; rw [e] at h1; simp at h1; subst h1; exact ⟨h2, there_lt h4 h3⟩
  | box R xs => simp only [hf] at h; obtain ⟨g', h1, h2, h3, h4⟩ := h; rw [e] at h1; simp at h1; subst h1; exact h2
  | own l' v' => simp only [hf] at h; obtain ⟨g', cap, h1, _⟩ := h; rw [e] at h1; cases h1
  | _ => rw [hf] at hn; cases hn
theorem Keep.new {l : List Fact} {W0 w w' : World} {L : Nat → Bool} {u : Nat → Value} {i : Nat} (h : Keep l W0 L u w) (hb : Below w.heap.size w w') (hH : ∀ k, L k = true → Holds l W0 k L u w) :
    Keep l W0 (putL L i) (putV u i (.pointer (some ⟨w.heap.size, 0, none⟩))) w' := by
  refine ⟨hb.os.trans h.os, hb.tape.trans h.tape, hb.output.trans h.output, Nat.le_trans h.size hb.size, fun b hlt hs => ?_, fun k k' g hne hk hk' n1 n2 e => ?_, fun k k' g n c n' c' l1 v1 l2 v2 hne hf hf' hk hk' hv hv' e => ?_⟩
  · have := h.size
    rw [hb.block b (by omega)]
    exact h.block b hlt (fun k hf => putL_false (hs k hf))
  rotate_left
  · by_cases h1 : k = i
    · subst h1; rw [putV_same] at e; cases e
    · by_cases h2 : k' = i
      · subst h2; rw [putV_same]; intro e2; cases e2
      · rw [putL_ne h1] at hk
        rw [putL_ne h2] at hk'
        rw [putV_ne h1] at e
        rw [putV_ne h2]
        exact h.own k k' g n c n' c' l1 v1 l2 v2 hne hf hf' hk hk' (putL_false hv) (putL_false hv') e
  · by_cases h1 : k = i
    · subst h1
      have h2 : k' ≠ k := fun e => hne e.symm
      rw [putV_same] at e
      simp at e
      rw [putL_ne h2] at hk'
      rw [putV_ne h2]
      intro e2
      have := (hH k' hk').newlt n2 e2
      omega
    · rw [putL_ne h1] at hk
      rw [putV_ne h1] at e
      by_cases h2 : k' = i
      · subst h2
        rw [putV_same]
        intro e2
        simp at e2
        have := (hH k hk).newlt n1 e
        omega
      · rw [putL_ne h2] at hk'
        rw [putV_ne h2]
        exact h.apart k k' g hne hk hk' n1 n2 e
theorem Keep.st {l : List Fact} {W0 w : World} {L : Nat → Bool} {u : Nat → Value} {i g : Nat} {v : Value} {cs : List Value} (h : Keep l W0 L u w) (hg : W0.heap.size ≤ g) (hn : (factAt l i).isNew = false) :
    Keep l W0 (putL L i) (putV u i v) (w.setCells g 0 cs) := by
  have hb : Below W0.heap.size w (w.setCells g 0 cs) := below_setCells hg _ _ _ (Below.refl _ _)
  have h0 := h.later (i := i) (v := v) (Below.refl _ _) hn
  exact ⟨hb.os.trans h0.os, hb.tape.trans h0.tape, hb.output.trans h0.output, Nat.le_trans h0.size hb.size, fun b hlt hs => by rw [hb.block b hlt]; exact h0.block b hlt hs, h0.apart, h0.own⟩
theorem Keep.upd {l : List Fact} {W0 w w' : World} {L : Nat → Bool} {u : Nat → Value} {i g : Nat} {v : Value} (h : Keep l W0 L u w) (hf : (factAt l i).tgt = some g) (hn : (factAt l i).isNew = false)
    (ho : w'.os = w.os) (ht : w'.tape = w.tape) (hu : w'.output = w.output) (hz : w.heap.size ≤ w'.heap.size) (hw : ∀ x, x ≠ g → w'.heap[x]? = w.heap[x]?) : Keep l W0 (putL L i) (putV u i v) w' := by
  have h0 := h.later (i := i) (v := v) (Below.refl _ _) hn
  refine ⟨ho.trans h0.os, ht.trans h0.tape, hu.trans h0.output, Nat.le_trans h0.size hz, fun b hlt hs => ?_, h0.apart, h0.own⟩
  have hne : b ≠ g := by
    rintro rfl
    have := hs i hf
    rw [putL_same] at this; cases this
  rw [hw _ hne]
  exact h0.block b hlt hs
theorem Keep.sto {l : List Fact} {W0 w : World} {L : Nat → Bool} {u : Nat → Value} {i g : Nat} {v : Value} {cs : List Value} {xs : List α} (h : Keep l W0 L u w) (hf : factAt l i = .sto g R xs) :
    Keep l W0 (putL L i) (putV u i v) (w.setCells g 0 cs) := by
  have hb : Below 0 w (w.setCells g 0 cs) := below_setCells (Nat.zero_le _) _ _ _ (Below.refl _ _)
  exact h.upd (by rw [hf]; rfl) (by rw [hf]; rfl) hb.os hb.tape hb.output hb.size (fun x hx => heap_setCells _ _ _ _ _ hx)
def onlyOwner (l : List Fact) (i a : Nat) : Bool := (List.range l.length).all fun k => decide (k = i) || !((factAt l k).owner == some a)
theorem onlyOwner_spec {l : List Fact} {i a k : Nat} {xs : List α} (h : onlyOwner l i a = true) (hf : factAt l k = .st a R xs) : k = i := by
  have hlt : k < l.length := by
    rcases Nat.lt_or_ge k l.length with h | h
    · exact h
    · rw [factAt_len h] at hf; cases hf
  unfold onlyOwner at h
  rw [List.all_eq_true] at h
  have := h k (by simpa using hlt)
  simpa [hf, Fact.owner] using this
theorem usedUp_spec {l : List Fact} {wt : Nat → Nat → Bool} {i k n v : Nat} {cs : List Value} (h : (l.all (Fact.usedUp wt i)) = true) (hf : factAt l k = .tmp n cs v) : wt i v = true := by
  have hlt : k < l.length := by
    rcases Nat.lt_or_ge k l.length with h | h
    · exact h
    · rw [factAt_len h] at hf; cases hf
  rw [List.all_eq_true] at h
  have h2 := h l[k] (List.getElem_mem hlt)
  have hk' : l[k]? = some l[k] := by simp [hlt]
  unfold factAt at hf
  rw [hk'] at hf
  simp only [Option.getD_some] at hf
  rw [hf] at h2
  exact h2
theorem usedUpF_spec {wt : Nat → Nat → Bool} {l : List Fact} {i k : Nat} {f : Fact} (h : (l.all (Fact.usedUp wt i)) = true) (hf : factAt l k = f) : Fact.usedUp wt i f = true := by
  subst hf
  rcases Nat.lt_or_ge k l.length with hlt | hge
  · rw [List.all_eq_true] at h
    have := h l[k] (List.getElem_mem hlt)
    unfold factAt
    rw [List.getElem?_eq_getElem hlt]
    exact this
  · rw [factAt_len hge]; rfl
theorem hasFs_apart {w : World} {g b o : Nat} {cs : List Value} {xs : List α} (h : HasFs R w b o xs) (hne : b ≠ g) : HasFs R (w.setCells g 0 cs) b o xs := h.blk (heap_setCells _ _ _ _ _ hne)
theorem hasFs_same {w : World} {g n : Nat} {cs : List Value} {xs : List α} (hc : Lims R xs cs) (ht : w.there g 0 n) (hn : cs.length ≤ n) : HasFs R (w.setCells g 0 cs) g 0 xs :=
  ⟨cs, hc, World.rangeAt_setCells_same _ _ _ _ (fun j hj => ht j (by omega))⟩
theorem rdUsed_spec {wt : Nat → Nat → Bool} {l : List Fact} {i k : Nat} {f : Fact} (h : (l.all (Fact.rdUsed wt i)) = true) (hf : factAt l k = f) : Fact.rdUsed wt i f = true := by
  subst hf
  rcases Nat.lt_or_ge k l.length with hlt | hge
  · rw [List.all_eq_true] at h
    have := h l[k] (List.getElem_mem hlt)
    unfold factAt
    rw [List.getElem?_eq_getElem hlt]
    exact this
  · rw [factAt_len hge]; rfl
theorem holds_st {l : List Fact} {wt : Nat → Nat → Bool} {W0 w : World} {L : Nat → Bool} {u : Nat → Value} {i a g k n : Nat} {cs : List Value} (hok : ownersOk wt l = true) (hcl : ∀ k d, L k = true → wt k d = true → L d = true)
    (hJ : Keep l W0 L u w) (ha : L a = true) (hn : factAt l a = .new n) (hu : u a = .pointer (some ⟨g, 0, none⟩)) (hg : W0.heap.size ≤ g) (hown : onlyOwner l i a = true) (hnr : (l.all (Fact.rdUsed wt i)) = true) (hup : (l.all (Fact.usedUp wt i)) = true) (hdep : ∀ d, wt i d = true → L d = true)
    (hk : L k = true) (hki : k ≠ i) (h : Holds l W0 k L u w) : Holds l W0 k L u (w.setCells g 0 cs) := by
  unfold Holds at *
  have hna : (factAt l a).isNew = true := by rw [hn]; rfl
  cases hf : factAt l k with
  | any => trivial
  | val R xs => simp only [hf] at h ⊢; exact h
  | ptr g o => simp only [hf] at h ⊢; exact h
  | new n => simp only [hf] at h ⊢; obtain ⟨q, h1, h2, h3, h4⟩ := h; exact ⟨q, h1, h2, h3, World.there_setCells h4 _ _ _⟩
  | box R xs =>
    simp only [hf] at h ⊢
    obtain ⟨q, h1, h2, h3, h4⟩ := h
    have hka : k ≠ a := by rintro rfl; rw [hn] at hf; cases hf
    have hne : q ≠ g := by
      rintro rfl
      exact hJ.apart k a q hka hk ha (by rw [hf]; rfl) hna h1 hu
    exact ⟨q, h1, by rw [size_setCells]; exact h2, World.there_setCells h3 _ _ _, hasFs_apart h4 hne⟩
  | st b R xs =>
    simp only [hf] at h ⊢
    obtain ⟨q, h1, h2, h3⟩ := h
    have hba : b ≠ a := by
      rintro rfl
      exact hki (onlyOwner_spec hown hf)
    have ho := ownersOk_spec hok hf
    have hne : q ≠ g := by
      rintro rfl
      exact hJ.apart b a q hba (hcl k b hk ho.1) ha ho.2 hna h1 hu
    exact ⟨q, h1, h2, hasFs_apart h3 hne⟩
  | sto b R xs => simp only [hf] at h ⊢; exact ⟨h.1, World.there_setCells h.2.1 _ _ _, hasFs_apart h.2.2 (by omega)⟩
  | cst b o v => simp only [hf] at h ⊢; exact ⟨h.1, by rw [heap_setCells _ _ _ _ _ (by omega)]; exact h.2⟩
  | oth φ => simp only [hf] at h ⊢; exact h
  | tmp n' cs' v => simp only [hf] at h ⊢; obtain ⟨q, h1, h2⟩ := h; exact ⟨q, h1, fun hl => by rw [hdep v (usedUp_spec hup hf)] at hl; cases hl⟩
  | rd l' => exact absurd (rdUsed_spec hnr hf) (by simp [Fact.rdUsed])
  | rdt l' v' =>
    simp only [hf] at h ⊢
    obtain ⟨q, n, cap, r, h1, h2, h3, h4, h5, h6⟩ := h
    exact ⟨q, n, cap, r, h1, h2, h3, h4, h5, fun hl => by rw [hdep v' (rdUsed_spec hnr hf)] at hl; cases hl⟩
  | own l' v' =>
    simp only [hf] at h ⊢
    obtain ⟨q, cap, h1, h2, h3, h4⟩ := h
    exact ⟨q, cap, h1, h2, by rw [size_setCells]; exact h3, fun hl => by rw [hdep v' (rdUsed_spec hnr hf)] at hl; cases hl⟩
  | wld φ v =>
    simp only [hf] at h ⊢
    intro hl
    have hu := usedUpF_spec hup hf
    cases v with
    | none => exact absurd hu (by simp [Fact.usedUp])
    | some v => have h1 := hl v rfl; rw [hdep v (by simpa [Fact.usedUp] using hu)] at h1; cases h1
theorem holds_upd {l : List Fact} {wt : Nat → Nat → Bool} {W0 w w' : World} {L : Nat → Bool} {u : Nat → Value} {g k i : Nat} (hup : (l.all (Fact.usedUp wt i)) = true) (hdep : ∀ d, wt i d = true → L d = true) (hg : g < W0.heap.size) (hone : (factAt l k).tgt ≠ some g)
    (hz : w.heap.size ≤ w'.heap.size) (hw : ∀ x, x ≠ g → w'.heap[x]? = w.heap[x]?) (h : Holds l W0 k L u w) : Holds l W0 k L u w' := by
  unfold Holds at *
  cases hf : factAt l k with
  | any => trivial
  | val R xs => simp only [hf] at h ⊢; exact h
  | ptr g o => simp only [hf] at h ⊢; exact h
  | new n => simp only [hf] at h ⊢; obtain ⟨q, h1, h2, h3, h4⟩ := h; exact ⟨q, h1, h2, h3, there_blk h4 (hw _ (by omega))⟩
  | box R xs => simp only [hf] at h ⊢; obtain ⟨q, h1, h2, h3, h4⟩ := h; exact ⟨q, h1, ⟨h2.1, Nat.lt_of_lt_of_le h2.2 hz⟩, there_blk h3 (hw _ (by omega)), h4.blk (hw _ (by omega))⟩
  | st b R xs => simp only [hf] at h ⊢; obtain ⟨q, h1, h2, h3⟩ := h; exact ⟨q, h1, h2, h3.blk (hw _ (by omega))⟩
  | sto b R xs =>
    simp only [hf] at h ⊢
    have hne : b ≠ g := by rintro rfl; exact hone (by rw [hf]; rfl)
    exact ⟨h.1, there_blk h.2.1 (hw _ hne), h.2.2.blk (hw _ hne)⟩
  | cst b o v =>
    simp only [hf] at h ⊢
    have hne : b ≠ g := by rintro rfl; exact hone (by rw [hf]; rfl)
    exact ⟨h.1, by rw [hw _ hne]; exact h.2⟩
  | oth φ => simp only [hf] at h ⊢; exact h
  | tmp n' cs' v => simp only [hf] at h ⊢; obtain ⟨q, h1, h2⟩ := h; exact ⟨q, h1, fun hl => by rw [hdep v (usedUp_spec hup hf)] at hl; cases hl⟩
  | rd l' =>
    simp only [hf] at h ⊢
    obtain ⟨q, n, cap, r, h1, h2, h3, h4⟩ := h
    exact ⟨q, n, cap, r, h1, h2, blk_keep h3 (hw _ (by omega)), h4⟩
  | rdt l' v' =>
    simp only [hf] at h ⊢
    obtain ⟨q, n, cap, r, h1, h2, h3, h4, h5, h6⟩ := h
    exact ⟨q, n, cap, r, h1, h2, h3, h4, h5, fun hl => blk_keep (h6 hl) (hw _ (by omega))⟩
  | own l' v' =>
    simp only [hf] at h ⊢
    obtain ⟨q, cap, h1, h2, h3, h4⟩ := h
    exact ⟨q, cap, h1, h2, Nat.lt_of_lt_of_le h3 hz, fun hl => own_keep (h4 hl) (hw _ (by omega))⟩
  | wld φ v =>
    simp only [hf] at h ⊢
    intro hl
    have hu := usedUpF_spec hup hf
    cases v with
    | none => exact absurd hu (by simp [Fact.usedUp])
    | some v => have h1 := hl v rfl; rw [hdep v (by simpa [Fact.usedUp] using hu)] at h1; cases h1
theorem Keep.below {l : List Fact} {W0 w : World} {L : Nat → Bool} {u : Nat → Value} (h : Keep l W0 L u w) {B : Nat} (hB : B ≤ W0.heap.size) (hs : ∀ k b, (factAt l k).tgt = some b → B ≤ b) : Below B W0 w :=
  ⟨h.os, h.tape, h.output, h.size, fun b hb => h.block b (by omega) (fun k hf => by have := hs k b hf; omega)⟩
theorem Keep.all {l : List Fact} {W0 w : World} {L : Nat → Bool} {u : Nat → Value} (h : Keep l W0 L u w) (hs : (l.any Fact.isSto) = false) : Below W0.heap.size W0 w :=
  h.below (Nat.le_refl _) (fun k b hf => by
    have hlt : k < l.length := by
      rcases Nat.lt_or_ge k l.length with h | h
      · exact h
      · rw [factAt_len h] at hf; cases hf
    rw [List.any_eq_false] at hs
    have hk : l[k]? = some l[k] := by simp [hlt]
    have h2 := hs l[k] (List.getElem_mem hlt)
    unfold factAt at hf
    rw [hk] at hf
    simp only [Option.getD_some] at hf
    unfold Fact.isSto at h2
    rw [hf] at h2
    exact absurd rfl h2)
structure TyOk {α : Type} (R : Rp α) (ty : TypeId) (m : Nat) : Prop where
  row : ∃ d, Tryz.prog.underlying ty = some d ∧ d.isRow = true
  size : (Tryz.prog.info? ty).map (·.size) = some (R.n * m)
def noSto (wt : Nat → Nat → Bool) (l : List Fact) (i : Nat) : Bool := (List.range l.length).all fun k => !(factAt l k).isSto || wt k i
theorem noSto_spec {wt : Nat → Nat → Bool} {l : List Fact} {i k g : Nat} (h : noSto wt l i = true) (hf : (factAt l k).tgt = some g) : wt k i = true := by
  have hlt : k < l.length := by
    rcases Nat.lt_or_ge k l.length with h | h
    · exact h
    · rw [factAt_len h] at hf; cases hf
  unfold noSto at h
  rw [List.all_eq_true] at h
  have := h k (by simpa using hlt)
  simpa [hf, Fact.isSto] using this
def Apart (wt : Nat → Nat → Bool) (l : List Fact) (i b : Nat) : Prop := ∀ k g, (factAt l k).tgt = some g → wt k i = true ∨ g ≠ b
theorem noSto_apart {wt : Nat → Nat → Bool} {l : List Fact} {i b : Nat} (h : noSto wt l i = true) : Apart wt l i b := fun _ _ hf => .inl (noSto_spec h hf)
section
variable {α : Type} {R : Rp α} {ops : Array Oper} {wt : Nat → Nat → Bool} {Q : Exit → Act → World → Prop} {fr : (Nat → Value) → Array Value} {df : List Deferred} {l : List Fact} {W0 : World} {i : Nat} {o : Oper}
def Gives {α : Type} (R : Rp α) (wt : Nat → Nat → Bool) (fr : (Nat → Value) → Array Value) (df : List Deferred) (l : List Fact) (W0 : World) (i : Nat) (x : Operand) (xs : List α) : Prop :=
  ∀ L u w, (∀ k, L k = true → Holds l W0 k L u w) → (∀ d, wt i d = true → L d = true) → IsFs R ((⟨fr u, df⟩ : Act).eval x) xs
theorem gives_op {x : Operand} {xs : List α} (j : Nat) (hj : factAt l j = .val R xs) (hw : wt i j = true) (hx : ∀ u, (⟨fr u, df⟩ : Act).eval x = u j) : Gives R wt fr df l W0 i x xs := fun L u w hG hd => by
  have := hG j (hd j hw)
  unfold Holds at this
  rw [hj] at this
  rw [hx u]; exact this
theorem gives_c {x : Operand} {xs : List α} {v : Value} (hv : IsFs R v xs) (hx : ∀ u, (⟨fr u, df⟩ : Act).eval x = v) : Gives R wt fr df l W0 i x xs := fun L u w hG hd => by rw [hx u]; exact hv
theorem Gives.h {x : Operand} {xs : List α} (h : Gives R wt fr df l W0 i x xs) {L : Nat → Bool} {u : Nat → Value} {w : World} (hG : ∀ k, L k = true → Holds l W0 k L u w) (hd : ∀ d, wt i d = true → L d = true) : IsFs R ((⟨fr u, df⟩ : Act).eval x) xs := h L u w hG hd
theorem holds_val {xs : List α} (hf : factAt l i = .val R xs) {L : Nat → Bool} {u : Nat → Value} {w : World} {v : Value} (h : IsFs R v xs) : Holds l W0 i L (putV u i v) w := by
  unfold Holds; rw [hf]; simp only; rw [putV_same]; exact h
theorem holds_any (hf : factAt l i = .any) {L : Nat → Bool} {u : Nat → Value} {w : World} : Holds l W0 i L u w := by
  unfold Holds; rw [hf]; trivial
theorem isNew_val {xs : List α} (hf : factAt l i = .val R xs) : (factAt l i).isNew = false := by rw [hf]; rfl
theorem step_load_at {ty : TypeId} {x : Operand} {xs : List α} (hs : Soft wt (Holds l W0)) (hg : Wants ops wt fr (Holds l W0) i o true) (ho : o.op = .load ty x) (hf : factAt l i = .val R xs) (hT : TyOk R ty xs.length) (b off : Nat)
    (hx : ∀ L u w, (∀ k, L k = true → Holds l W0 k L u w) → (∀ d, wt i d = true → L d = true) → (⟨fr u, df⟩ : Act).eval x = .pointer (some ⟨b, off, none⟩)) (hb : b < W0.heap.size) (h : HasFs R W0 b off xs) (hno : Apart wt l i b) :
    StepAt Tryz.prog ops wt Q fr df (Holds l W0) (Keep l W0) i o := by
  refine StepAt.soft hs hg fun L u W hcl hJ hG hL hdep K hK => ?_
  have hblk := hJ.block b hb (fun k hk => by
    cases hLk : L k with
    | false => rfl
    | true =>
      rcases hno k b hk with h1 | h1
      · rw [hcl k i hLk h1] at hL; cases hL
      · exact absurd rfl h1)
  obtain ⟨cs, hc, hr⟩ := h.blk hblk
  obtain ⟨d, hd1, hd2⟩ := hT.row
  exact wp_load_mid ty x ho b off (hx L u W hG hdep) cs d hr hd1 hd2 (by rw [hT.size, hc.len]) (hK.out _ _ (Below.refl _ _) (hJ.later (Below.refl _ _) (isNew_val hf)) (holds_val hf ⟨cs, rfl, hc⟩))
theorem step_load {ty : TypeId} {x : Operand} {xs : List α} (b off : Nat) (hs : Soft wt (Holds l W0)) (hg : Wants ops wt fr (Holds l W0) i o true) (ho : o.op = .load ty x) (hf : factAt l i = .val R xs) (hT : TyOk R ty xs.length)
    (hx : ∀ u, (⟨fr u, df⟩ : Act).eval x = .pointer (some ⟨b, off, none⟩)) (hb : b < W0.heap.size) (h : HasFs R W0 b off xs) (hno : Apart wt l i b) :
    StepAt Tryz.prog ops wt Q fr df (Holds l W0) (Keep l W0) i o := step_load_at hs hg ho hf hT b off (fun _ u _ _ _ => hx u) hb h hno
theorem step_loadF {ty : TypeId} {x : Operand} {xs : List α} (j b off : Nat) (hs : Soft wt (Holds l W0)) (hg : Wants ops wt fr (Holds l W0) i o true) (ho : o.op = .load ty x) (hf : factAt l i = .val R xs) (hT : TyOk R ty xs.length)
    (hx : ∀ u, (⟨fr u, df⟩ : Act).eval x = u j) (hj : factAt l j = .ptr b off) (hw : wt i j = true) (hb : b < W0.heap.size) (h : HasFs R W0 b off xs) (hno : Apart wt l i b) :
    StepAt Tryz.prog ops wt Q fr df (Holds l W0) (Keep l W0) i o := step_load_at hs hg ho hf hT b off (fun L u w hG hd => by
      have := hG j (hd j hw)
      unfold Holds at this
      rw [hj] at this
      rw [hx u]; exact this) hb h hno
theorem step_field {s : TypeId} {x : Operand} {f b off off' : Nat} (hs : Soft wt (Holds l W0)) (hg : Wants ops wt fr (Holds l W0) i o true) (ho : o.op = .fieldAddr s x f) (hf : factAt l i = .ptr b off')
    (hx : ∀ u, (⟨fr u, df⟩ : Act).eval x = .pointer (some ⟨b, off, none⟩)) (hr : ∀ w, (Instr.fieldAt s (.pointer (some ⟨b, off, none⟩)) f).run Tryz.prog w = .ok (.pointer (some ⟨b, off', none⟩)) w) :
    StepAt Tryz.prog ops wt Q fr df (Holds l W0) (Keep l W0) i o := by
  refine StepAt.soft hs hg fun L u W hcl hJ hG hL hdep K hK => ?_
  unfold Oper.wp execOp
  simp only [ho, hx u, Sem.run_bind, hr, Result.andThen_ok, Sem.run_pure, Oper.upon_value]
  refine hK.out _ _ (Below.refl _ _) (hJ.later (Below.refl _ _) (by rw [hf]; rfl)) ?_
  unfold Holds; rw [hf]; simp only; rw [putV_same]
theorem step_alloc {ty : TypeId} {n : Nat} {zs : Array Value} (hs : Soft wt (Holds l W0)) (hg : Wants ops wt fr (Holds l W0) i o true) (ho : o.op = .alloc ty) (hf : factAt l i = .new n) (hn : 0 < n) (hz : zs.size = n)
    (hr : ∀ w, (Instr.alloc ty true (.tuple #[])).run Tryz.prog w = .ok (.pointer (some ⟨w.heap.size, 0, none⟩)) (w.alloc (.cells zs ty))) :
    StepAt Tryz.prog ops wt Q fr df (Holds l W0) (Keep l W0) i o := by
  refine StepAt.soft hs hg fun L u W hcl hJ hG hL hdep K hK => ?_
  unfold Oper.wp execOp
  simp only [ho, Sem.run_bind, hr, Result.andThen_ok, Sem.run_pure, Oper.upon_value]
  have hb : Below W.heap.size W (W.alloc (.cells zs ty)) := (Below.refl _ _).alloc (Nat.le_refl _) _
  refine hK.out _ _ hb (hJ.new hb hG) ?_
  unfold Holds; rw [hf]; simp only; rw [putV_same]
  refine ⟨_, rfl, hJ.size, hn, fun j hj => ?_⟩
  have hB := Blk.new W zs ty
  rw [Nat.zero_add, hB.cell, hB.frozen, List.getElem?_eq_getElem (by simp; omega)]
  exact ⟨rfl, rfl⟩
theorem run_box (ty : TypeId) (cs : Array Value) (w : World) : (Instr.box ty (.agg cs)).run Tryz.prog w = .ok (.pointer (some ⟨w.heap.size, 0, none⟩)) (w.alloc (.cells cs ty)) := rfl
theorem step_box {ty : TypeId} {x : Operand} {y : α} {xs : List α} (hs : Soft wt (Holds l W0)) (hg : Wants ops wt fr (Holds l W0) i o true) (ho : o.op = .box ty x) (hf : factAt l i = .box R (y :: xs)) (hx : Gives R wt fr df l W0 i x (y :: xs)) :
    StepAt Tryz.prog ops wt Q fr df (Holds l W0) (Keep l W0) i o := by
  refine StepAt.soft hs hg fun L u W hcl hJ hG hL hdep K hK => ?_
  obtain ⟨cs, he, hc⟩ := hx.h hG hdep
  unfold Oper.wp execOp
  simp only [ho, he, Sem.run_bind, run_box, Result.andThen_ok, Sem.run_pure, Oper.upon_value]
  have hb : Below W.heap.size W (W.alloc (.cells cs.toArray ty)) := (Below.refl _ _).alloc (Nat.le_refl _) _
  refine hK.out _ _ hb (hJ.new hb hG) ?_
  unfold Holds; rw [hf]; simp only; rw [putV_same]
  have hB := Blk.new W cs.toArray ty
  have hl : 0 < cs.length := by rw [hc.len]; exact Nat.mul_pos R.pos (by simp)
  refine ⟨_, rfl, ⟨hJ.size, by simp⟩, fun j hj => ?_, cs, hc, fun j v hv => ?_⟩
  · have hlen := hc.len
    rw [Nat.zero_add, hB.cell, hB.frozen, List.getElem?_eq_getElem (by show j < cs.length; omega)]
    exact ⟨rfl, rfl⟩
  · rw [Nat.zero_add, hB.cell]; simpa using hv
theorem step_allocZ {ty : TypeId} {y : α} {xs : List α} {zs : List Value} (hs : Soft wt (Holds l W0)) (hg : Wants ops wt fr (Holds l W0) i o true) (ho : o.op = .alloc ty) (hf : factAt l i = .box R (y :: xs)) (hz : Lims R (y :: xs) zs)
    (hr : ∀ w, (Instr.alloc ty true (.tuple #[])).run Tryz.prog w = .ok (.pointer (some ⟨w.heap.size, 0, none⟩)) (w.alloc (.cells zs.toArray ty))) :
    StepAt Tryz.prog ops wt Q fr df (Holds l W0) (Keep l W0) i o := by
  refine StepAt.soft hs hg fun L u W hcl hJ hG hL hdep K hK => ?_
  unfold Oper.wp execOp
  simp only [ho, Sem.run_bind, hr, Result.andThen_ok, Sem.run_pure, Oper.upon_value]
  have hb : Below W.heap.size W (W.alloc (.cells zs.toArray ty)) := (Below.refl _ _).alloc (Nat.le_refl _) _
  refine hK.out _ _ hb (hJ.new hb hG) ?_
  unfold Holds; rw [hf]; simp only; rw [putV_same]
  have hB := Blk.new W zs.toArray ty
  refine ⟨_, rfl, ⟨hJ.size, by simp⟩, fun j hj => ?_, zs, hz, fun j v hv => ?_⟩
  · have hlen := hz.len
    rw [Nat.zero_add, hB.cell, hB.frozen, List.getElem?_eq_getElem (by show j < zs.length; omega)]
    exact ⟨rfl, rfl⟩
  · rw [Nat.zero_add, hB.cell]; simpa using hv
theorem step_store {ty : TypeId} {x y : Operand} {xs : List α} {n : Nat} (a : Nat) (hs : Soft wt (Holds l W0)) (hok : ownersOk wt l = true) (hg : Wants ops wt fr (Holds l W0) i o true) (ho : o.op = .store ty x y) (hf : factAt l i = .st a R xs) (ha : factAt l a = .new n) (hw : wt i a = true)
    (hown : onlyOwner l i a = true) (hnr : (l.all (Fact.rdUsed wt i)) = true) (hup : (l.all (Fact.usedUp wt i)) = true) (hx : ∀ u, (⟨fr u, df⟩ : Act).eval x = u a) (hy : Gives R wt fr df l W0 i y xs) (hT : TyOk R ty xs.length) (hn : R.n * xs.length = n) :
    StepAt Tryz.prog ops wt Q fr df (Holds l W0) (Keep l W0) i o := by
  refine StepAt.hard hs hg fun L u W hcl hJ hG hL hdep K hK => ?_
  obtain ⟨cs, he, hc⟩ := hy.h hG hdep
  have h := hG a (hdep a hw)
  unfold Holds at h
  rw [ha] at h
  obtain ⟨g, h1, h2, h3, h4⟩ := h
  have hl : cs.length = n := by rw [hc.len, hn]
  refine wp_store_mid ty x y ho g 0 cs.toArray (by rw [hx u]; exact h1) he (fun j hj => h4 j (by simp at hj; omega)) (by rw [hT.size]; simp [hc.len]) (all_oneCell_toArray hc.one) ?_
  have hai : a ≠ i := by rintro rfl; rw [ha] at hf; cases hf
  refine hK.out _ _ (hJ.st h2 (by rw [hf]; rfl)) (fun k hk hki _ hh => holds_st hok hcl hJ (hdep a hw) ha h1 h2 hown hnr hup hdep hk hki hh) ?_
  unfold Holds; rw [hf]; simp only; rw [putV_ne hai]
  exact ⟨g, h1, h2, hasFs_same hc h4 (by omega)⟩
theorem step_storeO {ty : TypeId} {x y : Operand} {xs : List α} (b n : Nat) (hs : Soft wt (Holds l W0)) (hg : Wants ops wt fr (Holds l W0) i o true) (ho : o.op = .store ty x y) (hf : factAt l i = .sto b R xs) (hup : (l.all (Fact.usedUp wt i)) = true)
    (hone : ∀ k, k ≠ i → (factAt l k).tgt ≠ some b) (hx : ∀ u, (⟨fr u, df⟩ : Act).eval x = .pointer (some ⟨b, 0, none⟩)) (hb : b < W0.heap.size) (ht : W0.there b 0 n) (hy : Gives R wt fr df l W0 i y xs) (hT : TyOk R ty xs.length) (hn : R.n * xs.length = n) :
    StepAt Tryz.prog ops wt Q fr df (Holds l W0) (Keep l W0) i o := by
  refine StepAt.hard hs hg fun L u W hcl hJ hG hL hdep K hK => ?_
  obtain ⟨cs, he, hc⟩ := hy.h hG hdep
  have hblk := hJ.block b hb (fun k hk => by
    by_cases hki : k = i
    · subst hki; exact hL
    · exact absurd hk (hone k hki))
  have ht' := there_blk ht hblk
  have hl : cs.length = n := by rw [hc.len, hn]
  refine wp_store_mid ty x y ho b 0 cs.toArray (hx u) he (fun j hj => ht' j (by simp at hj; omega)) (by rw [hT.size]; simp [hc.len]) (all_oneCell_toArray hc.one) ?_
  refine hK.out _ _ (hJ.sto hf) (fun k hk hki _ hh => holds_upd hup hdep hb (hone k hki) (Nat.le_of_eq (size_setCells _ _ _ _).symm) (fun x hx => heap_setCells _ _ _ _ _ hx) hh) ?_
  unfold Holds; rw [hf]; simp only
  exact ⟨hb, by rw [hn]; exact World.there_setCells ht' _ _ _, hasFs_same hc ht' (by omega)⟩
theorem step_cst {ty : TypeId} {x y : Operand} {v old : Value} (b off : Nat) (hs : Soft wt (Holds l W0)) (hg : Wants ops wt fr (Holds l W0) i o true) (ho : o.op = .store ty x y) (hf : factAt l i = .cst b off v) (hup : (l.all (Fact.usedUp wt i)) = true)
    (hone : ∀ k, k ≠ i → (factAt l k).tgt ≠ some b) (hr : ∀ w : World, w.cell? ⟨b, off, none⟩ = some old → w.frozen? ⟨b, off, none⟩ = false → (Instr.storeAt ty (.pointer (some ⟨b, off, none⟩)) v).run Tryz.prog w = .ok () (w.setCell ⟨b, off, none⟩ v))
    (hx : ∀ L u w, (∀ k, L k = true → Holds l W0 k L u w) → (∀ d, wt i d = true → L d = true) → (⟨fr u, df⟩ : Act).eval x = .pointer (some ⟨b, off, none⟩))
    (hy : ∀ L u w, (∀ k, L k = true → Holds l W0 k L u w) → (∀ d, wt i d = true → L d = true) → (⟨fr u, df⟩ : Act).eval y = v)
    (hc : W0.cell? ⟨b, off, none⟩ = some old) (hz : W0.frozen? ⟨b, off, none⟩ = false) :
    StepAt Tryz.prog ops wt Q fr df (Holds l W0) (Keep l W0) i o := by
  have hb : b < W0.heap.size := cell_lt hc
  refine StepAt.hard hs hg fun L u W hcl hJ hG hL hdep K hK => ?_
  have hblk := hJ.block b hb (fun k hk => by
    by_cases hki : k = i
    · subst hki; exact hL
    · exact absurd hk (hone k hki))
  have hc' : W.cell? ⟨b, off, none⟩ = some old := by rw [World.cell?_of_block (w := W0) hblk]; exact hc
  have hz' : W.frozen? ⟨b, off, none⟩ = false := by rw [World.frozen?_of_block (w := W0) hblk]; exact hz
  have hrun : (execOp (⟨fr u, df⟩ : Act).eval o).run Tryz.prog W = .ok .skip (W.setCell ⟨b, off, none⟩ v) := by
    unfold execOp
    simp only [ho, hx L u W hG hdep, hy L u W hG hdep]
    simp [hr W hc' hz']
  unfold Oper.wp
  rw [hrun]
  refine hK.out _ _ (hJ.upd (by rw [hf]; rfl) (by rw [hf]; rfl) rfl rfl rfl (by simp) (fun x hx => set_other hx _ _)) (fun k hk hki _ hh => holds_upd hup hdep hb (hone k hki) (by simp) (fun x hx => set_other hx _ _) hh) ?_
  unfold Holds; rw [hf]; simp only
  exact ⟨hb, set_congr hblk _ _⟩
theorem step_pure {xs : List α} (hs : Soft wt (Holds l W0)) (hg : Wants ops wt fr (Holds l W0) i o true) (hf : factAt l i = .val R xs)
    (h : ∀ L u w, (∀ k, L k = true → Holds l W0 k L u w) → (∀ d, wt i d = true → L d = true) → ∃ v, (execOp (⟨fr u, df⟩ : Act).eval o).run Tryz.prog w = .ok (.value v) w ∧ IsFs R v xs) :
    StepAt Tryz.prog ops wt Q fr df (Holds l W0) (Keep l W0) i o := by
  refine StepAt.soft hs hg fun L u W hcl hJ hG hL hdep K hK => ?_
  obtain ⟨v, hv, hx⟩ := h L u W hG hdep
  unfold Oper.wp
  rw [hv]
  exact hK.out _ _ (Below.refl _ _) (hJ.later (Below.refl _ _) (isNew_val hf)) (holds_val hf hx)
theorem run_build0 {ev : Operand → Value} {o : Oper} {t : TypeId} {xs : List α} {w : World} (ho : o.op = .build t #[]) (h : ∃ r, (Instr.build t #[]).run Tryz.prog w = .ok r w ∧ IsFs R r xs) :
    ∃ v, (execOp ev o).run Tryz.prog w = .ok (.value v) w ∧ IsFs R v xs := by
  obtain ⟨r, hr, hx⟩ := h
  refine ⟨r, ?_, hx⟩
  unfold execOp
  simp only [ho]
  simp [hr]
theorem step_moveB {bs : List UInt8} {x : Operand} (j : Nat) (hs : Soft wt (Holds l W0)) (hg : Wants ops wt fr (Holds l W0) i o true) (hf : factAt l i = .rd bs) (ho : o.op = .move x ∨ o.op = .assign x) (hj : factAt l j = .rd bs) (hw : wt i j = true)
    (hx : ∀ u, (⟨fr u, df⟩ : Act).eval x = u j) : StepAt Tryz.prog ops wt Q fr df (Holds l W0) (Keep l W0) i o := by
  refine StepAt.soft hs hg fun L u W hcl hJ hG hL hdep K hK => ?_
  have hr : (execOp (⟨fr u, df⟩ : Act).eval o).run Tryz.prog W = .ok (.value (u j)) W := by
    unfold execOp
    rcases ho with ho | ho <;> (simp only [ho, hx]; rfl)
  unfold Oper.wp
  rw [hr]
  refine hK.out _ _ (Below.refl _ _) (hJ.later (Below.refl _ _) (by rw [hf]; rfl)) ?_
  have h := hG j (hdep j hw)
  unfold Holds at h ⊢
  rw [hj] at h
  rw [hf]
  simp only at h ⊢
  rw [putV_same]; exact h
theorem run_build3 {ev : Operand → Value} {o : Oper} {t : TypeId} {x y z : Operand} {r : Value} {w : World} (ho : o.op = .build t #[(0, x), (1, y), (2, z)]) (h : (Instr.build t #[(0, ev x), (1, ev y), (2, ev z)]).run Tryz.prog w = .ok r w) :
    (execOp ev o).run Tryz.prog w = .ok (.value r) w := by
  unfold execOp
  simp only [ho]
  simp [h]
theorem run_build4 {ev : Operand → Value} {o : Oper} {t : TypeId} {x y z v : Operand} {r : Value} {w : World} (ho : o.op = .build t #[(0, x), (1, y), (2, z), (3, v)]) (h : (Instr.build t #[(0, ev x), (1, ev y), (2, ev z), (3, ev v)]).run Tryz.prog w = .ok r w) :
    (execOp ev o).run Tryz.prog w = .ok (.value r) w := by
  unfold execOp
  simp only [ho]
  simp [h]
theorem step_callO {φ : Value → Prop} (hs : Soft wt (Holds l W0)) (hg : Wants ops wt fr (Holds l W0) i o true) (hf : factAt l i = .oth φ)
    (h : ∀ L u w, Keep l W0 L u w → (∀ k, L k = true → Holds l W0 k L u w) → L i = false → (∀ d, wt i d = true → L d = true) → ∀ K : Act → World → Prop, Shut (∀ v w', φ v → Below w.heap.size w w' → K ((⟨fr u, df⟩ : Act).put o.dst v) w') → Oper.wp Tryz.prog o ⟨fr u, df⟩ w K Q) :
    StepAt Tryz.prog ops wt Q fr df (Holds l W0) (Keep l W0) i o :=
  StepAt.soft hs hg fun L u W _ hJ hG hL hdep K hK => h L u W hJ hG hL hdep K (fun v w' hv hb => hK.out v w' hb (hJ.later hb (by rw [hf]; rfl)) (by unfold Holds; rw [hf]; simp only; rw [putV_same]; exact hv))
theorem step_callT {n v : Nat} {cs : List Value} (hs : Soft wt (Holds l W0)) (hg : Wants ops wt fr (Holds l W0) i o true) (hf : factAt l i = .tmp n cs v)
    (h : ∀ L u w, Keep l W0 L u w → (∀ k, L k = true → Holds l W0 k L u w) → L i = false → (∀ d, wt i d = true → L d = true) → ∀ K : Act → World → Prop,
      Shut (∀ g w', Blk w' g cs 5 → Below w.heap.size w w' → K ((⟨fr u, df⟩ : Act).put o.dst (.slice (some ⟨g, 0, none⟩) n n)) w') → Oper.wp Tryz.prog o ⟨fr u, df⟩ w K Q) :
    StepAt Tryz.prog ops wt Q fr df (Holds l W0) (Keep l W0) i o :=
  StepAt.soft hs hg fun L u W _ hJ hG hL hdep K hK => h L u W hJ hG hL hdep K (fun g w' h1 hb => hK.out _ w' hb (hJ.later hb (by rw [hf]; rfl)) (by
    unfold Holds; rw [hf]; simp only; rw [putV_same]
    exact ⟨g, rfl, fun _ => h1⟩))
theorem step_callB {bs : List UInt8} (hs : Soft wt (Holds l W0)) (hg : Wants ops wt fr (Holds l W0) i o true) (hf : factAt l i = .rd bs)
    (h : ∀ L u w, Keep l W0 L u w → (∀ k, L k = true → Holds l W0 k L u w) → L i = false → (∀ d, wt i d = true → L d = true) → ∀ K : Act → World → Prop,
      Shut (∀ g n cap r w', w.heap.size ≤ g → Blk w' g (bs.map bV ++ r) 5 → bs.length = n → n ≤ cap → cap ≤ maxLen → Below w.heap.size w w' → K ((⟨fr u, df⟩ : Act).put o.dst (.slice (some ⟨g, 0, none⟩) n cap)) w') → Oper.wp Tryz.prog o ⟨fr u, df⟩ w K Q) :
    StepAt Tryz.prog ops wt Q fr df (Holds l W0) (Keep l W0) i o :=
  StepAt.soft hs hg fun L u W _ hJ hG hL hdep K hK => h L u W hJ hG hL hdep K (fun g n cap r w' h1 h2 h3 h4 h5 hb => hK.out _ w' hb (hJ.later hb (by rw [hf]; rfl)) (by
    unfold Holds; rw [hf]; simp only; rw [putV_same]
    exact ⟨g, n, cap, r, rfl, Nat.le_trans hJ.size h1, h2, h3, h4, h5⟩))
theorem step_pureO {φ : Value → Prop} (hs : Soft wt (Holds l W0)) (hg : Wants ops wt fr (Holds l W0) i o true) (hf : factAt l i = .oth φ)
    (h : ∀ L u w, (∀ k, L k = true → Holds l W0 k L u w) → (∀ d, wt i d = true → L d = true) → ∃ v, (execOp (⟨fr u, df⟩ : Act).eval o).run Tryz.prog w = .ok (.value v) w ∧ φ v) :
    StepAt Tryz.prog ops wt Q fr df (Holds l W0) (Keep l W0) i o := by
  refine StepAt.soft hs hg fun L u W hcl hJ hG hL hdep K hK => ?_
  obtain ⟨v, hv, hx⟩ := h L u W hG hdep
  unfold Oper.wp
  rw [hv]
  exact hK.out _ _ (Below.refl _ _) (hJ.later (Below.refl _ _) (by rw [hf]; rfl)) (by unfold Holds; rw [hf]; simp only; rw [putV_same]; exact hx)
theorem wants_on {b : Bool} (j : Nat) (hgd : o.guard = some (j, b)) (hj : factAt l j = .oth (fun v => v = .bool b)) (hw : wt i j = true) (hy : ∀ u, ((ops[j]?).bind (·.dst)).bind ((fr u)[·]?) = some (u j)) : Wants ops wt fr (Holds l W0) i o true := fun L u w hG hd => by
  have h := hG j (hd j hw)
  unfold Holds at h
  rw [hj] at h
  simp only at h
  simp [Region.wanted, hgd, yielded, hy, h]
theorem wants_off {b c : Bool} (j : Nat) (hbc : (b == c) = false) (hgd : o.guard = some (j, b)) (hj : factAt l j = .oth (fun v => v = .bool c)) (hw : wt i j = true) (hy : ∀ u, ((ops[j]?).bind (·.dst)).bind ((fr u)[·]?) = some (u j)) : Wants ops wt fr (Holds l W0) i o false := fun L u w hG hd => by
  have h := hG j (hd j hw)
  unfold Holds at h
  rw [hj] at h
  simp only at h
  cases b <;> cases c <;> simp_all [Region.wanted, yielded]
theorem step_out (hs : Soft wt (Holds l W0)) (hg : Wants ops wt fr (Holds l W0) i o false) (hf : factAt l i = .any) : StepAt Tryz.prog ops wt Q fr df (Holds l W0) (Keep l W0) i o :=
  StepAt.out hs hg fun L u w hJ _ _ => ⟨hJ.later (Below.refl _ _) (by rw [hf]; rfl), holds_any hf⟩
theorem step_outU (hs : Soft wt (Holds l W0)) (hg : Wants ops wt fr (Holds l W0) i o false) (hf : factAt l i = .oth (fun v => v = undef)) : StepAt Tryz.prog ops wt Q fr df (Holds l W0) (Keep l W0) i o :=
  StepAt.out hs hg fun L u w hJ _ _ => ⟨hJ.later (Below.refl _ _) (by rw [hf]; rfl), by unfold Holds; rw [hf]; simp only; rw [putV_same]⟩
theorem wants_offU {b : Bool} (j : Nat) (hgd : o.guard = some (j, b)) (hj : factAt l j = .oth (fun v => v = undef)) (hw : wt i j = true) (hy : ∀ u, ((ops[j]?).bind (·.dst)).bind ((fr u)[·]?) = some (u j)) : Wants ops wt fr (Holds l W0) i o false := fun L u w hG hd => by
  have h := hG j (hd j hw)
  unfold Holds at h
  rw [hj] at h
  simp only at h
  simp [Region.wanted, hgd, yielded, hy, h, undef]
theorem step_pick {c x y : Operand} {φ : Value → Prop} (b : Bool) (hs : Soft wt (Holds l W0)) (hg : Wants ops wt fr (Holds l W0) i o true) (ho : o.op = .pick c x y) (hf : factAt l i = .oth φ)
    (hc : ∀ L u w, (∀ k, L k = true → Holds l W0 k L u w) → (∀ d, wt i d = true → L d = true) → (⟨fr u, df⟩ : Act).eval c = .bool b)
    (h : ∀ L u w, (∀ k, L k = true → Holds l W0 k L u w) → (∀ d, wt i d = true → L d = true) → φ ((⟨fr u, df⟩ : Act).eval (if b then x else y))) :
    StepAt Tryz.prog ops wt Q fr df (Holds l W0) (Keep l W0) i o := by
  refine StepAt.soft hs hg fun L u W hcl hJ hG hL hdep K hK => ?_
  have h1 := hc L u W hG hdep
  have h2 := h L u W hG hdep
  have hr : (execOp (⟨fr u, df⟩ : Act).eval o).run Tryz.prog W = .ok (.value ((⟨fr u, df⟩ : Act).eval (if b then x else y))) W := by
    unfold execOp
    simp only [ho, h1]
    cases b <;> rfl
  unfold Oper.wp
  rw [hr]
  exact hK.out _ _ (Below.refl _ _) (hJ.later (Below.refl _ _) (by rw [hf]; rfl)) (by unfold Holds; rw [hf]; simp only; rw [putV_same]; exact h2)
theorem run_move {ev : Operand → Value} {o : Oper} {x : Operand} {w : World} (ho : o.op = .move x) : (execOp ev o).run Tryz.prog w = .ok (.value (ev x)) w := by
  unfold execOp
  simp only [ho]
  rfl
theorem run_assign {ev : Operand → Value} {o : Oper} {x : Operand} {w : World} (ho : o.op = .assign x) : (execOp ev o).run Tryz.prog w = .ok (.value (ev x)) w := by
  unfold execOp
  simp only [ho]
  rfl
theorem step_call {xs : List α} (hs : Soft wt (Holds l W0)) (hg : Wants ops wt fr (Holds l W0) i o true) (hf : factAt l i = .val R xs)
    (h : ∀ L u w, Keep l W0 L u w → (∀ k, L k = true → Holds l W0 k L u w) → L i = false → (∀ d, wt i d = true → L d = true) → ∀ K : Act → World → Prop, Shut (∀ v w', IsFs R v xs → Below w.heap.size w w' → K ((⟨fr u, df⟩ : Act).put o.dst v) w') → Oper.wp Tryz.prog o ⟨fr u, df⟩ w K Q) :
    StepAt Tryz.prog ops wt Q fr df (Holds l W0) (Keep l W0) i o :=
  StepAt.soft hs hg fun L u W _ hJ hG hL hdep K hK => h L u W hJ hG hL hdep K (fun v w' hv hb => hK.out v w' hb (hJ.later hb (isNew_val hf)) (holds_val hf hv))
end
theorem results_cell1 {α : Type} {R : Rp α} {fn : Func} {p : Tmp} {ty : TypeId} (h : fn.results = #[.cell p ty]) (tmps : Array Value) (w : World) {g : Nat} {xs : List α}
    (hp : tmps.getD p undef = .pointer (some ⟨g, 0, none⟩)) (hx : HasFs R w g 0 xs) (hT : TyOk R ty xs.length) :
    ∃ r, (results fn tmps).run Tryz.prog w = .ok r w ∧ IsFs R r xs := by
  obtain ⟨cs, hc, hr⟩ := hx
  obtain ⟨d, h1, h2⟩ := hT.row
  have hp' : tmps[p]?.getD undef = .pointer (some ⟨g, 0, none⟩) := by simpa using hp
  have e1 := run_loadVar_mid (P := Tryz.prog) w g 0 ty cs d hr h1 h2 (by rw [hT.size, hc.len])
  exact ⟨.agg cs.toArray, by simp [results, h, hp', asAddr, e1], ⟨cs, rfl, hc⟩⟩
theorem ret_cell1 {α : Type} {R : Rp α} {fn : Func} {RR : Ending → World → Prop} {a : Act} {p : Tmp} {ty : TypeId} {w : World} {g : Nat} {xs : List α} (h : fn.results = #[.cell p ty])
    (hp : a.tmps.getD p undef = .pointer (some ⟨g, 0, none⟩)) (hx : HasFs R w g 0 xs) (hT : TyOk R ty xs.length)
    (hd : a.defers = []) (hR : ∀ r, IsFs R r xs → RR (.returned r) w) : bodyPost Tryz.prog fn RR .ret a w := by
  obtain ⟨r, e, i1⟩ := results_cell1 h a.tmps w hp hx hT
  exact bodyPost_ret e hd (hR r i1)
theorem ret_cell_slot {α : Type} {R : Rp α} {fn : Func} {RR : Ending → World → Prop} {a : Act} {p q : Tmp} {ty : TypeId} {w : World} {g : Nat} {xs : List α} {v : Value} (h : fn.results = #[.cell p ty, .tmp q])
    (hp : a.tmps.getD p undef = .pointer (some ⟨g, 0, none⟩)) (hq : a.tmps.getD q undef = v) (hx : HasFs R w g 0 xs) (hT : TyOk R ty xs.length)
    (hd : a.defers = []) (hR : ∀ r, IsFs R r xs → RR (.returned (.tuple #[r, v])) w) : bodyPost Tryz.prog fn RR .ret a w := by
  obtain ⟨cs, hc, hr⟩ := hx
  obtain ⟨d, h1, h2⟩ := hT.row
  have hp' : a.tmps[p]?.getD undef = .pointer (some ⟨g, 0, none⟩) := by simpa using hp
  have hq' : a.tmps[q]?.getD undef = v := by simpa using hq
  have e1 := run_loadVar_mid (P := Tryz.prog) w g 0 ty cs d hr h1 h2 (by rw [hT.size, hc.len])
  exact bodyPost_ret (v := .tuple #[.agg cs.toArray, v]) (by simp [results, h, hp', hq', asAddr, e1]) hd (hR _ ⟨cs, rfl, hc⟩)
end Go.Proofs.YtielgpefoameiaaGreat
namespace Go.Proofs.YtielgpefoameiaaGreat
def lw (n i : Nat) : Nat := n / 2 ^ (64 * i) % 18446744073709551616
theorem lw_lt (n i : Nat) : lw n i < 18446744073709551616 := by unfold lw; exact Nat.mod_lt _ (by omega)
def cy (a b i : Nat) : Nat := (a % 2 ^ (64 * i) + b % 2 ^ (64 * i)) / 2 ^ (64 * i)
def bw (a b i : Nat) : Nat := if a % 2 ^ (64 * i) < b % 2 ^ (64 * i) then 1 else 0
theorem pow_succ64 (i : Nat) : 2 ^ (64 * (i + 1)) = 2 ^ (64 * i) * 18446744073709551616 := by
  rw [Nat.mul_add, Nat.pow_add]
theorem cy_zero (a b : Nat) : cy a b 0 = 0 := by simp [cy, Nat.mod_one]
theorem bw_zero (a b : Nat) : bw a b 0 = 0 := by simp [bw, Nat.mod_one]
theorem cy_le (a b i : Nat) : cy a b i ≤ 1 := by
  unfold cy
  have hp : 0 < 2 ^ (64 * i) := Nat.two_pow_pos _
  have h1 := Nat.mod_lt a hp
  have h2 := Nat.mod_lt b hp
  have h3 : (a % 2 ^ (64 * i) + b % 2 ^ (64 * i)) / 2 ^ (64 * i) < 2 := Nat.div_lt_of_lt_mul (by omega)
  omega
theorem bw_le (a b i : Nat) : bw a b i ≤ 1 := by unfold bw; split <;> omega
theorem split_mod (n P M : Nat) : n % (P * M) = (n / P % M) * P + n % P := by
  rw [Nat.mod_mul]; rw [Nat.mul_comm P]; omega
theorem add_word (a b i : Nat) : (lw a i + lw b i + cy a b i) % 18446744073709551616 = lw (a + b) i ∧ (lw a i + lw b i + cy a b i) / 18446744073709551616 = cy a b (i + 1) := by
  have hp : 0 < 2 ^ (64 * i) := Nat.two_pow_pos _
  unfold lw cy
  rw [pow_succ64]
  generalize 2 ^ (64 * i) = P at hp
  have ea := Nat.div_add_mod a P
  have eb := Nat.div_add_mod b P
  have e : (a + b) / P = a / P + b / P + (a % P + b % P) / P := by
    have : a + b = (a % P + b % P) + P * (a / P + b / P) := by rw [Nat.mul_add]; omega
    rw [this, Nat.add_mul_div_left _ _ hp]
    have h1 : (a % P + b % P + P * (a / P + b / P)) % P = (a % P + b % P) % P := by rw [Nat.add_mul_mod_self_left]
    omega
  constructor
  · rw [e]; omega
  · rw [split_mod a, split_mod b, ← Nat.div_div_eq_div_mul]
    have : a / P % 18446744073709551616 * P + a % P + (b / P % 18446744073709551616 * P + b % P) = (a % P + b % P) + P * (a / P % 18446744073709551616 + b / P % 18446744073709551616) := by
      rw [Nat.mul_add, Nat.mul_comm P, Nat.mul_comm P]; omega
    rw [this, Nat.add_mul_div_left _ _ hp]
    congr 1; omega
theorem sub_word (a b i : Nat) (hi : i < 4) (hb : b < 2 ^ 256) :
    (((lw a i : Int) - lw b i - bw a b i) % 18446744073709551616 = lw (a + 2 ^ 256 - b) i) ∧ ((if (lw a i : Int) < lw b i + bw a b i then (1 : Int) else 0) = bw a b (i + 1)) := by
  have hp : 0 < 2 ^ (64 * i) := Nat.two_pow_pos _
  obtain ⟨q, hq⟩ : ∃ q, (2 : Nat) ^ 256 = 2 ^ (64 * i) * (18446744073709551616 * q) := by
    refine ⟨2 ^ (256 - 64 * (i + 1)), ?_⟩
    rw [← Nat.mul_assoc, ← pow_succ64, ← Nat.pow_add]
    congr 1; omega
  unfold lw bw
  rw [pow_succ64, hq]
  rw [hq] at hb
  generalize 2 ^ (64 * i) = P at hp hb
  have ea := Nat.div_add_mod a P
  have eb := Nat.div_add_mod b P
  have ha1 := Nat.mod_lt a hp
  have hb1 := Nat.mod_lt b hp
  have hbq : b / P < 18446744073709551616 * q := Nat.div_lt_of_lt_mul hb
  rw [split_mod a, split_mod b]
  constructor
  · by_cases h : a % P < b % P
    · rw [if_pos h]
      have e : a + P * (18446744073709551616 * q) - b = (a % P + P - b % P) + P * (a / P + 18446744073709551616 * q - b / P - 1) := by
        rw [Nat.mul_sub, Nat.mul_sub, Nat.mul_add, Nat.mul_one]
        have : P * (b / P) + P ≤ P * (18446744073709551616 * q) := by
          rw [← Nat.mul_succ]; exact Nat.mul_le_mul_left _ hbq
        omega
      have hs : a % P + P - b % P < P := by omega
      rw [e, Nat.add_mul_div_left _ _ hp, Nat.div_eq_of_lt hs]
      clear e hs ea eb hb
      generalize a / P = x at *
      generalize b / P = y at *
      omega
    · rw [if_neg h]
      have e : a + P * (18446744073709551616 * q) - b = (a % P - b % P) + P * (a / P + 18446744073709551616 * q - b / P) := by
        rw [Nat.mul_sub, Nat.mul_add]
        have : P * (b / P) ≤ P * (18446744073709551616 * q) := Nat.mul_le_mul_left _ (Nat.le_of_lt hbq)
        omega
      have hs : a % P - b % P < P := by omega
      rw [e, Nat.add_mul_div_left _ _ hp, Nat.div_eq_of_lt hs]
      clear e hs ea eb hb
      generalize a / P = x at *
      generalize b / P = y at *
      omega
  · have key : (a / P % 18446744073709551616 * P + a % P < b / P % 18446744073709551616 * P + b % P) ↔ (a / P % 18446744073709551616 < b / P % 18446744073709551616 + (if a % P < b % P then 1 else 0)) := by
      generalize a / P % 18446744073709551616 = x
      generalize b / P % 18446744073709551616 = y
      have hxy : x < y ∨ x = y ∨ y < x := by omega
      rcases hxy with h | h | h
      · have : x * P + P ≤ y * P := by rw [← Nat.succ_mul]; exact Nat.mul_le_mul_right _ h
        split <;> omega
      · subst h; split <;> omega
      · have : y * P + P ≤ x * P := by rw [← Nat.succ_mul]; exact Nat.mul_le_mul_right _ h
        split <;> omega
    by_cases h : a % P < b % P
    · simp only [h, if_true] at key ⊢
      by_cases h2 : a / P % 18446744073709551616 < b / P % 18446744073709551616 + 1
      · rw [if_pos (key.2 h2)]
        generalize a / P = x at *
        generalize b / P = y at *
        rw [if_pos (by omega)]; rfl
      · rw [if_neg (fun hh => h2 (key.1 hh))]
        generalize a / P = x at *
        generalize b / P = y at *
        rw [if_neg (by omega)]; rfl
    · simp only [h, if_false] at key ⊢
      by_cases h2 : a / P % 18446744073709551616 < b / P % 18446744073709551616 + 0
      · rw [if_pos (key.2 h2)]
        generalize a / P = x at *
        generalize b / P = y at *
        rw [if_pos (by omega)]; rfl
      · rw [if_neg (fun hh => h2 (key.1 hh))]
        generalize a / P = x at *
        generalize b / P = y at *
        rw [if_neg (by omega)]; rfl
theorem lw_mod (n i : Nat) (hi : i < 4) : lw (n % 2 ^ 256) i = lw n i := by
  have h : i = 0 ∨ i = 1 ∨ i = 2 ∨ i = 3 := by omega
  unfold lw
  rcases h with rfl | rfl | rfl | rfl <;> simp only [Nat.reduceMul, Nat.reducePow] <;> omega
def Lq : Nat := 7237005577332262213973186563042994240857116359379907606001950938285454250989
def once (a : Nat) : Nat := if a < Lq then a else a - Lq
theorem once_mod {a : Nat} (h : a < 2 * Lq) : once a = a % Lq := by
  unfold once; unfold Lq at *; split <;> omega
theorem lw_bit (N j : Nat) : lw N (j / 64) / 2 ^ (j % 64) % 2 = N / 2 ^ j % 2 := by
  unfold lw
  have h1 : j % 64 < 64 := Nat.mod_lt _ (by omega)
  have h2 : (18446744073709551616 : Nat) = 2 ^ (j % 64) * (2 * 2 ^ (63 - j % 64)) := by
    rw [show (18446744073709551616 : Nat) = 2 ^ 64 from rfl, ← Nat.pow_succ', ← Nat.pow_add]; congr 1; omega
  rw [h2, Nat.mod_mul_right_div_self, Nat.mod_mul_right_mod, Nat.div_div_eq_div_mul, ← Nat.pow_add]
  congr 3; omega
theorem reduced_step (N j : Nat) : once (2 * (N / 2 ^ (j + 1) % Lq) + N / 2 ^ j % 2) = N / 2 ^ j % Lq := by
  have hL : 0 < Lq := by unfold Lq; omega
  have h1 := Nat.mod_lt (N / 2 ^ (j + 1)) hL
  rw [once_mod (by omega)]
  have e : N / 2 ^ j = 2 * (N / 2 ^ (j + 1)) + N / 2 ^ j % 2 := by
    rw [Nat.pow_succ, ← Nat.div_div_eq_div_mul]; omega
  conv => rhs; rw [e]
  rw [Nat.add_mod, Nat.mul_mod, Nat.mod_mod, ← Nat.mul_mod, ← Nat.add_mod]
theorem lw_low (r b : Nat) (hb : b < 2) : lw (r + r + b) 0 = lw (r + r) 0 + b ∧ ∀ i, lw (r + r + b) (i + 1) = lw (r + r) (i + 1) := by
  constructor
  · simp only [lw, Nat.mul_zero, Nat.pow_zero, Nat.div_one]; omega
  · intro i
    unfold lw
    congr 1
    rw [show 64 * (i + 1) = 1 + (64 * i + 63) from by omega, Nat.pow_add, ← Nat.div_div_eq_div_mul, ← Nat.div_div_eq_div_mul]
    congr 1; omega
theorem lw_even (r : Nat) : lw (r + r) 0 % 2 = 0 := by simp only [lw, Nat.mul_zero, Nat.pow_zero, Nat.div_one]; omega
def leN : List UInt8 → Nat
  | [] => 0
  | c :: l => c.toNat + 256 * leN l
theorem leN_append (l m : List UInt8) : leN (l ++ m) = leN l + 256 ^ l.length * leN m := by
  induction l with
  | nil => simp [leN]
  | cons c l ih => simp only [List.cons_append, leN, ih, List.length_cons, Nat.pow_succ, Nat.mul_add]; rw [Nat.mul_comm (256 ^ l.length) 256, Nat.mul_assoc]; omega
theorem leN_lt (l : List UInt8) : leN l < 256 ^ l.length := by
  induction l with
  | nil => simp [leN]
  | cons c l ih =>
    have := c.toNat_lt
    simp only [leN, List.length_cons, Nat.pow_succ]
    omega
theorem leN_take (l : List UInt8) (k : Nat) (hk : k < l.length) : leN (l.take (k + 1)) = leN (l.take k) + l[k].toNat * 256 ^ k := by
  rw [List.take_succ_eq_append_getElem hk, leN_append]
  simp [leN, List.length_take, Nat.min_eq_left (Nat.le_of_lt hk)]
  rw [Nat.mul_comm]
theorem leN_zeros (n : Nat) : leN (List.replicate n 0) = 0 := by
  induction n with
  | zero => rfl
  | succ n ih => simp [List.replicate_succ, leN, ih]
theorem leN_take_lt (l : List UInt8) (k : Nat) : leN (l.take k) < 256 ^ k :=
  Nat.lt_of_lt_of_le (leN_lt _) (Nat.pow_le_pow_right (by omega) (by simp; omega))
theorem p256 (k : Nat) : (256 : Nat) ^ k = 2 ^ (8 * k) := by rw [Nat.pow_mul]
theorem or_byte (n k c : Nat) (hn : n < 256 ^ k) (hc : c < 256) : lw n (k / 8) ||| c * 2 ^ (8 * (k % 8)) = lw (n + c * 256 ^ k) (k / 8) := by
  rw [p256] at *
  have hk : 8 * k = 64 * (k / 8) + 8 * (k % 8) := by omega
  have hr : 8 * (k % 8) ≤ 56 := by omega
  unfold lw
  rw [hk, Nat.pow_add] at hn
  rw [hk, Nat.pow_add]
  clear hk
  generalize 64 * (k / 8) = Q at *
  generalize 8 * (k % 8) = R at *
  have hq : 0 < 2 ^ Q := Nat.two_pow_pos _
  have h1 : n / 2 ^ Q < 2 ^ R := Nat.div_lt_of_lt_mul hn
  have h2 : 2 ^ R ≤ 2 ^ 56 := Nat.pow_le_pow_right (by omega) hr
  have h3 : c * 2 ^ R ≤ 255 * 2 ^ R := Nat.mul_le_mul_right _ (by omega)
  have e : n + c * (2 ^ Q * 2 ^ R) = n + 2 ^ Q * (c * 2 ^ R) := by rw [← Nat.mul_assoc, Nat.mul_comm c, Nat.mul_assoc]
  rw [e, Nat.add_mul_div_left _ _ hq, Nat.mod_eq_of_lt (by omega), Nat.mod_eq_of_lt (by omega)]
  have h4 := Nat.shiftLeft_add_eq_or_of_lt h1 c
  rw [Nat.shiftLeft_eq] at h4
  rw [Nat.or_comm, ← h4]; omega
theorem or_other (n k c j : Nat) (hn : n < 256 ^ k) (hc : c < 256) (hj : j ≠ k / 8) : lw (n + c * 256 ^ k) j = lw n j := by
  rw [p256] at *
  unfold lw
  by_cases h : j < k / 8
  · have e : n + c * 2 ^ (8 * k) = n + 2 ^ (64 * j) * (18446744073709551616 * (c * 2 ^ (8 * k - 64 * j - 64))) := by
      rw [show 8 * k = 64 * j + (64 + (8 * k - 64 * j - 64)) from by omega, Nat.pow_add, Nat.pow_add, show (18446744073709551616 : Nat) = 2 ^ 64 from rfl]
      rw [show 64 * j + (64 + (8 * k - 64 * j - 64)) - 64 * j - 64 = 8 * k - 64 * j - 64 from by omega]
      generalize 2 ^ (8 * k - 64 * j - 64) = y
      generalize 2 ^ (64 * j) = x
      rw [show c * (x * (2 ^ 64 * y)) = x * (2 ^ 64 * (c * y)) from by grind]
    rw [e, Nat.add_mul_div_left _ _ (Nat.two_pow_pos _), Nat.add_mul_mod_self_left]
  · have hb : n + c * 2 ^ (8 * k) < 2 ^ (64 * j) := by
      have h1 : c * 2 ^ (8 * k) ≤ 255 * 2 ^ (8 * k) := Nat.mul_le_mul_right _ (by omega)
      have h2 : 2 ^ (8 * k + 8) ≤ 2 ^ (64 * j) := Nat.pow_le_pow_right (by omega) (by omega)
      rw [Nat.pow_add] at h2
      omega
    rw [Nat.div_eq_of_lt hb, Nat.div_eq_of_lt (Nat.lt_of_le_of_lt (Nat.le_add_right _ _) hb)]
def leB (k n : Nat) : List UInt8 := (List.range k).map fun i => UInt8.ofNat (n / 2 ^ (8 * i))
theorem leB_len (k n : Nat) : (leB k n).length = k := by simp [leB]
theorem leB_get (k n i : Nat) (h : i < (leB k n).length) : (leB k n)[i] = UInt8.ofNat (n / 2 ^ (8 * i)) := by simp [leB]
theorem leB_append (j k n : Nat) : leB (j + k) n = leB j n ++ leB k (n / 2 ^ (8 * j)) := by
  apply List.ext_getElem
  · simp [leB_len]
  · intro i h1 h2
    rw [leB_get]
    by_cases h : i < j
    · rw [List.getElem_append_left (by simpa [leB_len] using h), leB_get]
    · rw [List.getElem_append_right (by simpa [leB_len] using h), leB_get, leB_len, Nat.div_div_eq_div_mul, ← Nat.pow_add]
      simp [leB_len] at h1; congr 3; omega
theorem ofNat_mod (n : Nat) : UInt8.ofNat (n % 256) = UInt8.ofNat n := by
  apply UInt8.toNat_inj.1; simp
theorem leB_mod (k n : Nat) : leB k (n % 2 ^ (8 * k)) = leB k n := by
  apply List.ext_getElem
  · simp [leB_len]
  · intro i h1 h2
    have hi : i < k := by simpa [leB_len] using h1
    rw [leB_get, leB_get, ← ofNat_mod, ← ofNat_mod (n / _)]
    congr 1
    rw [show 8 * k = 8 * i + (8 + (8 * k - 8 * i - 8)) from by omega, Nat.pow_add, Nat.mod_mul_right_div_self, Nat.pow_add, show (2 : Nat) ^ 8 = 256 from rfl, Nat.mod_mul_right_mod]
theorem leN_leB (k n : Nat) : leN (leB k n) = n % 2 ^ (8 * k) := by
  induction k generalizing n with
  | zero => simp [leB, leN, Nat.mod_one]
  | succ k ih =>
    rw [show k + 1 = 1 + k from by omega, leB_append, show leB 1 n = [UInt8.ofNat n] from by simp [leB], List.singleton_append, leN, ih]
    rw [show 8 * (1 + k) = 8 * 1 + 8 * k from by omega, Nat.pow_add, Nat.mod_mul]
    simp
theorem leB_leN (l : List UInt8) : leB l.length (leN l) = l := by
  induction l with
  | nil => rfl
  | cons c l ih =>
    rw [List.length_cons, show l.length + 1 = 1 + l.length from by omega, leB_append, show leB 1 (leN (c :: l)) = [UInt8.ofNat (leN (c :: l))] from by simp [leB]]
    have h1 : leN (c :: l) / 2 ^ (8 * 1) = leN l := by have := c.toNat_lt; simp only [leN]; omega
    have h2 : UInt8.ofNat (leN (c :: l)) = c := by
      apply UInt8.toNat_inj.1; have := c.toNat_lt; simp [leN]
    rw [h1, ih, h2]; rfl
theorem leB_inj {k m n : Nat} (hm : m < 2 ^ (8 * k)) (hn : n < 2 ^ (8 * k)) (h : leB k m = leB k n) : m = n := by
  have := congrArg leN h
  rwa [leN_leB, leN_leB, Nat.mod_eq_of_lt hm, Nat.mod_eq_of_lt hn] at this
theorem leB_words (n k : Nat) : leB (8 * (k + 1)) n = leB (8 * k) n ++ leB 8 (lw n k) := by
  rw [Nat.mul_add, leB_append]
  congr 1
  rw [← leB_mod 8 (n / _)]
  congr 1
  unfold lw
  rw [← Nat.mul_assoc]
end Go.Proofs.YtielgpefoameiaaGreat
namespace Go.Proofs.YtielgpefoameiaaGreat
open Go.RowKit
theorem infoU8 : (Tryz.prog.info? 5).map (fun i => (i.zero, i.size, i.bytes)) = some (some (.int .u8 0), 1, 1) := by kernel_rfl
def adds (x y c : Int) : Int := (x + y + c) % 18446744073709551616
def addc (x y c : Int) : Int := (x + y + c) / 18446744073709551616
def subs (x y c : Int) : Int := (x - y - c) % 18446744073709551616
def subc (x y c : Int) : Int := if x < y + c then 1 else 0
structure Wd (x : Int) : Prop where
  lo : 0 ≤ x
  hi : x < 18446744073709551616
structure Cy (x : Int) : Prop where
  lo : 0 ≤ x
  hi : x ≤ 1
theorem Cy.zero : Cy 0 := ⟨by omega, by omega⟩
theorem addc_cy {x y c : Int} (hx : Wd x) (hy : Wd y) (hc : Cy c) : Cy (addc x y c) := by
  have := hx.lo; have := hx.hi; have := hy.lo; have := hy.hi; have := hc.lo; have := hc.hi; unfold addc; exact ⟨by omega, by omega⟩
theorem add64 {x y c : Int} (hx : Wd x) (hy : Wd y) (hc : Cy c) (w : World) : (callFunc 70 #[.int .u64 x, .int .u64 y, .int .u64 c]).run Tryz.prog w = .ok (.value (.tuple #[.int .u64 (adds x y c), .int .u64 (addc x y c)])) w := by
  rw [run_callFunc_extern Tryz.func70 (by kernel_rfl) (by kernel_rfl) (by kernel_rfl) (e := add64Entry) (by kernel_rfl), run_add64 x y c hx.lo hy.lo hc.lo hc.hi]; rfl
theorem sub64 {x y c : Int} (hx : Wd x) (hy : Wd y) (hc : Cy c) (w : World) : (callFunc 128 #[.int .u64 x, .int .u64 y, .int .u64 c]).run Tryz.prog w = .ok (.value (.tuple #[.int .u64 (subs x y c), .int .u64 (subc x y c)])) w := by
  obtain ⟨x0, x1⟩ := hx; obtain ⟨y0, y1⟩ := hy; obtain ⟨c0, c1⟩ := hc
  obtain ⟨x, rfl⟩ := Int.eq_ofNat_of_zero_le x0; obtain ⟨y, rfl⟩ := Int.eq_ofNat_of_zero_le y0; obtain ⟨c, rfl⟩ := Int.eq_ofNat_of_zero_le c0
  have e1 : (((x + 18446744073709551616 - y - c) % 18446744073709551616 : Nat) : Int) = subs x y c := by unfold subs; omega
  have e2 : ((if x < y + c then 1 else 0 : Nat) : Int) = subc x y c := by unfold subc; split <;> split <;> omega
  rw [run_callFunc_extern Tryz.func128 (by kernel_rfl) (by kernel_rfl) (by kernel_rfl) (e := sub64Entry) (by kernel_rfl), run_sub64 x y c (by omega), ← e1, ← e2]; rfl
theorem wrapU {x : Int} : IntKind.u64.wrap x = x % 18446744073709551616 := IntKind.wrap_u64 x
theorem and32 {x : Int} (h : Wd x) : bits BinOp.and IntKind.u64 x 4294967295 = x % 4294967296 := by
  obtain ⟨x, rfl⟩ := Int.eq_ofNat_of_zero_le h.lo
  have h1 := h.hi
  rw [show (4294967295 : Int) = ((4294967295 : Nat) : Int) from rfl, u64_and_nat x 4294967295 (by omega) (by omega)]
  have e : x &&& 4294967295 = x % 4294967296 := Nat.and_two_pow_sub_one_eq_mod x 32
  rw [e]; omega
theorem mul_bd {a b m : Int} (ha : 0 ≤ a) (hb : 0 ≤ b) (ha' : a ≤ m) (hb' : b ≤ m) : 0 ≤ a * b ∧ a * b ≤ m * m :=
  ⟨Int.mul_nonneg ha hb, Int.mul_le_mul ha' hb' hb (by omega)⟩
theorem mul64_num {x y : Int} (hx : Wd x) (hy : Wd y) :
    IntKind.u64.wrap (IntKind.u64.wrap (IntKind.u64.wrap (x / 4294967296 * (y / 4294967296)) + IntKind.u64.wrap (IntKind.u64.wrap (x / 4294967296 * bits BinOp.and IntKind.u64 y 4294967295) + IntKind.u64.wrap (bits BinOp.and IntKind.u64 x 4294967295 * bits BinOp.and IntKind.u64 y 4294967295) / 4294967296) / 4294967296) +
      IntKind.u64.wrap (bits BinOp.and IntKind.u64 (IntKind.u64.wrap (IntKind.u64.wrap (x / 4294967296 * bits BinOp.and IntKind.u64 y 4294967295) + IntKind.u64.wrap (bits BinOp.and IntKind.u64 x 4294967295 * bits BinOp.and IntKind.u64 y 4294967295) / 4294967296)) 4294967295 + IntKind.u64.wrap (bits BinOp.and IntKind.u64 x 4294967295 * (y / 4294967296))) / 4294967296)
    = x * y / 18446744073709551616 := by
  have e := and32 (x := IntKind.u64.wrap (IntKind.u64.wrap (x / 4294967296 * bits BinOp.and IntKind.u64 y 4294967295) + IntKind.u64.wrap (bits BinOp.and IntKind.u64 x 4294967295 * bits BinOp.and IntKind.u64 y 4294967295) / 4294967296)) (by rw [wrapU]; exact ⟨by omega, by omega⟩)
  rw [e, and32 hx, and32 hy]
  simp only [wrapU]
  obtain ⟨hx0, hx1⟩ := hx; obtain ⟨hy0, hy1⟩ := hy
  have ex : x = x / 4294967296 * 4294967296 + x % 4294967296 := by omega
  have ey : y = y / 4294967296 * 4294967296 + y % 4294967296 := by omega
  have bx1 : 0 ≤ x / 4294967296 ∧ x / 4294967296 ≤ 4294967295 := by omega
  have bx0 : 0 ≤ x % 4294967296 ∧ x % 4294967296 ≤ 4294967295 := by omega
  have by1 : 0 ≤ y / 4294967296 ∧ y / 4294967296 ≤ 4294967295 := by omega
  have by0 : 0 ≤ y % 4294967296 ∧ y % 4294967296 ≤ 4294967295 := by omega
  generalize x / 4294967296 = x1 at *
  generalize x % 4294967296 = x0 at *
  generalize y / 4294967296 = y1 at *
  generalize y % 4294967296 = y0 at *
  have e2 : x * y = 18446744073709551616 * (x1 * y1) + 4294967296 * (x1 * y0) + 4294967296 * (x0 * y1) + x0 * y0 := by rw [ex, ey]; grind
  rw [e2]
  have b11 := mul_bd bx1.1 by1.1 bx1.2 by1.2
  have b10 := mul_bd bx1.1 by0.1 bx1.2 by0.2
  have b01 := mul_bd bx0.1 by1.1 bx0.2 by1.2
  have b00 := mul_bd bx0.1 by0.1 bx0.2 by0.2
  generalize x1 * y1 = p11 at *
  generalize x1 * y0 = p10 at *
  generalize x0 * y1 = p01 at *
  generalize x0 * y0 = p00 at *
  clear ex ey e e2
  omega
set_option maxHeartbeats 400000 in
theorem mul64_any {x y : Int} (hx : Wd x) (hy : Wd y) (w : World) : Calls Tryz.prog 69 #[.int .u64 x, .int .u64 y] w fun e w' => e = .returned (.tuple #[.int .u64 (x * y / 18446744073709551616), .int .u64 (x * y % 18446744073709551616)]) ∧ w = w' := by
  have H := Lib.hid (mul64_num hx hy)
  obtain ⟨hx0, hx1⟩ := hx; obtain ⟨hy0, hy1⟩ := hy
  go_enter Tryz.func69, Tryz.ntmps69
  go_wp2
  go_ret2
  refine ⟨?_, rfl⟩
  rw [H.out, wrapU]; rfl
def mhi (x y : Int) : Int := x * y / 18446744073709551616
def mlo (x y : Int) : Int := x * y % 18446744073709551616
theorem mul64_o {x y : Int} (hx : Wd x) (hy : Wd y) (w : World) : Calls Tryz.prog 69 #[.int .u64 x, .int .u64 y] w fun e w' => e = .returned (.tuple #[.int .u64 (mhi x y), .int .u64 (mlo x y)]) ∧ w = w' := mul64_any hx hy w
theorem mlo_wd (x y : Int) : Wd (mlo x y) := by unfold mlo; exact ⟨by omega, by omega⟩
theorem app_bytes (w : World) {ops : Array Oper} {rest : List Oper} {o : Oper} {a : Act} {Q : Exit → Act → World → Prop} (hgd : o.guard = none) (s x : Operand)
    (ho : o.op = .call { callee := .builtin .append, args := #[s, x], argTypes := #[22, 22] }) (base : Nat) (v : Value) (n : Nat) (l : List UInt8) (hs : a.eval s = v) (hown : w.ownsRow base 5 1 v n (l.map bV))
    (sa : Option Addr) (m sc : Nat) (r : List UInt8) (hx : a.eval x = .slice sa m sc) (hr : RdB w sa m sc r) (hlen : n + m ≤ 70368744177664) (hbase : base ≤ w.heap.size) (w0 : World) (hb0 : Below base w0 w)
    (h : ∀ v' w', w'.ownsRow base 5 1 v' (n + m) ((l ++ r).map bV) → Below base w0 w' → wpList Tryz.prog ops Q rest (a.put o.dst v') w') : wpList Tryz.prog ops Q (o :: rest) a w := by
  obtain ⟨i0, hi, hz0, hz1, hz2⟩ := info_parts (show (Tryz.prog.info? 5).map (fun i => (i.zero, i.size, i.bytes)) = some (some (.int .u8 0), 1, 1) from by kernel_rfl)
  cases sa with
  | none =>
    obtain rfl := hr.hnil rfl
    obtain rfl : m = 0 := by have := hr.hcap; omega
    obtain rfl : r = [] := List.eq_nil_of_length_eq_zero hr.hlen
    refine wpList_append_own_none hgd s x 22 ho base 5 i0 1 Tryz.underlying22 hi v n (l.map bV) hs hown hx ?_
    exact h v w (by simpa using hown) hb0
  | some ad =>
    refine wpList_append_own w hgd s x 22 ho base 5 i0 (.int .u8 0) 1 1 Tryz.underlying22 hi hz0 hz1 hz2 rfl (by decide) v n (l.map bV) hs hown ad m sc (r.map bV) hx (by simp [hr.hlen]) ?_ ?_ (by unfold maxLen; omega) (by omega) hbase ?_
    · intro j u hu
      obtain ⟨hj, hv⟩ := List.getElem?_eq_some_iff.1 hu
      simp at hj
      obtain ⟨b, q, hab, hc⟩ := hr.get j hj
      simp at hab
      subst hab
      rw [show Addr.add ⟨b, q, none⟩ j = ⟨b, q + j, none⟩ from by unfold Addr.add; split <;> simp_all, hc, ← hv]
      simp
    · intro u hu
      simp at hu
      obtain ⟨c, _, rfl⟩ := hu
      rfl
    · intro v' w' hown' hgr _
      rw [← List.map_append] at hown'
      refine h v' w' hown' (hb0.grown hgr hbase fun q hq => ?_)
      rcases hown.2 with ⟨h, _⟩ | ⟨g, cap, cur, hv, hg, _⟩
      · rw [h] at hq; simp [Value.ownBlock] at hq
      · rw [hv] at hq; simp [Value.ownBlock] at hq; omega
def first (l : List UInt8) (k : Nat) : List UInt8 := l.take k ++ List.replicate (k - l.length) 0
theorem first_len (l : List UInt8) (k : Nat) : (first l k).length = k := by unfold first; simp; omega
theorem bV_one (l : List UInt8) : ∀ v ∈ l.map bV, v.oneCell' = true := by intro v hv; simp at hv; obtain ⟨c, _, rfl⟩ := hv; rfl
theorem leN_first (l : List UInt8) (k : Nat) : leN (first l k) = leN (l.take k) := by
  unfold first; rw [leN_append, leN_zeros]; omega
def zer (k : Nat) : List Value := (List.replicate k (0 : UInt8)).map bV
def cpy (l : List UInt8) (n : Nat) : List Value := (l.take n).map bV
theorem zer_len (k : Nat) : (zer k).length = k := by simp [zer]
theorem cpy_len (l : List UInt8) (n : Nat) : (cpy l n).length = min n l.length := by simp [cpy]
theorem cpy_one (l : List UInt8) (n : Nat) : ∀ v ∈ cpy l n, v.oneCell' = true := bV_one _
theorem madeU8 (k : Nat) : (madeCells #[Value.int .u8 0] k).toList = zer k := by
  apply List.ext_getElem
  · simp [size_madeCells, zer]
  · intro i h1 h2
    simp [madeCells, bV, Nat.mod_one, zer]
theorem splice_first (l : List UInt8) (k n : Nat) (hn : l.length = n) : splice (zer k) 0 (cpy l (Nat.min n k)) = (first l k).map bV := by
  unfold splice first zer cpy
  subst hn
  rw [show (Nat.min l.length k) = min l.length k from rfl]
  simp only [List.take_zero, List.nil_append, Nat.zero_add, ← List.map_drop, ← List.map_append, List.length_map, List.length_take, List.drop_replicate]
  congr 2
  · rw [Nat.min_comm, ← List.take_take, List.take_length]
  · congr 1; omega
theorem addr_add (b o j : Nat) : Addr.add ⟨b, o, none⟩ j = ⟨b, o + j, none⟩ := by
  unfold Addr.add; split
  · rename_i h; subst h; rfl
  · rfl
theorem RdB.src {w : World} {a : Option Addr} {n cap : Nat} {l : List UInt8} (h : RdB w a n cap l) (m : Nat) (hpos : 0 < (cpy l m).length) :
    ∃ ad, a = some ad ∧ ∀ j v, (cpy l m)[j]? = some v → w.cell? (ad.add j) = some v := by
  rcases h.cases with ⟨h0, h0'⟩ | ⟨b, o, hn0, ha, hc⟩
  · subst h0'; simp [cpy] at hpos
  · refine ⟨⟨b, o, none⟩, ha, fun j v hv => ?_⟩
    unfold cpy at hv
    obtain ⟨hj, hv⟩ := List.getElem?_eq_some_iff.1 hv
    simp at hj
    rw [addr_add, hc j (by omega), ← hv]
    simp
theorem infoSz : (Tryz.prog.info? 5).map (·.size) = some 1 := by kernel_rfl
set_option maxHeartbeats 400000 in
theorem first_any {a : Option Addr} {n cap : Nat} {l : List UInt8} (k : Nat) (hk : k ≤ 1000) (w : World) (h : RdB w a n cap l) :
    Calls Tryz.prog 55 #[.slice a n cap, .int .i64 k] w fun e w' => e = .returned (.slice (some ⟨w.heap.size, 0, none⟩) k k) ∧ Blk w' w.heap.size ((first l k).map bV) 5 ∧ Below w.heap.size w w' := by
  obtain ⟨i0, hi, hz0, hz1, hz2⟩ := info_parts infoU8
  have hkk : k ≤ maxLen := by unfold maxLen; omega
  have hgl := Lib.hid h.hlen
  go_enter Tryz.func55, Tryz.ntmps55
  go_wp2_with (at_make; refine wpList_make_full _ rfl _ _ 22 rfl w.heap.size 5 i0 (.int .u8 0) 1 Tryz.underlying22 hi hz0 hz1 .i64 .i64 _ _ k rfl rfl rfl rfl ?_ hkk (Nat.le_refl _) ?_)
  · rw [hz2]; omega
  · intro w1 hown hgr
    have hB := Blk.own hown
    have hb1 : Below w.heap.size w w1 := (Below.refl _ _).grown hgr (Nat.le_refl _) (by simp)
    rw [madeU8 k] at hB
    clear hown hgr hi hz0 hz1 hz2
    have h1 := h.below hb1
    go_wp2_with (refine wpList_copy_splice rfl (.tmp 8) (.tmp 9) 22 22 rfl 5 Tryz.underlying22 infoSz _ _ _ _ _ _ rfl rfl w.heap.size 0 (zer k) 5 hB (cpy l (Nat.min n k)) ?_ ?_ ?_ (cpy_one _ _) w.heap.size w hb1 (Nat.le_refl _) ?_)
    · rw [cpy_len, hgl.out]; show min (min n k) n = min n k; omega
    · exact fun hpos => h1.src _ hpos
    · rw [zer_len, cpy_len]; show 0 + min (min n k) l.length ≤ k; omega
    · intro w2 hB2 hb2
      have hB3 : Hid (Blk w2 w.heap.size ((first l k).map bV) 5) := by
        rw [splice_first l k n hgl.out] at hB2; exact hB2
      clear hB2
      go_wp2
      go_ret
      exact ⟨rfl, hB3.out, hb2⟩
theorem wrap8 (x : Int) : IntKind.u8.wrap x = x % 256 := by simp [IntKind.wrap, IntKind.bits, IntKind.signed]
theorem make8 (w : World) : (Instr.makeSlice 22 (.int .i64 8) (.int .i64 8)).run Tryz.prog w = .ok (.slice (some ⟨w.heap.size, 0, none⟩) 8 8) (w.alloc (.cells #[.int .u8 0, .int .u8 0, .int .u8 0, .int .u8 0, .int .u8 0, .int .u8 0, .int .u8 0, .int .u8 0] 5)) := by kernel_rfl
theorem le64_cells (n : Nat) (hn : n < 18446744073709551616) : (leB 8 n).map bV = [.int .u8 ((n : Int) % 256), .int .u8 ((n : Int) / 256 % 256), .int .u8 ((n : Int) / 65536 % 256), .int .u8 ((n : Int) / 16777216 % 256), .int .u8 ((n : Int) / 4294967296 % 256),
    .int .u8 ((n : Int) / 1099511627776 % 256), .int .u8 ((n : Int) / 281474976710656 % 256), .int .u8 ((n : Int) / 72057594037927936)] := by
  have h : n / 72057594037927936 % 256 = n / 72057594037927936 := by omega
  simp [leB, bV, List.range, List.range.loop]
  omega
set_option maxHeartbeats 400000 in
theorem little_any {n : Nat} (hn : n < 18446744073709551616) (w : World) :
    Calls Tryz.prog 71 #[.int .u64 n] w fun e w' => e = .returned (.slice (some ⟨w.heap.size, 0, none⟩) 8 8) ∧ Blk w' w.heap.size ((leB 8 n).map bV) 5 ∧ Below w.heap.size w w' := by
  have hn0 : (0 : Int) ≤ (n : Int) := by omega
  have hn1 : (n : Int) < 18446744073709551616 := by omega
  have hmk := make8
  go_enter Tryz.func71, Tryz.ntmps71
  go_wp2
  refine wp_loop_rounds 9 ?_
  iterate 9 (rw [rounds_succ]; go_wp2)
  go_ret
  refine ⟨rfl, ?_, (Below.refl _ _).alloc (Nat.le_refl _) _⟩
  rw [le64_cells n hn]
  exact Blk.new w _ _
theorem eq_snoc {l m : List UInt8} (k : Nat) (hl : k < l.length) (hm : k < m.length) (h : l.take k = m.take k) (e : l[k] = m[k]) : l.take (k + 1) = m.take (k + 1) := by
  rw [List.take_succ_eq_append_getElem hl, List.take_succ_eq_append_getElem hm, h, e]
set_option maxHeartbeats 400000 in
theorem slEqual_any {a b : Option Addr} {n m cap cap' : Nat} {l r : List UInt8} (w : World) (hl : RdB w a n cap l) (hr : RdB w b m cap' r) :
    Calls Tryz.prog 123 #[.slice a n cap, .slice b m cap'] w fun e w' => e = .returned (.bool (decide (l = r))) ∧ Below w.heap.size w w' := by
  by_cases hnm : n = m
  · subst hnm
    have HL := Lib.hid hl.hlen; have HR := Lib.hid hr.hlen
    rcases hl.cases with ⟨h0, h1⟩ | ⟨ba, oa, hn0, rfl, hca⟩
    · subst h0 h1
      obtain rfl : r = [] := List.eq_nil_of_length_eq_zero HR.out
      go_enter Tryz.func123, Tryz.ntmps123
      go_wp2
      refine wp_loop_rounds 1 ?_
      rw [rounds_succ]
      go_wp2
      go_ret
      exact ⟨rfl, Below.refl _ _⟩
    · rcases hr.cases with ⟨h0, h1⟩ | ⟨bb, ob, _, rfl, hcb⟩
      · omega
      · have hm63 : (n : Int) ≤ 9223372036854775807 := by have := hl.hcap; have := hl.hmax; unfold maxLen at *; omega
        clear hl hr
        go_enter Tryz.func123, Tryz.ntmps123
        go_wp2
        go_loopw [13] (fun i wr => ∃ k : Nat, k ≤ n ∧ i = .int .i64 k ∧ l.take k = r.take k ∧ Below w.heap.size w wr) (fun i _ => n - (intOf i).toNat)
        case atStart => exact ⟨0, Nat.zero_le _, rfl, by simp, Below.refl _ _⟩
        case round =>
          obtain ⟨k, hk, rfl, htk, hbel⟩ := hrel
          by_cases hlt : k < n
          · have hkl : k < l.length := by rw [HL.out]; exact hlt
            have hkr : k < r.length := by rw [HR.out]; exact hlt
            have c1 : wr.cell? ⟨ba, oa + k, none⟩ = some (.int .u8 (l[k].toNat : Int)) := by have := hca k hkl; rw [hbel.cell (cell_lt this)]; exact this
            have c2 : wr.cell? ⟨bb, ob + k, none⟩ = some (.int .u8 (r[k].toNat : Int)) := by have := hcb k hkr; rw [hbel.cell (cell_lt this)]; exact this
            have HT := Lib.hid htk; clear htk
            clear hca hcb
            by_cases he : l[k] = r[k]
            · have HE := Lib.hid (eq_snoc k hkl hkr HT.out he)
              have hz : ((l[k].toNat : Int) != (r[k].toNat : Int)) = false := by rw [he]; simp
              clear he
              generalize (l[k].toNat : Int) = x at *
              generalize (r[k].toNat : Int) = y at *
              go_wp2
              go_quiet (fail)
              go_wp2
              go_roundw
              case rel => exact ⟨k + 1, by omega, by go_num, HE.out, by repeat (first | exact hbel | apply Below.drew | apply below_drewN)⟩
              case measure => simp [intOf]; omega
            · have HE : Hid (decide (l = r) = false) := Lib.hid (by simp; intro h; subst h; exact he rfl)
              have hz : ((l[k].toNat : Int) != (r[k].toNat : Int)) = true := by
                simp; intro h; exact he (UInt8.toNat_inj.1 (by omega))
              clear he
              generalize (l[k].toNat : Int) = x at *
              generalize (r[k].toNat : Int) = y at *
              go_wp2
              go_quiet (fail)
              go_wp2
              go_ret
              exact ⟨by rw [HE.out]; rfl, by repeat (first | exact hbel | apply Below.drew | apply below_drewN)⟩
          · have hkn : k = n := by omega
            have HE : Hid (decide (l = r) = true) := Lib.hid (by simp; rw [← List.take_of_length_le (show l.length ≤ k by rw [HL.out]; omega), htk, List.take_of_length_le (by rw [HR.out]; omega)])
            clear htk hkn hca hcb
            go_wp2
            go_ret
            exact ⟨by rw [HE.out]; rfl, hbel⟩
  · have HE : Hid (decide (l = r) = false) := Lib.hid (by simp; intro h; subst h; exact hnm (hl.hlen.symm.trans hr.hlen))
    have hz : ((n : Int) != (m : Int)) = true := by simp; omega
    clear hl hr
    go_enter Tryz.func123, Tryz.ntmps123
    go_wp2
    go_ret
    exact ⟨by rw [HE.out]; rfl, Below.refl _ _⟩
set_option maxHeartbeats 400000 in
theorem equal_any {a b : Option Addr} {n m cap cap' : Nat} {l r : List UInt8} (w : World) (hl : RdB w a n cap l) (hr : RdB w b m cap' r) :
    Calls Tryz.prog 99 #[.slice a n cap, .slice b m cap'] w fun e w' => e = .returned (.bool (decide (l = r))) ∧ Below w.heap.size w w' := by
  go_enter Tryz.func99, Tryz.ntmps99
  go_wp2_with (go_at_call 123; refine (slEqual_any _ hl hr).mono ?_; rintro e w' ⟨rfl, hb⟩)
  go_ret
  exact ⟨rfl, hb⟩
def wV (n i : Nat) : Value := .int .u64 (lw n i : Nat)
theorem row4 (f : Nat → Value) : row 4 f = [f 0, f 1, f 2, f 3] := rfl
theorem wV0 (i : Nat) : wV 0 i = .int .u64 0 := by unfold wV lw; rw [Nat.zero_div]; rfl
theorem or_byteI (x k c : Nat) (ci : Int) (hci : ci = (c : Int)) (hx : x < 256 ^ k) (hc : c < 256) :
    bits BinOp.or IntKind.u64 (lw x (k / 8) : Nat) (IntKind.u64.wrap (ci * 2 ^ (8 * (k % 8)))) = (lw (x + c * 256 ^ k) (k / 8) : Nat) := by
  subst hci
  have h1 : c * 2 ^ (8 * (k % 8)) < 18446744073709551616 := by
    have h2 : 2 ^ (8 * (k % 8)) ≤ 2 ^ 56 := Nat.pow_le_pow_right (by omega) (by omega)
    have h3 : c * 2 ^ (8 * (k % 8)) ≤ 255 * 2 ^ 56 := Nat.mul_le_mul (by omega) h2
    omega
  have e : (c : Int) * 2 ^ (8 * (k % 8)) = ((c * 2 ^ (8 * (k % 8)) : Nat) : Int) := by simp
  rw [e, wrapU, show ((c * 2 ^ (8 * (k % 8)) : Nat) : Int) % 18446744073709551616 = ((c * 2 ^ (8 * (k % 8)) : Nat) : Int) from by omega, u64_or_nat _ _ (lw_lt _ _) h1, or_byte x k c hx hc]
def bs (l : List UInt8) : ByteArray := ⟨l.toArray⟩
theorem conv_any {w : World} {a : Option Addr} {n cap : Nat} {l : List UInt8} (h : RdB w a n cap l) : (convert 22 9 (.slice a n cap)).run Tryz.prog w = .ok (.string (bs l)) w := by
  have hl := h.hlen
  rcases h.cases with ⟨rfl, rfl⟩ | ⟨b, o, hn, rfl, hc⟩
  · cases a with
    | none => rw [run_convert_bytes_string w 22 9 5 none 0 cap Tryz.underlying22 Tryz.underlying5 Tryz.underlying9]; rfl
    | some ad => exact run_convert_bytes_back w 22 9 5 ad cap [] Tryz.underlying22 Tryz.underlying5 Tryz.underlying9 (fun j hj => by simp at hj)
  · subst hl
    exact run_convert_bytes_back w 22 9 5 ⟨b, o, none⟩ cap l Tryz.underlying22 Tryz.underlying5 Tryz.underlying9 (fun j hj => by rw [addr_add]; exact hc j hj)
theorem bs_toList (l : List UInt8) : (bs l).toList = l := ByteArray.toList_mk l
theorem bs_eqT (l m : List UInt8) : ((bs l).toList == (bs m).toList) = decide (l = m) := by
  rw [bs_toList, bs_toList]
  by_cases h : l = m
  · subst h; simp
  · rw [decide_eq_false h, beq_eq_false_iff_ne]; exact h
end Go.Proofs.YtielgpefoameiaaGreat
namespace Go.Proofs.YtielgpefoameiaaGreat
open Go Go.RowKit
section
variable {α : Type} {R : Rp α} {ops : Array Oper} {wt : Nat → Nat → Bool} {Q : Exit → Act → World → Prop} {fr : (Nat → Value) → Array Value} {df : List Deferred} {l : List Fact} {W0 : World} {i : Nat} {o : Oper}
theorem step_oth {φ : Value → Prop} (hs : Soft wt (Holds l W0)) (hg : Wants ops wt fr (Holds l W0) i o true) (hf : factAt l i = .oth φ)
    (h : ∀ L u w, Keep l W0 L u w → (∀ k, L k = true → Holds l W0 k L u w) → (∀ d, wt i d = true → L d = true) → ∃ v, (execOp (⟨fr u, df⟩ : Act).eval o).run Tryz.prog w = .ok (.value v) w ∧ φ v) :
    StepAt Tryz.prog ops wt Q fr df (Holds l W0) (Keep l W0) i o := by
  refine StepAt.soft hs hg fun L u W hcl hJ hG hL hdep K hK => ?_
  obtain ⟨v, hv, hx⟩ := h L u W hJ hG hdep
  unfold Oper.wp
  rw [hv]
  exact hK.out _ _ (Below.refl _ _) (hJ.later (Below.refl _ _) (by rw [hf]; rfl)) (by unfold Holds; rw [hf]; simp only; rw [putV_same]; exact hx)
theorem run_conv {ev : Operand → Value} {x : Operand} {w : World} {a : Option Addr} {n cap : Nat} {m : List UInt8} (ho : o.op = .convert 22 9 x) (hx : ev x = .slice a n cap) (h : RdB w a n cap m) :
    (execOp ev o).run Tryz.prog w = .ok (.value (.string (bs m))) w := by
  unfold execOp
  simp only [ho, hx]
  simp [conv_any h]
theorem step_conv {x : Operand} {m : List UInt8} (j : Nat) (hs : Soft wt (Holds l W0)) (hg : Wants ops wt fr (Holds l W0) i o true) (ho : o.op = .convert 22 9 x) (hf : factAt l i = .oth (fun v => v = .string (bs m)))
    (hj : factAt l j = .rd m) (hw : wt i j = true) (hx : ∀ u, (⟨fr u, df⟩ : Act).eval x = u j) : StepAt Tryz.prog ops wt Q fr df (Holds l W0) (Keep l W0) i o :=
  step_oth hs hg hf fun L u w _ hG hdep => by
    have h := hG j (hdep j hw)
    unfold Holds at h
    rw [hj] at h
    simp only at h
    obtain ⟨g, n, cap, r, h1, h2, h3, h4, h5, h6⟩ := h
    exact ⟨_, run_conv ho (by rw [hx, h1]) (RdB.blk r h3 h4 h5 h6), rfl⟩
theorem step_convC {x : Operand} {m : List UInt8} {a : Option Addr} {n cap : Nat} (hs : Soft wt (Holds l W0)) (hg : Wants ops wt fr (Holds l W0) i o true) (ho : o.op = .convert 22 9 x) (hf : factAt l i = .oth (fun v => v = .string (bs m)))
    (hR : RdB W0 a n cap m) (hno : l.any Fact.isSto = false) (hx : ∀ L u w, (∀ k, L k = true → Holds l W0 k L u w) → (∀ d, wt i d = true → L d = true) → (⟨fr u, df⟩ : Act).eval x = .slice a n cap) : StepAt Tryz.prog ops wt Q fr df (Holds l W0) (Keep l W0) i o :=
  step_oth hs hg hf fun L u w hJ hG hdep => ⟨_, run_conv ho (hx L u w hG hdep) (hR.below (hJ.all hno)), rfl⟩
theorem step_cell {x : Operand} {v : Value} {ty : TypeId} (b off : Nat) (hs : Soft wt (Holds l W0)) (hg : Wants ops wt fr (Holds l W0) i o true) (ho : o.op = .load ty x) (hf : factAt l i = .oth (fun z => z = v))
    (hT : ∀ w : World, w.cell? ⟨b, off, none⟩ = some v → (Instr.loadAt ty (.pointer (some ⟨b, off, none⟩))).run Tryz.prog w = .ok v w)
    (hx : ∀ L u w, (∀ k, L k = true → Holds l W0 k L u w) → (∀ d, wt i d = true → L d = true) → (⟨fr u, df⟩ : Act).eval x = .pointer (some ⟨b, off, none⟩)) (hc : W0.cell? ⟨b, off, none⟩ = some v) (hno : Apart wt l i b) :
    StepAt Tryz.prog ops wt Q fr df (Holds l W0) (Keep l W0) i o := by
  refine StepAt.soft hs hg fun L u W hcl hJ hG hL hdep K hK => ?_
  have hblk := hJ.block b (cell_lt hc) (fun k hk => by
    cases hLk : L k with
    | false => rfl
    | true =>
      rcases hno k b hk with h1 | h1
      · rw [hcl k i hLk h1] at hL; cases hL
      · exact absurd rfl h1)
  have hc' : W.cell? ⟨b, off, none⟩ = some v := by rw [World.cell?_of_block (w := W0) hblk]; exact hc
  have hr : (execOp (⟨fr u, df⟩ : Act).eval o).run Tryz.prog W = .ok (.value v) W := by
    unfold execOp
    simp only [ho, hx L u W hG hdep]
    simp [hT W hc']
  unfold Oper.wp
  rw [hr]
  exact hK.out _ _ (Below.refl _ _) (hJ.later (Below.refl _ _) (by rw [hf]; rfl)) (by unfold Holds; rw [hf]; simp only; rw [putV_same])
theorem run_eqlS {ev : Operand → Value} {x y : Operand} {t : TypeId} {w : World} {m m' : List UInt8} (ho : o.op = .binOp .eql 9 x y t) (hx : ev x = .string (bs m)) (hy : ev y = .string (bs m')) :
    (execOp ev o).run Tryz.prog w = .ok (.value (.bool (decide (m = m')))) w := by
  have h := bs_eqT m m'
  unfold execOp
  simp only [ho, hx, hy]
  go_simp
theorem run_neqS {ev : Operand → Value} {x y : Operand} {t : TypeId} {w : World} {m m' : List UInt8} (ho : o.op = .binOp .neq 9 x y t) (hx : ev x = .string (bs m)) (hy : ev y = .string (bs m')) :
    (execOp ev o).run Tryz.prog w = .ok (.value (.bool (!decide (m = m')))) w := by
  have h := bs_eqT m m'
  unfold execOp
  simp only [ho, hx, hy]
  go_simp
end
theorem cell_keep {w w' : World} {p : Addr} {v : Value} (h : w.cell? p = some v) (hb : Below w.heap.size w w') : w'.cell? p = some v := by rw [hb.cell (cell_lt h)]; exact h
theorem store_u8 {w : World} {p : Addr} {c : Int} {v : Value} (h : w.cell? p = some v) (hf : w.frozen? p = false) : (Instr.storeAt 5 (.pointer (some p)) (.int .u8 c)).run Tryz.prog w = .ok () (w.setCell p (.int .u8 c)) := by go_simp
theorem load_u8 {w : World} {p : Addr} {v : Value} (h : w.cell? p = some v) : (Instr.loadAt 5 (.pointer (some p))).run Tryz.prog w = .ok v w := by go_simp
theorem load_u64 {w : World} {p : Addr} {v : Value} (h : w.cell? p = some v) : (Instr.loadAt 45 (.pointer (some p))).run Tryz.prog w = .ok v w := by go_simp
def IsTV {α : Type} (R : Rp α) (v : Value) (xs : List α) (c : Value) : Prop := ∃ r, v = .tuple #[r, c] ∧ IsFs R r xs
theorem run_extractV0 {α : Type} {R : Rp α} {ev : Operand → Value} {o : Oper} {x : Operand} {xs : List α} {c : Value} {w : World} (ho : o.op = .extract x 0) (h : IsTV R (ev x) xs c) : ∃ v, (execOp ev o).run Tryz.prog w = .ok (.value v) w ∧ IsFs R v xs := by
  obtain ⟨r, e, h1⟩ := h
  refine ⟨r, ?_, h1⟩
  unfold execOp
  simp only [ho, e]
  simp [Instr.extract]
theorem run_extractV1 {α : Type} {R : Rp α} {ev : Operand → Value} {o : Oper} {x : Operand} {xs : List α} {c : Value} {w : World} (ho : o.op = .extract x 1) (h : IsTV R (ev x) xs c) : ∃ v, (execOp ev o).run Tryz.prog w = .ok (.value v) w ∧ v = c := by
  obtain ⟨r, e, h1⟩ := h
  refine ⟨c, ?_, rfl⟩
  unfold execOp
  simp only [ho, e]
  simp [Instr.extract]
def mrg : List Value → List (Nat × Nat) → (Nat → Value) → List Value
  | l, [], _ => l
  | [], _ :: _, _ => []
  | _ :: l, (0, i) :: p, u => u i :: mrg l p u
  | a :: l, (s + 1, i) :: p, u => a :: mrg l ((s, i) :: p) u
theorem mrg_at (j : Nat) (p : List (Nat × Nat)) (u : Nat → Value) : ∀ (s : Nat) (l : List Value), mrg l ((s, j) :: p) u = if s < l.length then l.take s ++ u j :: mrg (l.drop (s + 1)) p u else l
  | 0, [] => by simp [mrg]
  | 0, a :: l => by simp [mrg]
  | s + 1, [] => by simp [mrg]
  | s + 1, a :: l => by
    rw [mrg, mrg_at j p u s l]
    by_cases h : s < l.length
    · rw [if_pos h, if_pos (by simpa using h)]; simp
    · rw [if_neg h, if_neg (by simpa using h)]
def hasI (p : List (Nat × Nat)) (i : Nat) : Bool := p.any fun x => x.2 == i
def hasP : List (Nat × Nat) → Nat → Nat → Bool
  | [], _, _ => false
  | (s, j) :: p, d, i => if j == i then d == s && !hasI p i else decide (s < d) && hasP p (d - s - 1) i
def onceP : List (Nat × Nat) → Bool
  | [] => true
  | (_, j) :: p => !hasI p j && onceP p
theorem mrg_out {i : Nat} {v : Value} {u : Nat → Value} : ∀ (p : List (Nat × Nat)) (l : List Value), hasI p i = false → mrg l p (putV u i v) = mrg l p u
  | [], l, _ => by cases l <;> simp [mrg]
  | (s, j) :: p, l, h => by
    simp only [hasI, List.any_cons, Bool.or_eq_false_iff] at h
    rw [mrg_at, mrg_at, mrg_out p _ h.2, putV_ne (by simpa using h.1)]
theorem mrg_put {i : Nat} {v : Value} {u : Nat → Value} : ∀ (p : List (Nat × Nat)) (d : Nat) (l : List Value), hasP p d i = true → mrg l p (putV u i v) = (mrg l p u).set d v
  | [], d, l, h => by simp [hasP] at h
  | (s, j) :: p, d, l, h => by
    rw [hasP] at h
    rw [mrg_at, mrg_at]
    by_cases hj : j = i
    · subst hj
      rw [if_pos (by simp)] at h
      simp only [Bool.and_eq_true, beq_iff_eq, Bool.not_eq_true'] at h
      obtain ⟨rfl, h2⟩ := h
      by_cases hl : d < l.length
      · rw [if_pos hl, if_pos hl, mrg_out p _ h2, putV_same, List.set_append_right _ _ (by rw [List.length_take]; omega), List.length_take, Nat.min_eq_left (by omega), Nat.sub_self, List.set_cons_zero]
      · rw [if_neg hl, if_neg hl, List.set_eq_of_length_le (by omega)]
    · rw [if_neg (by simpa using hj)] at h
      simp only [Bool.and_eq_true, decide_eq_true_eq] at h
      by_cases hl : s < l.length
      · rw [if_pos hl, if_pos hl, mrg_put p _ _ h.2, putV_ne hj, List.set_append_right _ _ (by rw [List.length_take]; omega), List.length_take, Nat.min_eq_left (by omega), show d - s = (d - s - 1) + 1 by omega, List.set_cons_succ]
        rfl
      · rw [if_neg hl, if_neg hl, List.set_eq_of_length_le (by omega)]
theorem mrg_self : ∀ (p : List (Nat × Nat)) (l : List Value), onceP p = true → ∃ u, mrg l p u = l
  | [], l, _ => ⟨fun _ => undef, by cases l <;> simp [mrg]⟩
  | (s, j) :: p, l, h => by
    simp only [onceP, Bool.and_eq_true, Bool.not_eq_true'] at h
    obtain ⟨u, hu⟩ := mrg_self p (l.drop (s + 1)) h.2
    by_cases hl : s < l.length
    · refine ⟨putV u j l[s], ?_⟩
      rw [mrg_at, if_pos hl, mrg_out p _ h.1, hu, putV_same, List.getElem_cons_drop, List.take_append_drop]
    · exact ⟨u, by rw [mrg_at, if_neg hl]⟩
def okP (p : List (Nat × Nat)) (ops : Array Oper) : Bool := onceP p && (List.range ops.size).all fun i => match (ops[i]?).bind (·.dst) with | some d => hasP p d i | none => !hasI p i
theorem okP_put {p : List (Nat × Nat)} {ops : Array Oper} (h : okP p ops = true) {fr : (Nat → Value) → Array Value} {F : List Value} {df : List Deferred} (hF : ∀ u, (mrg F p u).toArray = fr u) (u : Nat → Value) (i : Nat) (v : Value) (hi : i < ops.size) :
    (⟨fr u, df⟩ : Act).put ((ops[i]?).bind (·.dst)) v = ⟨fr (putV u i v), df⟩ := by
  simp only [okP, Bool.and_eq_true, List.all_eq_true, List.mem_range] at h
  have h2 := h.2 i hi
  cases hd : (ops[i]?).bind (·.dst) with
  | none =>
    rw [hd] at h2
    rw [← hF, ← hF, mrg_out p F (by simpa using h2)]; rfl
  | some d =>
    rw [hd] at h2
    rw [← hF, ← hF, mrg_put p d F h2]
    simp [Act.put]
section
variable {F : List Value} {fr : (Nat → Value) → Array Value} {df : List Deferred} {ops : Array Oper} {id : Nat} {Q : Exit → Act → World → Prop} {w : World}
theorem rgT (p : List (Nat × Nat)) (l : List Fact)
    (hsteps : Soft inTurn (Holds l w) → AllSteps Tryz.prog ops inTurn Q fr df (Holds l w) (Keep l w) 0 ops.toList)
    (hdone : ∀ L u W, (∀ i, i < ops.size → L i = true) → Keep l w L u W → (∀ k, k < ops.size → Holds l w k L u W) → Q .normal ⟨fr u, df⟩ W)
    (hF : ∀ u, (mrg F p u).toArray = fr u := by intro u; dsimp only [mrg]; try exact rfl)
    (hc : okP p ops = true := by kernel_rfl) (hso : ownersOk inTurn l = true := by kernel_rfl) : (Code.region id ops false).wp Tryz.prog Q ⟨F.toArray, df⟩ w := by
  obtain ⟨u0, hu⟩ := mrg_self p F (by simp only [okP, Bool.and_eq_true] at hc; exact hc.1)
  exact wp_region_turn (a := ⟨F.toArray, df⟩) fr (Holds l w) (Keep l w) u0 (okP_put hc hF) (by rw [← hF, hu]) Keep.start (holds_soft hso) hsteps hdone
theorem rgM (p : List (Nat × Nat)) (l : List Fact)
    (hsteps : Soft (waitsOn .any ops) (Holds l w) → AllSteps Tryz.prog ops (waitsOn .any ops) Q fr df (Holds l w) (Keep l w) 0 ops.toList)
    (hdone : ∀ L u W, (∀ i, i < ops.size → L i = true) → Keep l w L u W → (∀ k, k < ops.size → Holds l w k L u W) → Q .normal ⟨fr u, df⟩ W)
    (hF : ∀ u, (mrg F p u).toArray = fr u := by intro u; dsimp only [mrg]; try exact rfl)
    (hc : okP p ops = true := by kernel_rfl) (hso : ownersOk (waitsOn .any ops) l = true := by kernel_rfl)
    (hm : Tryz.prog.follows .mixedOrders = true := by kernel_rfl) (he : earlier .any ops = true := by kernel_rfl) : (Code.region id ops true).wp Tryz.prog Q ⟨F.toArray, df⟩ w := by
  obtain ⟨u0, hu⟩ := mrg_self p F (by simp only [okP, Bool.and_eq_true] at hc; exact hc.1)
  exact wp_region_mid (a := ⟨F.toArray, df⟩) fr (Holds l w) (Keep l w) u0 hm he (okP_put hc hF) (by rw [← hF, hu]) Keep.drew (holds_soft hso) hsteps hdone
end
def othAt (l : List Fact) (i : Nat) : Value → Prop := match factAt l i with | .oth φ => φ | _ => fun _ => False
def mvArg : Op → Operand
  | .move x => x
  | .assign x => x
  | _ => .const (.bool false)
def isMv : Op → Bool
  | .move _ => true
  | .assign _ => true
  | _ => false
theorem isMv_or {o : Op} (h : isMv o = true) : o = .move (mvArg o) ∨ o = .assign (mvArg o) := by
  cases o <;> first | exact .inl rfl | exact .inr rfl | (cases h; done)
section
variable {α : Type} {R : Rp α} {ops : Array Oper} {wt : Nat → Nat → Bool} {Q : Exit → Act → World → Prop} {fr : (Nat → Value) → Array Value} {df : List Deferred} {l : List Fact} {W0 : World} {i : Nat} {o : Oper}
theorem Wn {G : Nat → (Nat → Bool) → (Nat → Value) → World → Prop} (h : o.guard = none := by rfl) : Wants ops wt fr G i o true := wants_none h
theorem Na {b : Nat} (h : noSto wt l i = true := by kernel_rfl) : Apart wt l i b := noSto_apart h
theorem gO {x : Operand} {xs : List α} (j : Nat) (hj : factAt l j = .val R xs := by rfl) (hw : wt i j = true := by kernel_rfl) (hx : ∀ u, (⟨fr u, df⟩ : Act).eval x = u j := by exact fun _ => rfl) : Gives R wt fr df l W0 i x xs := gives_op j hj hw hx
theorem oE (X : Value) {L : Nat → Bool} {u : Nat → Value} {w : World} (hG : ∀ k, L k = true → Holds l W0 k L u w) (hd : ∀ d, wt i d = true → L d = true) (j : Nat) (hf : factAt l j = .oth (fun v => v = X) := by rfl) (hw : wt i j = true := by kernel_rfl) : u j = X := by
  have h := hG j (hd j hw)
  unfold Holds at h
  rw [hf] at h
  exact h
theorem vE (R : Rp α) (xs : List α) {L : Nat → Bool} {u : Nat → Value} {w : World} (hG : ∀ k, L k = true → Holds l W0 k L u w) (hd : ∀ d, wt i d = true → L d = true) (j : Nat) (hf : factAt l j = .val R xs := by rfl) (hw : wt i j = true := by kernel_rfl) : IsFs R (u j) xs := by
  have h := hG j (hd j hw)
  unfold Holds at h
  rw [hf] at h
  exact h
theorem mvO (j : Nat) (hs : Soft wt (Holds l W0)) (hg : o.guard = none := by rfl) (ho : isMv o.op = true := by rfl) (hj : factAt l j = .oth (othAt l j) := by rfl) (hf : factAt l i = .oth (othAt l j) := by rfl) (hw : wt i j = true := by kernel_rfl)
    (hx : ∀ u, (⟨fr u, df⟩ : Act).eval (mvArg o.op) = u j := by exact fun _ => rfl) : StepAt Tryz.prog ops wt Q fr df (Holds l W0) (Keep l W0) i o := by
  refine step_pureO hs (wants_none hg) hf fun L u W hG hdep => ⟨u j, ?_, ?_⟩
  · rcases isMv_or ho with h | h
    · have := run_move (ev := (⟨fr u, df⟩ : Act).eval) (w := W) h; rw [hx] at this; exact this
    · have := run_assign (ev := (⟨fr u, df⟩ : Act).eval) (w := W) h; rw [hx] at this; exact this
  · have h := hG j (hdep j hw)
    unfold Holds at h
    rw [hj] at h
    exact h
theorem mvK (hs : Soft wt (Holds l W0)) (h : ∀ u, othAt l i ((⟨fr u, df⟩ : Act).eval (mvArg o.op))) (hg : o.guard = none := by rfl) (ho : isMv o.op = true := by rfl) (hf : factAt l i = .oth (othAt l i) := by rfl) : StepAt Tryz.prog ops wt Q fr df (Holds l W0) (Keep l W0) i o := by
  refine step_pureO hs (wants_none hg) hf fun L u W hG hdep => ⟨_, ?_, h u⟩
  rcases isMv_or ho with h | h
  · exact run_move h
  · exact run_assign h
end
section
variable {α : Type} {m : Nat} {l : List Fact} {W0 W w : World} {L : Nat → Bool} {u : Nat → Value} {wt : Nat → Nat → Bool} {i : Nat}
theorem tgt_one {g0 b k : Nat} (ht : l.filterMap Fact.tgt = [g0]) (hk : (factAt l k).tgt = some b) : b = g0 := by
  have hm : b ∈ l.filterMap Fact.tgt := by
    rw [List.mem_filterMap]
    unfold factAt at hk
    cases h : l[k]? with
    | none => rw [h] at hk; cases hk
    | some f => rw [h] at hk; exact ⟨f, List.mem_of_getElem? h, hk⟩
  rw [ht] at hm
  simpa using hm
theorem Keep.at1 {g0 b : Nat} (hJ : Keep l W0 L u W) (hb : b < W0.heap.size) (h : g0 ≠ b) (ht : l.filterMap Fact.tgt = [g0]) : W.heap[b]? = W0.heap[b]? :=
  hJ.block b hb fun _ hk => absurd (tgt_one ht hk).symm h
theorem kB {R : Rp α} {x : α} {xs : List α} {g0 b o : Nat} (hm : HasFs R W0 b o (x :: xs)) (hJ : Keep l W0 L u W) (h : g0 ≠ b) (ht : l.filterMap Fact.tgt = [g0] := by rfl) : HasFs R W b o (x :: xs) := hm.blk (hJ.at1 hm.lt h ht)
theorem kC {R : Rp α} {x : α} {xs : List α} {g0 b o : Nat} (hm : HasFs R W0 b o (x :: xs)) (hJ : Keep l W0 L u W) (h : b ≠ g0) (ht : l.filterMap Fact.tgt = [g0] := by rfl) : HasFs R W b o (x :: xs) := hm.blk (hJ.at1 hm.lt (Ne.symm h) ht)
theorem tB {g0 b n : Nat} (hm : W0.there b 0 n) (hJ : Keep l W0 L u W) (h : g0 ≠ b) (ht : l.filterMap Fact.tgt = [g0] := by rfl) (hn : 0 < n := by omega) : W.there b 0 n := there_blk hm (hJ.at1 (there_lt hm hn) h ht)
theorem tC {g0 b n : Nat} (hm : W0.there b 0 n) (hJ : Keep l W0 L u W) (h : b ≠ g0) (ht : l.filterMap Fact.tgt = [g0] := by rfl) (hn : 0 < n := by omega) : W.there b 0 n := there_blk hm (hJ.at1 (there_lt hm hn) (Ne.symm h) ht)
theorem Keep.beN {g0 : Nat} (hJ : Keep l W0 L u W) (hbel : Below w.heap.size w W0) (ht : l.filterMap Fact.tgt = [g0] := by rfl) (hg : w.heap.size ≤ g0 := by omega) : Below w.heap.size W0 W :=
  hJ.below hbel.size fun _ _ hk => by rw [tgt_one ht hk]; exact hg
theorem apN {g0 b : Nat} (h : g0 ≠ b) (ht : l.filterMap Fact.tgt = [g0] := by rfl) : Apart wt l i b := fun _ _ hk => .inr (by rw [tgt_one ht hk]; exact h)
theorem oN (n : Nat) (hG : ∀ k, k < m → Holds l W0 k L u W) (j : Nat) (hf : factAt l j = .new n := by rfl) (hj : j < m := by simp) : ∃ g, u j = .pointer (some ⟨g, 0, none⟩) ∧ W0.heap.size ≤ g ∧ 0 < n ∧ W.there g 0 n := by
  have h := hG j hj
  unfold Holds at h
  rw [hf] at h
  exact h
theorem oS (R : Rp α) (xs : List α) (hG : ∀ k, k < m → Holds l W0 k L u W) (j : Nat) {a g : Nat} (he : u a = .pointer (some ⟨g, 0, none⟩)) (hf : factAt l j = .st a R xs := by rfl) (hj : j < m := by simp) : HasFs R W g 0 xs := by
  have h := hG j hj
  unfold Holds at h
  rw [hf] at h
  obtain ⟨q, e, _, h⟩ := h
  rw [he] at e
  cases e
  exact h
theorem oB (n : Nat) (R : Rp α) (xs : List α) (hG : ∀ k, k < m → Holds l W0 k L u W) (j : Nat) (hf : factAt l j = .box R xs := by rfl) (hn : R.n * xs.length = n := by rfl) (hj : j < m := by simp) : ∃ g, u j = .pointer (some ⟨g, 0, none⟩) ∧ (W0.heap.size ≤ g ∧ g < W.heap.size) ∧ W.there g 0 n ∧ HasFs R W g 0 xs := by
  have h := hG j hj
  unfold Holds at h
  rw [hf] at h
  subst hn
  exact h
theorem oT (n : Nat) (R : Rp α) (xs : List α) (hG : ∀ k, k < m → Holds l W0 k L u W) (j : Nat) {g : Nat} (hf : factAt l j = .sto g R xs := by rfl) (hn : R.n * xs.length = n := by rfl) (hj : j < m := by simp) : g < W0.heap.size ∧ W.there g 0 n ∧ HasFs R W g 0 xs := by
  have h := hG j hj
  unfold Holds at h
  rw [hf] at h
  subst hn
  exact h
theorem oC (X : Value) (hG : ∀ k, k < m → Holds l W0 k L u W) (j : Nat) (hf : factAt l j = .oth (fun v => v = X) := by rfl) (hj : j < m := by simp) : Hid (u j = X) := by
  have h := hG j hj
  unfold Holds at h
  rw [hf] at h
  exact Lib.hid h
theorem oV (R : Rp α) (xs : List α) (hG : ∀ k, k < m → Holds l W0 k L u W) (j : Nat) (hf : factAt l j = .val R xs := by rfl) (hj : j < m := by simp) : IsFs R (u j) xs := by
  have h := hG j hj
  unfold Holds at h
  rw [hf] at h
  exact h
theorem tillN {L : Nat → Bool} : till L none := fun _ e => nomatch e
theorem oW (φ : WP) (hG : ∀ k, k < m → Holds l W0 k L u W) (j : Nat) (hf : factAt l j = .wld φ none := by rfl) (hj : j < m := by simp) : φ.P (u j) W := by
  have h := hG j hj
  unfold Holds at h
  rw [hf] at h
  exact h tillN
theorem hW (φ : WP) (hG : ∀ k, L k = true → Holds l W0 k L u W) (hd : ∀ d, wt i d = true → L d = true) (j : Nat) (hf : factAt l j = .wld φ none := by rfl) (hw : wt i j = true := by kernel_rfl) : φ.P (u j) W := by
  have h := hG j (hd j hw)
  unfold Holds at h
  rw [hf] at h
  exact h tillN
theorem hV (φ : WP) (hG : ∀ k, L k = true → Holds l W0 k L u W) (hd : ∀ d, wt i d = true → L d = true) (hL : L i = false) (j : Nat) (hf : factAt l j = .wld φ (some i) := by rfl) (hw : wt i j = true := by kernel_rfl) : φ.P (u j) W := by
  have h := hG j (hd j hw)
  unfold Holds at h
  rw [hf] at h
  exact h fun k e => by cases e; exact hL
end
section
variable {α : Type} {R : Rp α} {ops : Array Oper} {wt : Nat → Nat → Bool} {Q : Exit → Act → World → Prop} {fr : (Nat → Value) → Array Value} {df : List Deferred} {l : List Fact} {W0 : World} {i : Nat} {o : Oper}
theorem step_callRt {bs : List UInt8} {v : Nat} (hs : Soft wt (Holds l W0)) (hg : Wants ops wt fr (Holds l W0) i o true) (hf : factAt l i = .rdt bs v)
  (h : ∀ L u w, Keep l W0 L u w → (∀ k, L k = true → Holds l W0 k L u w) → L i = false → (∀ d, wt i d = true → L d = true) → ∀ K : Act → World → Prop,
   Shut (∀ g n cap r w', w.heap.size ≤ g → Blk w' g (bs.map bV ++ r) 5 → bs.length = n → n ≤ cap → cap ≤ maxLen → Below w.heap.size w w' → K ((⟨fr u, df⟩ : Act).put o.dst (.slice (some ⟨g, 0, none⟩) n cap)) w') → Oper.wp Tryz.prog o ⟨fr u, df⟩ w K Q) :
  StepAt Tryz.prog ops wt Q fr df (Holds l W0) (Keep l W0) i o :=
 StepAt.soft hs hg fun L u W _ hJ hG hL hdep K hK => h L u W hJ hG hL hdep K (fun g n cap r w' h1 h2 h3 h4 h5 hb => hK.out _ w' hb (hJ.later hb (by rw [hf]; rfl)) (by
  unfold Holds; rw [hf]; simp only; rw [putV_same]
  exact ⟨g, n, cap, r, rfl, Nat.le_trans hJ.size h1, h3, h4, h5, fun _ => h2⟩))
end
end Go.Proofs.YtielgpefoameiaaGreat
namespace Go.Proofs.YtielgpefoameiaaGreat
open Go.RowKit
theorem Blk.row {w : World} {g E : Nat} {old : List Value} (h : Blk w g old E) (cs : List Value) : Blk (w.setRow g cs.toArray) g cs E := setRow_heap w g _ cs.toArray E _ h
theorem Blk.rowOther {w : World} {g E : Nat} {cs : List Value} (h : Blk w g cs E) (k : Nat) (hk : g ≠ k) (c : Array Value) : Blk (w.setRow k c) g cs E := by
  unfold Blk at *
  rw [setRow_other w k g c hk]; exact h
theorem st_blk {w : World} {g E : Nat} {old cs : List Value} (h : Blk w g old E) (hl : cs.length = old.length) (h1 : ∀ v ∈ cs, v.oneCell' = true) :
    (storeCells ⟨g, 0, none⟩ cs).run Tryz.prog w = .ok () (w.setRow g cs.toArray) := by
  have := run_storeCells_from (P := Tryz.prog) g E cs 0 old.toArray w h (by simp [hl]) h1
  simpa using this
theorem Blk.range {w : World} {g E : Nat} {cs : List Value} (h : Blk w g cs E) : w.rangeAt g 0 cs := fun j v hv => by rw [Nat.zero_add, h.cell]; exact hv
end Go.Proofs.YtielgpefoameiaaGreat
namespace Go.Proofs.YtielgpefoameiaaGreat
open Go Go.RowKit
theorem own_none (w : World) (E : TypeId) (base : Nat) (hb : base ≤ w.heap.size) : (w.alloc (.cells #[] E)).ownsRow base E 1 (.slice (some ⟨w.heap.size, 0, none⟩) 0 0) 0 [] :=
 ⟨rfl, .inr ⟨w.heap.size, 0, #[], rfl, hb, (by show (w.heap.push _)[w.heap.size]? = _; simp), by omega, by simp, rfl, rfl⟩⟩
theorem run_eqIn_nilB (w : World) (d : Nat) (a : Option Addr) (l c : Nat) : (Op.equalIn (d + 1) 22 (.slice a l c) (.slice none 0 0)).run Tryz.prog w = .ok a.isNone w := by
 cases a <;> simp [Op.equalIn, run_underlying Tryz.underlying22]
theorem run_eq_nilB (w : World) (a : Option Addr) (l c : Nat) : (Op.equal 22 (.slice a l c) (.slice none 0 0)).run Tryz.prog w = .ok a.isNone w := run_eqIn_nilB w 9999 a l c
theorem run_eql_nilB (a : Option Addr) (l c : Nat) (w : World) : (binOp .eql 22 (.slice a l c) (.slice none 0 0)).run Tryz.prog w = .ok (.bool a.isNone) w := by
 simp [binOp, run_eq_nilB w a l c]
def NewB (w : World) (l : List UInt8) (e : Ending) (w' : World) : Prop := ∃ g n cap r, e = .returned (.slice (some ⟨g, 0, none⟩) n cap) ∧ w.heap.size ≤ g ∧ Blk w' g (l.map bV ++ r) 5 ∧ l.length = n ∧ n ≤ cap ∧ cap ≤ maxLen ∧ Below w.heap.size w w'
set_option maxHeartbeats 1000000 in
theorem clone_any {a : Option Addr} {n cap : Nat} {l : List UInt8} (w : World) (h : RdB w a n cap l) (hn : 0 < n) (hm : n ≤ 1000000) :
  Calls Tryz.prog 30 #[.slice a n cap] w (NewB w l) := by
 have hl := h.hlen
 obtain ⟨b, q, rfl, hc0⟩ := h.get 0 (by omega)
 clear hc0
 have HL := Lib.hid hl; have HN := Lib.hid hn; have HM := Lib.hid hm
 clear hl hn hm
 have hq := run_eql_nilB (some ⟨b, q, none⟩) n cap
 rw [show (some (⟨b, q, none⟩ : Addr)).isNone = false from rfl] at hq
 go_enter Tryz.func30, Tryz.ntmps30
 go_wp2_with (at_builtin; go_must (refine app_bytes _ rfl (.tmp 5) (.tmp 6) rfl w.heap.size _ 0 [] rfl (own_none w 5 w.heap.size (Nat.le_refl _)) _ _ _ l rfl (by exact h.below belowBy) (by have := HM.out; omega) (by simp) w (by exact belowBy) ?_; intro v1 w1 hown hb1; rw [Nat.zero_add, List.nil_append] at hown; obtain ⟨gc, cc, rc, rfl, hgc, hC, _, hcc, hmc⟩ := own_rdb (l := l) hown HN.out; have HC := Lib.hid hC; clear hC hown))
 go_wp2
 go_ret
 exact ⟨gc, n, cc, rc, rfl, hgc, HC.out, HL.out, hcc, hmc, hb1⟩
set_option maxHeartbeats 400000 in
theorem bmul_32 (w : World) : Calls Tryz.prog 109 #[.int .u64 1, .int .u64 32] w fun e w' => e = .returned (.tuple #[.int .u64 0, .int .u64 32]) ∧ w' = w := by
 have h := mul64_any (x := 1) (y := 32) ⟨by omega, by omega⟩ ⟨by omega, by omega⟩ w
 rw [show (1 : Int) * 32 / 18446744073709551616 = 0 by omega, show (1 : Int) * 32 % 18446744073709551616 = 32 by omega] at h
 go_enter Tryz.func109, Tryz.ntmps109
 go_wp2_with (go_at_call 69; go_must (refine h.mono ?_; rintro e w1 ⟨rfl, rfl⟩))
 go_ret2
 exact ⟨rfl, rfl⟩
def rpV (c : UInt8) (n i : Nat) : Value := if i < n then bV c else .int .u8 0
theorem rp_one (c : UInt8) (n : Nat) : ∀ v ∈ row n (fun _ => bV c), v.oneCell' = true := fun v hv => by
 simp [row] at hv
 obtain ⟨i, _, rfl⟩ := hv
 rfl
theorem rp_dbl (k : Nat) (hk : k < 5) : splice (row 32 (rpV 102 (2 ^ k))) (2 ^ k) (row (2 ^ k) (fun _ => bV 102)) = row 32 (rpV 102 (2 ^ (k + 1))) := by
 have h : k = 0 ∨ k = 1 ∨ k = 2 ∨ k = 3 ∨ k = 4 := by omega
 rcases h with rfl | rfl | rfl | rfl | rfl <;> exact rfl
theorem rp_first : splice (row 32 (rpV 102 0)) 0 [bV 102] = row 32 (rpV 102 1) := by kernel_rfl
theorem rp_full (c : UInt8) : row 32 (rpV c 32) = (List.replicate 32 c).map bV := by
 simp [row, rpV, List.range, List.range.loop, List.replicate]
theorem make32r (w : World) : (Instr.makeSlice 22 (.int .i64 32) (.int .i64 32)).run Tryz.prog w = .ok (.slice (some ⟨w.heap.size, 0, none⟩) 32 32) (w.alloc (.cells (row 32 (rpV 102 0)).toArray 5)) := by kernel_rfl
set_option maxHeartbeats 4000000 in
theorem repeat_32 {g : Nat} (w : World) (hg : Blk w g [bV 102] 5) :
  Calls Tryz.prog 57 #[.slice (some ⟨g, 0, none⟩) 1 1, .int .i64 32] w fun e w' => e = .returned (.slice (some ⟨w.heap.size, 0, none⟩) 32 32) ∧ Blk w' w.heap.size ((List.replicate 32 102).map bV) 5 ∧ Below w.heap.size w w' := by
 have hmk := make32r
 go_enter Tryz.func57, Tryz.ntmps57
 go_upto_region 7 with (go_at_call 109; go_must (refine (bmul_32 _).mono ?_; rintro e w1 ⟨rfl, rfl⟩))
 have hB : Blk (w1.alloc (.cells (row 32 (rpV 102 0)).toArray 5)) w1.heap.size (row 32 (rpV 102 0)) 5 := Blk.new _ _ _
 have hb1 : Below w1.heap.size w1 (w1.alloc (.cells (row 32 (rpV 102 0)).toArray 5)) := (Below.refl _ _).alloc (Nat.le_refl _) _
 have hg1 := hg.alloc (.cells (row 32 (rpV 102 0)).toArray 5)
 generalize w1.alloc (.cells (row 32 (rpV 102 0)).toArray 5) = W at *
 have hsrc : 0 < [bV 102].length → (some (⟨w1.heap.size, 0, none⟩ : Addr)) = some ⟨w1.heap.size, 0, none⟩ ∧ ∃ ad, (some (⟨g, 0, none⟩ : Addr)) = some ad ∧ ∀ j v, [bV 102][j]? = some v → W.cell? (ad.add j) = some v := fun _ => ⟨rfl, _, rfl, fun j v hv => by
  rw [addr_add, Nat.zero_add, hg1.cell]; exact hv⟩
 go_wp2_with (refine wpList_copy_splice rfl (.tmp 31) (.tmp 32) 22 22 rfl 5 Tryz.underlying22 infoSz _ _ _ _ _ _ rfl rfl w1.heap.size 0 (row 32 (rpV 102 0)) 5 hB [bV 102] rfl hsrc (by rw [row_len]; decide) (rp_one 102 1) w1.heap.size w1 hb1 (Nat.le_refl _) ?_; intro w2 hB2 hb2; rw [rp_first] at hB2; clear hsrc hg1 hb1 hB hg hmk)
 have hn1 : (1 : Int) = ((2 ^ 0 : Nat) : Int) := rfl
 rw [hn1]
 clear hn1
 have hB20 : Blk w2 w1.heap.size (row 32 (rpV 102 (2 ^ 0))) 5 := hB2.out
 clear hB2
 go_loopw [8] (fun s wr => ∃ k : Nat, k ≤ 5 ∧ s = .int .i64 ((2 ^ k : Nat) : Int) ∧ Blk wr w1.heap.size (row 32 (rpV 102 (2 ^ k))) 5 ∧ Below w1.heap.size w1 wr) (fun s _ => 32 - (intOf s).toNat)
 case atStart => exact ⟨0, by omega, rfl, hB20, hb2⟩
 case round =>
  obtain ⟨k, hk, rfl, hB, hb⟩ := hrel
  clear hB20 hb2
  by_cases hlt : k < 5
  ·have hp : 0 < 2 ^ k ∧ 2 ^ k ≤ 16 := by
    have h : k = 0 ∨ k = 1 ∨ k = 2 ∨ k = 3 ∨ k = 4 := by omega
    rcases h with rfl | rfl | rfl | rfl | rfl <;> decide
   have hd := rp_dbl k hlt
   have hs : 2 ^ (k + 1) = 2 ^ k + 2 ^ k := by rw [Nat.pow_succ]; omega
   rw [hs] at hd
   have HS := Lib.hid hs
   generalize 2 ^ k = n at *
   obtain ⟨hp1, hp2⟩ := hp
   have hsrc : 0 < (row n (fun _ => bV 102)).length → (some (⟨w1.heap.size, n, none⟩ : Addr)) = some ⟨w1.heap.size, n, none⟩ ∧ ∃ ad, (some (⟨w1.heap.size, 0, none⟩ : Addr)) = some ad ∧ ∀ j v, (row n (fun _ => bV 102))[j]? = some v → wr.drew.cell? (ad.add j) = some v := fun _ => ⟨rfl, _, rfl, fun j v hv => by
    have hj : j < n := by have := (List.getElem?_eq_some_iff.1 hv).1; rwa [row_len] at this
    rw [addr_add, Nat.zero_add, (Blk.drew hB).at (by omega), ← hv, row_get hj]
    unfold rpV; rw [if_pos hj]⟩
   have c1 : decide ((n : Int) < 32) = true := decide_eq_true (by omega)
   have hb1 : ∀ v ∈ row n (fun _ => bV 102), v.oneCell' = true := rp_one 102 n
   have hn32 : ((32 : Int) - (n : Int)) = ((32 - n : Nat) : Int) := by omega
   have hle : (n : Int) ≤ 32 := by omega
   have hne : ¬ (32 = n) := by omega
   have HB := Lib.hid hB; have HBB := Lib.hid hb; have HD := Lib.hid hd
   clear hB hb hd
   go_upto_region 9 with fail
   go_region_law (refine step_copy_splice rfl (.tmp 41) (.tmp 44) 22 22 rfl 5 Tryz.underlying22 infoSz (some ⟨w1.heap.size, n, none⟩) (some ⟨w1.heap.size, 0, none⟩) (32 - n) (32 - n) n 32 (by simp [Act.eval, Act.put]) (by simp [Act.eval, Act.put]) w1.heap.size n (row 32 (rpV 102 n)) 5 (Blk.drew HB.out) (row n (fun _ => bV 102)) (by rw [row_len]; show n = min n (32 - n); omega) hsrc (by rw [row_len, row_len]; omega) hb1 w1.heap.size w1 (Below.drew HBB.out) (Nat.le_refl _) ?_; intro w4 hg4 hb4)
   all_goals
    have hB4 : Blk w4 w1.heap.size (row 32 (rpV 102 (n + n))) 5 := by rw [← HD.out]; exact hg4.out
    have hlen : IntKind.i64.wrap ((n : Int) + ((row n (fun _ => bV 102)).length : Nat)) = ((n + n : Nat) : Int) := by rw [row_len, IntKind.wrap_i64]; omega
    rw [hlen, ← HS.out]
    rw [← HS.out] at hB4
    have HB4 := Lib.hid hB4
    clear hlen hB4 hg4 hsrc hb1 hn32 HB HBB HD hle hne
    (try go_simp)
    (try simp only [Act.put, List.setIfInBounds_toArray, List.set_cons_zero, List.set_cons_succ])
    go_wp2
    go_roundw
    case rel => ((repeat apply Exists.intro); refine ⟨⟨k + 1, by omega, ?_, HB4.out, hb4⟩, rfl⟩; rw [HS.out, Int.natCast_add])
    case measure => simp [intOf] <;> omega
  ·obtain rfl : k = 5 := by omega
   rw [show 2 ^ 5 = 32 from rfl] at *
   have HB := Lib.hid hB
   clear hB
   go_wp2
   go_ret
   exact ⟨rfl, by rw [← rp_full]; exact HB.out, hb⟩
theorem repeat_32' {g k : Nat} {w : World} (hk : k = w.heap.size) (hg : Blk w g [bV 102] 5) :
  Calls Tryz.prog 57 #[.slice (some ⟨g, 0, none⟩) 1 1, .int .i64 32] w fun e w' => e = .returned (.slice (some ⟨k, 0, none⟩) 32 32) ∧ Blk w' k ((List.replicate 32 102).map bV) 5 ∧ Below w.heap.size w w' := by subst hk; exact repeat_32 w hg
end Go.Proofs.YtielgpefoameiaaGreat
namespace Go.Proofs.YtielgpefoameiaaGreat
open Go.RowKit
structure RdRows (w : World) (a : Option Addr) (n cap : Nat) (ls : List (List UInt8)) : Prop where
 hlen : ls.length = n
 hcap : n ≤ cap
 hmax : cap ≤ maxLen
 get : ∀ i (h : i < ls.length), ∃ b o sa sn sc, a = some ⟨b, o, none⟩ ∧ w.cell? ⟨b, o + i, none⟩ = some (.slice sa sn sc) ∧ RdB w sa sn sc ls[i]
theorem RdRows.below {w w' : World} {a : Option Addr} {n cap : Nat} {ls : List (List UInt8)} (h : RdRows w a n cap ls) (hb : Below w.heap.size w w') : RdRows w' a n cap ls := by
 refine ⟨h.hlen, h.hcap, h.hmax, fun i hi => ?_⟩
 obtain ⟨b, o, sa, sn, sc, ha, hc, hr⟩ := h.get i hi
 exact ⟨b, o, sa, sn, sc, ha, by rw [hb.cell (cell_lt hc)]; exact hc, hr.below hb⟩
theorem RdRows.cases {w : World} {a : Option Addr} {n cap : Nat} {ls : List (List UInt8)} (h : RdRows w a n cap ls) :
  (n = 0 ∧ ls = []) ∨ ∃ b o, 0 < n ∧ a = some ⟨b, o, none⟩ ∧ ∀ i (hi : i < ls.length), ∃ sa sn sc, w.cell? ⟨b, o + i, none⟩ = some (.slice sa sn sc) ∧ RdB w sa sn sc ls[i] := by
 by_cases h0 : n = 0
 ·exact .inl ⟨h0, List.eq_nil_of_length_eq_zero (by rw [h.hlen, h0])⟩
 ·obtain ⟨b, o, _, _, _, ha, _, _⟩ := h.get 0 (by have := h.hlen; omega)
  refine .inr ⟨b, o, by omega, ha, fun i hi => ?_⟩
  obtain ⟨b', o', sa, sn, sc, ha', hc, hr⟩ := h.get i hi
  rw [ha] at ha'
  simp at ha'
  obtain ⟨rfl, rfl⟩ := ha'
  exact ⟨sa, sn, sc, hc, hr⟩
def lens (ls : List (List UInt8)) (k : Nat) : Nat := (ls.take k).flatten.length
theorem lens_succ (ls : List (List UInt8)) (k : Nat) (h : k < ls.length) : lens ls (k + 1) = lens ls k + ls[k].length := by
 unfold lens; rw [List.take_succ_eq_append_getElem h, List.flatten_append, List.length_append, List.flatten_singleton]
theorem flat_succ (ls : List (List UInt8)) (k : Nat) (h : k < ls.length) : (ls.take (k + 1)).flatten = (ls.take k).flatten ++ ls[k] := by
 rw [List.take_succ_eq_append_getElem h, List.flatten_append, List.flatten_singleton]
theorem lens_le (ls : List (List UInt8)) (k : Nat) : lens ls k ≤ ls.flatten.length := by
 unfold lens
 conv => rhs; rw [← List.take_append_drop k ls, List.flatten_append, List.length_append]
 omega
set_option maxHeartbeats 4000000 in
theorem grow_any (n : Nat) (hn : n ≤ 70368744177664) (w : World) :
  Calls Tryz.prog 115 #[.slice none 0 0, .int .i64 n] w fun e w' => ∃ v, e = .returned v ∧ w'.ownsRow w.heap.size 5 1 v 0 [] ∧ Below w.heap.size w w' := by
 obtain ⟨i0, hi, hz0, hz1, hz2⟩ := info_parts infoU8
 by_cases h0 : n = 0
 ·subst h0
  go_enter Tryz.func115, Tryz.ntmps115
  go_wp2
  go_ret
  exact ⟨_, rfl, World.ownsRow_nil _ _ _ _, Below.refl _ _⟩
 ·have h1 : ¬ ((n : Int) < 0) := by omega
  have h4 : (n : Int) > 0 := by omega
  have hrz : ∀ ty, (Builtin.append_ #[22, 3] ty #[.slice none 0 0, .int .i64 (n : Int)]).run Tryz.prog w =
    .ok (.slice (some ⟨w.heap.size, 0, none⟩) n (grownCap w n 0 5)) (w.drew.alloc (.cells (([] : List Value).toArray ++ Builtin.zeroCells (Value.int .u8 0).cells n ++ Builtin.zeroCells (Value.int .u8 0).cells (grownCap w n 0 5 - n)) 5)) := fun ty => by
   have h := Lib.run_append_grow_zeros w 22 3 ty 5 i0 (.int .u8 0) .i64 .i64 Tryz.underlying22 Tryz.underlying3 hi hz0 none 0 0 [] (run_firstCells_none w.drew i0.size 0 0 0) n (by omega) (by omega) (by omega) (by omega)
    (by rw [hz2]; omega)
    (by rw [Nat.zero_add]; exact growslice_fits (by omega) (by rw [hz2]; omega))
   rw [Nat.zero_add] at h
   exact h
  have hGn : n ≤ grownCap w n 0 5 := grownCap_ge w _ _ _
  obtain ⟨G, hG⟩ : ∃ G, G = grownCap w n 0 5 := ⟨_, rfl⟩
  rw [← hG] at hrz hGn
  have hGm : G ≤ maxLen := by
   have := grownCap_le_maxLen w n 0 5 (by unfold maxLen; omega)
   rw [← hG] at this; exact this
  have hG63 : G ≤ 9223372036854775807 := by unfold maxLen at hGm; omega
  obtain ⟨O, hO⟩ : ∃ O, O = Obj.cells (([] : List Value).toArray ++ Builtin.zeroCells (Value.int .u8 0).cells n ++ Builtin.zeroCells (Value.int .u8 0).cells (G - n)) 5 (0, 0) := ⟨_, rfl⟩
  rw [← hO] at hrz
  have hown : World.ownsRow (w.alloc O).drew w.heap.size 5 1 (.slice (some ⟨w.heap.size, 0, none⟩) 0 G) 0 [] := by
   rw [hO]
   refine World.ownsRow_made w.drew _ G (Nat.le_refl _) hGm ?_
   simp [size_zeroCells, Value.cells]; omega
  have HO := Lib.hid hown
  clear hG hown hi hz0 hz1 hz2 hGm hO
  go_enter Tryz.func115, Tryz.ntmps115
  go_wp2_with (at_builtin; refine Lib.wpList_append_run _ rfl _ _ _ _ rfl _ _ rfl rfl _ _ (hrz _) ?_)
  all_goals (go_ret; exact ⟨_, rfl, HO.out, belowBy⟩)
set_option maxHeartbeats 4000000 in
theorem concat_any {a : Option Addr} {n cap : Nat} {ls : List (List UInt8)} (w : World) (h : RdRows w a n cap ls) (hs : ls.flatten.length ≤ 70368744177664) :
  Calls Tryz.prog 66 #[.slice a n cap] w fun e w' => ∃ v, e = .returned v ∧ w'.ownsRow w.heap.size 5 1 v ls.flatten.length (ls.flatten.map bV) ∧ Below w.heap.size w w' := by
 have HL := Lib.hid h.hlen
 have HS := Lib.hid hs
 have hm63 : (n : Int) ≤ 9223372036854775807 := by have := h.hcap; have := h.hmax; unfold maxLen at *; omega
 have HR := Lib.hid h
 clear h
 go_enter Tryz.func66, Tryz.ntmps66
 go_wp2
 go_loopw [3, 11] (fun s i wr => ∃ k : Nat, k ≤ n ∧ i = .int .i64 k ∧ s = .int .i64 (lens ls k : Nat) ∧ Below w.heap.size w wr) (fun _ i _ => n - (intOf i).toNat)
 case atStart => exact ⟨0, by omega, rfl, rfl, Below.refl _ _⟩
 case round =>
  obtain ⟨k, hk, rfl, rfl, hbel⟩ := hrel
  by_cases hlt : k < n
  ·rcases HR.out.cases with ⟨h0, _⟩ | ⟨b, o, _, rfl, hget⟩
   ·omega
   ·have hkl : k < ls.length := by rw [HL.out]; exact hlt
    obtain ⟨sa, sn, sc, hc, hr⟩ := hget k hkl
    have hc2 : wr.cell? ⟨b, o + k, none⟩ = some (.slice sa sn sc) := by rw [hbel.cell (cell_lt hc)]; exact hc
    have e1 := lens_succ ls k hkl
    rw [hr.hlen] at e1
    have h2 := lens_le ls (k + 1)
    have hsum : lens ls k + sn ≤ 70368744177664 := by have := HS.out; omega
    have HE := Lib.hid e1
    have hcp := hr.hcap
    have hsn : sn ≤ 70368744177664 := by omega
    clear h2 e1 hc hr hget
    generalize lens ls k = s at *
    have hw : IntKind.i64.wrap ((s : Int) + (sn : Int)) = ((s + sn : Nat) : Int) := by rw [IntKind.wrap_i64]; omega
    have hpos : decide (((s + sn : Nat) : Int) < 0) = false := by simp; omega
    go_wp2
    go_roundw
    case rel => exact ⟨k + 1, by omega, by go_num, by rw [HE.out, Int.natCast_add], belowBy⟩
    case measure => simp [intOf]; omega
  ·obtain rfl : k = n := by omega
   have HT : Hid (lens ls k = ls.flatten.length) := Lib.hid (by unfold lens; rw [List.take_of_length_le (by rw [HL.out]; omega)])
   obtain ⟨wo, rfl⟩ : ∃ wo : World, wo = wr := ⟨_, rfl⟩
   have HS2 : Hid (lens ls k ≤ 70368744177664) := Lib.hid (by rw [HT.out]; exact HS.out)
   go_wp2_with (go_at_call 115; go_must (refine (grow_any _ HS2.out _).mono ?_; rintro e w1 ⟨v, rfl, hown, hb⟩; have hbel1 := Below.call hbel hb; have hown1 : World.ownsRow w1 w.heap.size 5 1 v (lens ls 0) ((ls.take 0).flatten.map bV) := ⟨hown.1, by rcases hown.2 with h | ⟨g, c, cur, h1, h2, h3⟩; exact .inl h; exact .inr ⟨g, c, cur, h1, Nat.le_trans hbel.size h2, h3⟩⟩; clear hown hb))
   clear hlt
   go_loopw [6, 27] (fun s i wr => ∃ j : Nat, j ≤ k ∧ i = .int .i64 j ∧ wr.ownsRow w.heap.size 5 1 s (lens ls j) ((ls.take j).flatten.map bV) ∧ Below w.heap.size w wr) (fun _ i _ => k - (intOf i).toNat)
   case atStart => exact ⟨0, by omega, rfl, hown1, hbel1⟩
   case round =>
    clear hown1 hbel1 hbel
    obtain ⟨j, hj, rfl, hown, hbel⟩ := hrel
    by_cases hlt : j < k
    ·rcases HR.out.cases with ⟨h0, _⟩ | ⟨b, o, _, rfl, hget⟩
     ·omega
     ·have hkl : j < ls.length := by rw [HL.out]; exact hlt
      obtain ⟨sa, sn, sc, hc, hr⟩ := hget j hkl
      have hc2 : wr.cell? ⟨b, o + j, none⟩ = some (.slice sa sn sc) := by rw [hbel.cell (cell_lt hc)]; exact hc
      have e1 := lens_succ ls j hkl
      rw [hr.hlen] at e1
      have h2 := lens_le ls (j + 1)
      have hsum : lens ls j + sn ≤ 70368744177664 := by have := HS.out; omega
      have HE := Lib.hid e1
      have HF := Lib.hid (flat_succ ls j hkl)
      have HRD := Lib.hid (hr.below hbel)
      clear h2 e1 hc hr hget
      go_wp2_with (at_builtin; refine app_bytes _ rfl (.tmp 31) (.tmp 32) rfl w.heap.size _ (lens ls j) ((ls.take j).flatten) rfl hown sa sn sc ls[j] rfl HRD.out hsum hbel.size w hbel ?_; intro v' w2 hown2 hbel2; have HO2 : Hid (w2.ownsRow w.heap.size 5 1 v' (lens ls (j + 1)) ((ls.take (j + 1)).flatten.map bV)) := Lib.hid (by rw [HE.out, HF.out]; exact hown2); clear hown2)
      go_roundw
      case rel => exact ⟨j + 1, by omega, by go_num, HO2.out, hbel2⟩
      case measure => simp [intOf]; omega
    ·obtain rfl : j = k := by omega
     have hO := Lib.hid (show wr.ownsRow w.heap.size 5 1 _ ls.flatten.length (ls.flatten.map bV) from by
      have := hown
      rw [HT.out, List.take_of_length_le (by rw [HL.out]; omega)] at this; exact this)
     clear hown
     go_wp2
     go_ret
     exact ⟨_, rfl, hO.out, hbel⟩
set_option maxHeartbeats 4000000 in
theorem cat_any {a : Option Addr} {n cap : Nat} {ls : List (List UInt8)} (w : World) (h : RdRows w a n cap ls) (hs : ls.flatten.length ≤ 70368744177664) :
  Calls Tryz.prog 25 #[.slice a n cap] w fun e w' => ∃ v, e = .returned v ∧ w'.ownsRow w.heap.size 5 1 v ls.flatten.length (ls.flatten.map bV) ∧ Below w.heap.size w w' := by
 go_enter Tryz.func25, Tryz.ntmps25
 go_wp2_with (go_at_call 66; go_must (refine (concat_any _ h hs).mono ?_; rintro e w1 ⟨v, rfl, ho, hb⟩; have HO := Lib.hid ho; clear ho))
 go_ret
 exact ⟨_, rfl, HO.out, hb⟩
inductive Rows (w : World) : List Value → List (List UInt8) → Prop
 | nil : Rows w [] []
 | cons {sa : Option Addr} {sn sc : Nat} {l : List UInt8} {cs : List Value} {ls : List (List UInt8)} : RdB w sa sn sc l → Rows w cs ls → Rows w (.slice sa sn sc :: cs) (l :: ls)
theorem Rows.len {w : World} {cs : List Value} {ls : List (List UInt8)} (h : Rows w cs ls) : cs.length = ls.length := by
 induction h with
 | nil => rfl
 | cons _ _ ih => simp [ih]
theorem Rows.get {w : World} {cs : List Value} {ls : List (List UInt8)} (h : Rows w cs ls) : ∀ i (hi : i < ls.length), ∃ sa sn sc, cs[i]? = some (.slice sa sn sc) ∧ RdB w sa sn sc ls[i] := by
 induction h with
 | nil => intro i hi; simp at hi
 | cons h1 _ ih =>
  intro i hi
  cases i with
  | zero => exact ⟨_, _, _, rfl, h1⟩
  | succ i => obtain ⟨sa, sn, sc, h2, h3⟩ := ih i (by simpa using hi); exact ⟨sa, sn, sc, by simpa using h2, by simpa using h3⟩
theorem RdRows.blk {w : World} {g E n : Nat} {cs : List Value} {ls : List (List UInt8)} (h : Blk w g cs E) (hr : Rows w cs ls) (hn : ls.length = n) (hm : n ≤ maxLen) : RdRows w (some ⟨g, 0, none⟩) n n ls :=
 ⟨hn, Nat.le_refl _, hm, fun i hi => by
  obtain ⟨sa, sn, sc, h2, h3⟩ := hr.get i hi
  exact ⟨g, 0, sa, sn, sc, rfl, by rw [Nat.zero_add, h.cell]; exact h2, h3⟩⟩
end Go.Proofs.YtielgpefoameiaaGreat
namespace Go.Proofs.YtielgpefoameiaaGreat
open Go Go.RowKit
theorem zeroB (k : Nat) : Builtin.zeroCells (Value.int .u8 0).cells k = ((List.replicate k (0 : UInt8)).map bV).toArray := by
 apply Array.ext
 ·simp [Builtin.zeroCells, Value.cells]
 ·intro i h1 h2
  simp [Builtin.zeroCells, Value.cells, bV, Nat.mod_one]
theorem one_bytes (l : List UInt8) : ∀ u ∈ l.map bV, u.oneCell' = true := fun u hu => by
 rw [List.mem_map] at hu
 obtain ⟨c, _, rfl⟩ := hu
 rfl
theorem run_append_zeros (w : World) (ty : TypeId) (base : Nat) (v : Value) (n k : Nat) (l : List UInt8) (hown : w.ownsRow base 5 1 v n (l.map bV)) (hlen : n + k ≤ 70368744177664) (hbase : base ≤ w.heap.size) :
  ∃ v' w', (Builtin.append_ #[22, 3] ty #[v, .int .i64 (k : Int)]).run Tryz.prog w = .ok v' w' ∧ w'.ownsRow base 5 1 v' (n + k) ((l ++ List.replicate k 0).map bV) ∧ w.grownBy w' v.ownBlock := by
 obtain ⟨i0, hi, hz0, hz1, hz2⟩ := info_parts infoU8
 have hl : l.length = n := by have := hown.1; simpa using this
 have hw : IntKind.i64.wrap (k : Int) = k := by rw [IntKind.wrap_i64]; omega
 have hneg : ¬ ((k : Int) < 0) := by omega
 have hw0 : IntKind.i64.wrap 0 = 0 := by rw [IntKind.wrap_i64]; rfl
 have h48k : ¬ (281474976710656 < (k : Int)) := by omega
 have h48i : ¬ (281474976710656 < (k : Int) * (i0.bytes : Int)) := by rw [hz2]; omega
 have grown : ∀ (old : Nat), old < n + k →
   (w.drew.alloc (.cells ((l.map bV).toArray ++ Builtin.zeroCells (Value.int .u8 0).cells k ++ Builtin.zeroCells (Value.int .u8 0).cells (grownCap w (n + k) old 5 - (n + k))) 5)).ownsRow base 5 1
    (.slice (some ⟨w.heap.size, 0, none⟩) (n + k) (grownCap w (n + k) old 5)) (n + k) ((l ++ List.replicate k 0).map bV) ∧
   w.grownBy (w.drew.alloc (.cells ((l.map bV).toArray ++ Builtin.zeroCells (Value.int .u8 0).cells k ++ Builtin.zeroCells (Value.int .u8 0).cells (grownCap w (n + k) old 5 - (n + k))) 5)) v.ownBlock := by
  intro old ho
  have hge := grownCap_ge w (n + k) old 5
  have hcm : grownCap w (n + k) old 5 ≤ maxLen := grownCap_le_maxLen w (n + k) old 5 (by unfold maxLen; omega)
  refine ⟨⟨by simp [hl], .inr ⟨w.heap.size, _, _, rfl, hbase, heap_alloc_new w.drew _, hge, hcm, ?_, ?_⟩⟩, ⟨rfl, rfl, rfl, by simp, fun j hj _ => heap_alloc_old w.drew _ hj⟩⟩
  ·simp only [Array.size_append, List.size_toArray, size_zeroCells, List.length_map, hl]
   show n + k * 1 + _ * 1 = _
   omega
  ·rw [zeroB, zeroB]
   simp only [Array.toList_append, List.map_append]
   rw [List.take_left' (by simp [hl])]
 have noroom : ∀ (bs : Option Addr) (c : Nat), v = .slice bs n c → 0 < k → c < n + k → (Builtin.firstCells i0.size n (.slice bs n c)).run Tryz.prog w.drew = .ok (l.map bV).toArray w.drew →
   ∃ v' w', (Builtin.append_ #[22, 3] ty #[v, .int .i64 (k : Int)]).run Tryz.prog w = .ok v' w' ∧ w'.ownsRow base 5 1 v' (n + k) ((l ++ List.replicate k 0).map bV) ∧ w.grownBy w' v.ownBlock := by
  intro bs c hv hk hc hf
  have hr := Lib.run_append_grow_zeros w 22 3 ty 5 i0 (.int .u8 0) .i64 .i64 Tryz.underlying22 Tryz.underlying3 hi hz0 bs n c (l.map bV) hf k hk (by omega) hc (by omega) (by rw [hz2]; omega) (growslice_fits (by omega) (by rw [hz2]; omega))
  obtain ⟨g1, g2⟩ := grown c hc
  rw [hv] at g2 ⊢
  exact ⟨_, _, hr, g1, g2⟩
 rcases hown.2 with ⟨rfl, rfl⟩ | ⟨g, cap, cur, rfl, hbg, hg, hnc, hcm, hcs, htake⟩
 ·obtain rfl : l = [] := List.eq_nil_of_length_eq_zero hl
  by_cases hk : k = 0
  ·subst hk
   refine ⟨.slice none 0 0, w, ?_, World.ownsRow_nil _ _ _ _, ⟨rfl, rfl, rfl, Nat.le_refl _, fun _ _ _ => rfl⟩⟩
   simp [Builtin.append_, run_underlying Tryz.underlying22, run_underlying Tryz.underlying3, sizeOf, typeInfo, hi, hz2, asInt, asIntOf, hw0]
  ·exact noroom none 0 rfl (by omega) (by omega) (run_firstCells_none _ _ _ _ _)
 ·by_cases hroom : n + k ≤ cap
  ·refine ⟨.slice (some ⟨g, 0, none⟩) (n + k) cap, w.setRow g (cur.toList.take n ++ (List.replicate k (0 : UInt8)).map bV ++ cur.toList.drop (n + k)).toArray, ?_, ⟨by simp [hl], .inr ⟨g, cap, _, rfl, hbg, setRow_heap w g cur _ 5 _ hg, hroom, hcm, ?_, ?_⟩⟩, ⟨rfl, rfl, rfl, by simp, fun j _ hj => setRow_other w g j _ (fun e => hj (by simp [Value.ownBlock, e]))⟩⟩
   ·by_cases hk : k = 0
    ·subst hk
     have : w.setRow g (cur.toList.take n ++ (List.replicate 0 (0 : UInt8)).map bV ++ cur.toList.drop (n + 0)).toArray = w := by
      simp only [List.replicate_zero, List.map_nil, List.append_nil, Nat.add_zero, List.take_append_drop, Array.toArray_toList]
      exact setRow_self w g cur 5 (0, 0) hg
     rw [this]
     simp [Builtin.append_, run_underlying Tryz.underlying22, run_underlying Tryz.underlying3, sizeOf, typeInfo, hi, hz2, asInt, asIntOf, hw0, hnc, storeCells]
    ·have hst := run_storeCells_at Tryz.prog g n 5 ((List.replicate k (0 : UInt8)).map bV) 0 cur w hg (by simp; omega) (one_bytes _)
     simp only [Nat.add_zero, List.length_map, List.length_replicate] at hst
     have hns : ¬ (k = 0) := hk
     simp [Builtin.append_, run_underlying Tryz.underlying22, run_underlying Tryz.underlying3, sizeOf, typeInfo, zeroValue, hi, hz0, hz1, hz2, asInt, asIntOf, hw, hneg, hns, h48k, hroom, zeroB]
     rw [Addr.add_lit, Nat.zero_add]
     simp only [List.map_replicate] at hst
     rw [hst]
     simp
   ·simp only [List.size_toArray, List.length_append, List.length_take, List.length_drop, Array.length_toList, List.length_map, List.length_replicate]
    omega
   ·rw [show (n * 1) = n from Nat.mul_one n] at htake
    rw [htake, ← List.map_append, List.take_left' (by simp [hl])]
  ·have holds : ∀ j u, (l.map bV)[j]? = some u → w.cell? ((⟨g, 0, none⟩ : Addr).add j) = some u := hown.cells (g := g) rfl
   exact noroom (some ⟨g, 0, none⟩) cap rfl (by omega) (by omega) (run_firstCells_some _ _ _ _ _ _ _ (by rw [List.length_map, hl, hz1]; omega) holds)
theorem own_sl {w : World} {base E n : Nat} {v : Value} {l : List UInt8} (h : w.ownsRow base E 1 v n (l.map bV)) : ∃ a cap, v = .slice a n cap ∧ RdB w a n cap l ∧ (∀ b, a = some b → base ≤ b.block) := by
 obtain ⟨h1, h2⟩ := h
 have hl : l.length = n := by simpa using h1
 rcases h2 with ⟨rfl, rfl⟩ | ⟨g, cap, cur, rfl, hg, hh, hc, hm, hs, ht⟩
 ·obtain rfl : l = [] := List.eq_nil_of_length_eq_zero hl
  exact ⟨none, 0, rfl, RdB.nil _, fun _ h => by cases h⟩
 ·refine ⟨some ⟨g, 0, none⟩, cap, rfl, RdB.blk (E := E) (cur.toList.drop n) ?_ hl hc hm, fun b h => by cases h; exact hg⟩
  unfold Blk
  rw [Nat.mul_one] at ht
  rw [hh, ← ht, List.take_append_drop]
theorem app_zeros (w : World) {ops : Array Oper} {rest : List Oper} {o : Oper} {a : Act} {Q : Exit → Act → World → Prop} (hgd : o.guard = none) (s x : Operand)
  (ho : o.op = .call { callee := .builtin .append, args := #[s, x], argTypes := #[22, 3] }) (base : Nat) (v : Value) (n : Nat) (l : List UInt8) (hs : a.eval s = v) (hown : w.ownsRow base 5 1 v n (l.map bV))
  (k : Nat) (hx : a.eval x = .int .i64 (k : Int)) (hlen : n + k ≤ 70368744177664) (hbase : base ≤ w.heap.size) (w0 : World) (hb0 : Below base w0 w)
  (h : ∀ v' w', w'.ownsRow base 5 1 v' (n + k) ((l ++ List.replicate k 0).map bV) → Below base w0 w' → wpList Tryz.prog ops Q rest (a.put o.dst v') w') : wpList Tryz.prog ops Q (o :: rest) a w := by
 obtain ⟨v', w', hr, h1, h2⟩ := run_append_zeros w o.type base v n k l hown hlen hbase
 exact Lib.wpList_append_run w hgd s x _ _ ho v _ hs hx v' w' hr (h v' w' h1 (hb0.grown h2 hbase (fun k hk => (hown.lt k hk).1)))
set_option maxHeartbeats 1000000 in
theorem clone_own {a : Option Addr} {n cap : Nat} {l : List UInt8} (w : World) (h : RdB w a n cap l) (hm : n ≤ 70368744177664) :
  Calls Tryz.prog 30 #[.slice a n cap] w fun e w' => ∃ v, e = .returned v ∧ w'.ownsRow w.heap.size 5 1 v n (l.map bV) ∧ Below w.heap.size w w' := by
 have hq := run_eql_nilB a n cap
 cases a with
 | none =>
  obtain rfl := h.hnil rfl
  obtain rfl : n = 0 := by have := h.hcap; omega
  obtain rfl : l = [] := List.eq_nil_of_length_eq_zero h.hlen
  rw [show (none : Option Addr).isNone = true from rfl] at hq
  clear h hm
  go_enter Tryz.func30, Tryz.ntmps30
  go_wp2
  go_ret
  exact ⟨_, rfl, World.ownsRow_nil _ _ _ _, Below.refl _ _⟩
 | some ad =>
  rw [show (some ad).isNone = false from rfl] at hq
  have HM := Lib.hid hm
  clear hm
  go_enter Tryz.func30, Tryz.ntmps30
  go_wp2_with (at_builtin; go_must (refine app_bytes _ rfl (.tmp 5) (.tmp 6) rfl w.heap.size _ 0 [] rfl (own_none w 5 w.heap.size (Nat.le_refl _)) _ _ _ l rfl (by exact h.below belowBy) (by have := HM.out; omega) (by simp) w (by exact belowBy) ?_; intro v1 w1 hown hb1; rw [Nat.zero_add, List.nil_append] at hown; have HO := Lib.hid hown; clear hown))
  go_wp2
  go_ret
  exact ⟨v1, rfl, HO.out, hb1⟩
def IsB (l : List UInt8) : WP := ⟨fun v w => ∃ a n cap, v = .slice a n cap ∧ RdB w a n cap l, fun _ _ _ ⟨a, n, cap, e, h⟩ hb => ⟨a, n, cap, e, h.below hb⟩⟩
def IsR (ls : List (List UInt8)) : WP := ⟨fun v w => ∃ a n cap, v = .slice a n cap ∧ RdRows w a n cap ls, fun _ _ _ ⟨a, n, cap, e, h⟩ hb => ⟨a, n, cap, e, h.below hb⟩⟩
theorem IsB.mk {w : World} {a : Option Addr} {n cap : Nat} {l : List UInt8} (h : RdB w a n cap l) : (IsB l).P (.slice a n cap) w := ⟨a, n, cap, rfl, h⟩
theorem IsR.mk {w : World} {a : Option Addr} {n cap : Nat} {ls : List (List UInt8)} (h : RdRows w a n cap ls) : (IsR ls).P (.slice a n cap) w := ⟨a, n, cap, rfl, h⟩
theorem IsB.nil (w : World) : (IsB []).P (.slice none 0 0) w := ⟨none, 0, 0, rfl, RdB.nil w⟩
theorem IsR.nil (w : World) : (IsR []).P (.slice none 0 0) w := ⟨none, 0, 0, rfl, rfl, Nat.le_refl _, by simp, fun i h => by simp at h⟩
theorem IsB.own {w : World} {base E n : Nat} {v : Value} {l : List UInt8} (h : w.ownsRow base E 1 v n (l.map bV)) : (IsB l).P v w := by
 obtain ⟨a, cap, rfl, hr, _⟩ := own_sl h
 exact ⟨a, n, cap, rfl, hr⟩
theorem NewB.is {w w' : World} {l : List UInt8} {e : Ending} (h : NewB w l e w') : ∃ r, e = .returned r ∧ (IsB l).P r w' ∧ Below w.heap.size w w' := by
 obtain ⟨g, n, cap, r, rfl, _, hB, hl, hc, hm, hb⟩ := h
 exact ⟨_, rfl, IsB.mk (RdB.blk r hB hl hc hm), hb⟩
theorem RdRows.of_rows {w : World} {a : Option Addr} {n cap : Nat} (h : (a = none ∧ n = 0 ∧ cap = 0) ∨ ∃ (x : Addr) (A : Nat → Option Addr) (L C : Nat → Nat) (Z : Nat → List Int), a = some x ∧ n ≤ cap ∧ cap ≤ maxLen ∧
      ∀ r, r < cap → w.cell? (x.add r) = some (.slice (A r) (L r) (C r)) ∧ L r ≤ C r ∧ C r ≤ maxLen ∧ (Z r).length = C r ∧ (∀ n ∈ Z r, (Lit.int .u8 n).wf = true) ∧ (A r = none → C r = 0) ∧
        ∀ a', A r = some a' → ∀ c, c < C r → w.cell? (a'.add c) = some (.int .u8 ((Z r).getD c 0))) : ∃ ls, RdRows w a n cap ls := by
  rcases h with ⟨rfl, rfl, rfl⟩ | ⟨⟨b, o, sp⟩, A, L, C, Z, rfl, hl, hm, hr⟩
  · exact ⟨[], rfl, Nat.le_refl _, by simp, fun i h => by simp at h⟩
  · have each : ∀ r, ∃ l, r < cap → RdB w (A r) (L r) (C r) l := by
      intro r
      by_cases hc : r < cap
      · obtain ⟨_, h2, h3, h4, h5, h6, h7⟩ := hr r hc
        cases hA : A r with
        | none =>
          have h0 := h6 hA
          obtain ⟨l, hl⟩ := RdB.of_ints (w := w) (a := none) (n := L r) (cap := C r) (zs := []) (.inl ⟨rfl, by omega, h0, rfl⟩)
          exact ⟨l, fun _ => hl⟩
        | some a' =>
          obtain ⟨l, hl⟩ := RdB.of_ints (w := w) (a := some a') (n := L r) (cap := C r) (zs := Z r) (.inr ⟨a', rfl, h2, h3, h4, fun i hi => h7 a' hA i (by omega), h5⟩)
          exact ⟨l, fun _ => hl⟩
      · exact ⟨[], fun h => absurd h hc⟩
    obtain ⟨f, hf⟩ := Classical.skolem.1 each
    refine ⟨(List.range n).map f, by simp, hl, hm, fun i hi => ?_⟩
    have hi2 : i < n := by simpa using hi
    have hc0 := (hr 0 (by omega)).1
    have hsp : sp = none := by simpa [Addr.add] using World.cell?_spot hc0
    subst hsp
    refine ⟨b, o, A i, L i, C i, rfl, ?_, ?_⟩
    · have h1 := (hr i (by omega)).1
      rw [addr_add] at h1
      exact h1
    · have := hf i (by omega)
      simpa using this
theorem till_none {L : Nat → Bool} : till L none := fun _ e => nomatch e
theorem till_some {L : Nat → Bool} {i : Nat} (h : L i = false) : till L (some i) := fun k e => by cases e; exact h
theorem holds_wld {l : List Fact} {W0 w : World} {L : Nat → Bool} {u : Nat → Value} {k : Nat} {φ : WP} {v : Option Nat} (h : Holds l W0 k L u w) (hf : factAt l k = .wld φ v) (ht : till L v) : φ.P (u k) w := by
 unfold Holds at h
 rw [hf] at h
 exact h ht
section
variable {ops : Array Oper} {wt : Nat → Nat → Bool} {Q : Exit → Act → World → Prop} {fr : (Nat → Value) → Array Value} {df : List Deferred} {l : List Fact} {W0 : World} {i : Nat} {o : Oper}
theorem step_callP {φ : WP} {v : Option Nat} (hs : Soft wt (Holds l W0)) (hg : Wants ops wt fr (Holds l W0) i o true) (hf : factAt l i = .wld φ v)
  (h : ∀ L u w, Keep l W0 L u w → (∀ k, L k = true → Holds l W0 k L u w) → L i = false → (∀ d, wt i d = true → L d = true) → ∀ K : Act → World → Prop, Shut (∀ r w', φ.P r w' → Below w.heap.size w w' → K ((⟨fr u, df⟩ : Act).put o.dst r) w') → Oper.wp Tryz.prog o ⟨fr u, df⟩ w K Q) :
  StepAt Tryz.prog ops wt Q fr df (Holds l W0) (Keep l W0) i o :=
 StepAt.soft hs hg fun L u W _ hJ hG hL hdep K hK => h L u W hJ hG hL hdep K (fun r w' hv hb => hK.out r w' hb (hJ.later hb (by rw [hf]; rfl)) (by unfold Holds; rw [hf]; simp only; rw [putV_same]; exact fun _ => hv))
theorem step_runP {φ : WP} {v : Option Nat} (hs : Soft wt (Holds l W0)) (hg : Wants ops wt fr (Holds l W0) i o true) (hf : factAt l i = .wld φ v)
  (h : ∀ L u w, Keep l W0 L u w → (∀ k, L k = true → Holds l W0 k L u w) → L i = false → (∀ d, wt i d = true → L d = true) → ∃ r w', (execOp (⟨fr u, df⟩ : Act).eval o).run Tryz.prog w = .ok (.value r) w' ∧ Below w.heap.size w w' ∧ φ.P r w') :
  StepAt Tryz.prog ops wt Q fr df (Holds l W0) (Keep l W0) i o := by
 refine StepAt.soft hs hg fun L u W hcl hJ hG hL hdep K hK => ?_
 obtain ⟨r, w', hr, hb, hx⟩ := h L u W hJ hG hL hdep
 unfold Oper.wp
 rw [hr]
 exact hK.out _ _ hb (hJ.later hb (by rw [hf]; rfl)) (by unfold Holds; rw [hf]; simp only; rw [putV_same]; exact fun _ => hx)
theorem step_runO {φ : Value → Prop} (hs : Soft wt (Holds l W0)) (hg : Wants ops wt fr (Holds l W0) i o true) (hf : factAt l i = .oth φ)
  (h : ∀ L u w, Keep l W0 L u w → (∀ k, L k = true → Holds l W0 k L u w) → L i = false → (∀ d, wt i d = true → L d = true) → ∃ r, (execOp (⟨fr u, df⟩ : Act).eval o).run Tryz.prog w = .ok (.value r) w ∧ φ r) :
  StepAt Tryz.prog ops wt Q fr df (Holds l W0) (Keep l W0) i o := by
 refine StepAt.soft hs hg fun L u W hcl hJ hG hL hdep K hK => ?_
 obtain ⟨r, hr, hx⟩ := h L u W hJ hG hL hdep
 unfold Oper.wp
 rw [hr]
 exact hK.out _ _ (Below.refl _ _) (hJ.later (Below.refl _ _) (by rw [hf]; rfl)) (by unfold Holds; rw [hf]; simp only; rw [putV_same]; exact hx)
end
section
variable {ev : Operand → Value} {o : Oper} {x y : Operand} {w : World} {l : List UInt8} {φ : WP}
theorem run_moveP (ho : o.op = .move x ∨ o.op = .assign x) (h : φ.P (ev x) w) : ∃ r w', (execOp ev o).run Tryz.prog w = .ok (.value r) w' ∧ Below w.heap.size w w' ∧ φ.P r w' := by
 refine ⟨ev x, w, ?_, Below.refl _ _, h⟩
 rcases ho with ho | ho
 ·exact run_move ho
 ·exact run_assign ho
theorem run_lenP (ho : o.op = .call { callee := .builtin .len, args := #[x], argTypes := #[22] }) (h : (IsB l).P (ev x) w) {k : Int} (hk : (l.length : Int) = k) : ∃ r, (execOp ev o).run Tryz.prog w = .ok (.value r) w ∧ r = .int .i64 k := by
 obtain ⟨a, n, cap, e, hr⟩ := h
 refine ⟨_, ?_, rfl⟩
 subst hk
 unfold execOp; simp only [ho]; rw [hr.hlen]; go_simp
theorem run_convP (ho : o.op = .convert 22 9 x) (h : (IsB l).P (ev x) w) : ∃ r, (execOp ev o).run Tryz.prog w = .ok (.value r) w ∧ r = .string (bs l) := by
 obtain ⟨a, n, cap, e, hr⟩ := h
 exact ⟨_, run_conv ho e hr, rfl⟩
theorem run_fromP {k : Nat} (ho : o.op = .slice 22 x (some y) none none) (hy : ev y = .int .i64 (k : Int)) (h : (IsB l).P (ev x) w) (hk : k ≤ l.length) : ∃ r w', (execOp ev o).run Tryz.prog w = .ok (.value r) w' ∧ Below w.heap.size w w' ∧ (IsB (l.drop k)).P r w' := by
 obtain ⟨a, n, cap, e, hr⟩ := h
 have h1 := hr.hlen; have h2 := hr.hcap; have h3 := hr.hmax
 unfold maxLen at h3
 unfold execOp; simp only [ho, e]
 go_simp
 rw [if_pos (by omega)]
 refine ⟨_, w, rfl, Below.refl _ _, ?_⟩
 refine ⟨_, _, _, rfl, by rw [List.length_drop]; omega, by omega, by unfold maxLen; omega, fun j hj => ?_, fun e => ?_⟩
 ·rw [List.length_drop] at hj
  obtain ⟨b, q, rfl, hc⟩ := hr.get (k + j) (by omega)
  rw [if_neg (by omega)]
  refine ⟨b, q + k, by simp [addr_add], ?_⟩
  rw [Nat.add_assoc, List.getElem_drop]; exact hc
 ·split at e
  ·omega
  ·cases a with
   | none => have := hr.hnil rfl; omega
   | some b => simp at e
theorem run_toP {k : Nat} (ho : o.op = .slice 22 x none (some y) none) (hy : ev y = .int .i64 (k : Int)) (h : (IsB l).P (ev x) w) (hk : k ≤ l.length) : ∃ r w', (execOp ev o).run Tryz.prog w = .ok (.value r) w' ∧ Below w.heap.size w w' ∧ (IsB (l.take k)).P r w' := by
 obtain ⟨a, n, cap, e, hr⟩ := h
 have h1 := hr.hlen; have h2 := hr.hcap; have h3 := hr.hmax
 unfold maxLen at h3
 unfold execOp; simp only [ho, e]
 go_simp
 rw [if_pos (by omega)]
 refine ⟨_, w, rfl, Below.refl _ _, ?_⟩
 refine ⟨_, _, _, rfl, by rw [List.length_take]; omega, by omega, by unfold maxLen; omega, fun j hj => ?_, hr.hnil⟩
 rw [List.length_take] at hj
 obtain ⟨b, q, rfl, hc⟩ := hr.get j (by omega)
 exact ⟨b, q, rfl, by rw [List.getElem_take]; exact hc⟩
theorem run_rows1 {l0 : List UInt8} {x0 : Operand} (ho : o.op = .buildSlice 23 1 #[(0, x0)]) (h0 : (IsB l0).P (ev x0) w) : ∃ r w', (execOp ev o).run Tryz.prog w = .ok (.value r) w' ∧ Below w.heap.size w w' ∧ (IsR [l0]).P r w' := by
 obtain ⟨a0, n0, c0, e0, r0⟩ := h0
 have hb : Below w.heap.size w (w.alloc (.cells #[.slice a0 n0 c0] 22)) := (Below.refl _ _).alloc (Nat.le_refl _) _
 refine ⟨.slice (some ⟨w.heap.size, 0, none⟩) 1 1, w.alloc (.cells #[.slice a0 n0 c0] 22), ?_, hb, IsR.mk (RdRows.blk (n := 1) (Blk.new _ _ _) (Rows.cons (r0.below hb) Rows.nil) rfl (by unfold maxLen; omega))⟩
 unfold execOp; simp only [ho]; go_simp
 try simp only [e0]
 try rfl
theorem run_rows3 {l0 l1 l2 : List UInt8} {x0 x1 x2 : Operand} (ho : o.op = .buildSlice 23 3 #[(0, x0), (1, x1), (2, x2)]) (h0 : (IsB l0).P (ev x0) w) (h1 : (IsB l1).P (ev x1) w) (h2 : (IsB l2).P (ev x2) w) : ∃ r w', (execOp ev o).run Tryz.prog w = .ok (.value r) w' ∧ Below w.heap.size w w' ∧ (IsR [l0, l1, l2]).P r w' := by
 obtain ⟨a0, n0, c0, e0, r0⟩ := h0
 obtain ⟨a1, n1, c1, e1, r1⟩ := h1
 obtain ⟨a2, n2, c2, e2, r2⟩ := h2
 have hb : Below w.heap.size w (w.alloc (.cells #[.slice a0 n0 c0, .slice a1 n1 c1, .slice a2 n2 c2] 22)) := (Below.refl _ _).alloc (Nat.le_refl _) _
 refine ⟨.slice (some ⟨w.heap.size, 0, none⟩) 3 3, w.alloc (.cells #[.slice a0 n0 c0, .slice a1 n1 c1, .slice a2 n2 c2] 22), ?_, hb, IsR.mk (RdRows.blk (n := 3) (Blk.new _ _ _) (Rows.cons (r0.below hb) (Rows.cons (r1.below hb) (Rows.cons (r2.below hb) Rows.nil))) rfl (by unfold maxLen; omega))⟩
 unfold execOp; simp only [ho]; go_simp
 try simp only [e0, e1, e2]
 try rfl
end
structure FS where
 n : Nat
 P : List Value → World → Prop
 len : ∀ cs w, P cs w → cs.length = n
 one : ∀ cs w, P cs w → ∀ v ∈ cs, v.oneCell' = true
 st : ∀ cs w w', P cs w → Below w.heap.size w w' → P cs w'
def fNum {α : Type} (R : Rp α) (xs : List α) : FS := ⟨R.n * xs.length, fun cs _ => Lims R xs cs, fun _ _ h => h.len, fun _ _ h => h.one, fun _ _ _ h _ => h⟩
def fWp (φ : WP) (h1 : ∀ v w, φ.P v w → v.oneCell' = true) : FS :=
 ⟨1, fun cs w => ∃ v, cs = [v] ∧ φ.P v w, fun _ _ ⟨_, e, _⟩ => by rw [e]; rfl, fun _ _ ⟨v, e, h⟩ u hu => by rw [e] at hu; simp at hu; rw [hu]; exact h1 _ _ h, fun _ _ _ ⟨v, e, h⟩ hb => ⟨v, e, φ.st _ _ _ h hb⟩⟩
theorem IsB.one {l : List UInt8} (v : Value) (w : World) (h : (IsB l).P v w) : v.oneCell' = true := by
 obtain ⟨a, n, cap, rfl, _⟩ := h; rfl
def fB (l : List UInt8) : FS := fWp (IsB l) IsB.one
def Fields : List FS → List Value → World → Prop
 | [], cs, _ => cs = []
 | f :: fs, cs, w => ∃ h r, cs = h ++ r ∧ f.P h w ∧ Fields fs r w
def offs : List FS → Nat → Nat
 | f :: fs, k + 1 => f.n + offs fs k
 | _, _ => 0
theorem Fields.st : ∀ {fs : List FS} {cs : List Value} {w w' : World}, Fields fs cs w → Below w.heap.size w w' → Fields fs cs w'
 | [], _, _, _, h, _ => h
 | f :: _, _, _, _, ⟨h, r, e, h1, h2⟩, hb => ⟨h, r, e, f.st _ _ _ h1 hb, Fields.st h2 hb⟩
theorem Fields.one : ∀ {fs : List FS} {cs : List Value} {w : World}, Fields fs cs w → ∀ v ∈ cs, v.oneCell' = true
 | [], _, _, h, v, hv => by rw [show _ = [] from h] at hv; cases hv
 | f :: _, _, _, ⟨h, r, e, h1, h2⟩, v, hv => by
  subst e
  rcases List.mem_append.1 hv with hv | hv
  ·exact f.one _ _ h1 v hv
  ·exact Fields.one h2 v hv
theorem Fields.at : ∀ {fs : List FS} {cs : List Value} {w : World} (k : Nat) {f : FS} {g o : Nat}, Fields fs cs w → fs[k]? = some f → w.rangeAt g o cs → ∃ h, f.P h w ∧ w.rangeAt g (o + offs fs k) h
 | [], _, _, _, _, _, _, _, hk, _ => by simp at hk
 | f :: fs, _, w, 0, f', g, o, ⟨h, r, e, h1, _⟩, hk, hr => by
  obtain rfl : f = f' := by simpa using hk
  subst e
  refine ⟨h, h1, fun j v hv => ?_⟩
  have := hr j v (by rw [List.getElem?_append_left (List.getElem?_eq_some_iff.1 hv).1]; exact hv)
  simpa [offs] using this
 | f :: fs, _, w, k + 1, f', g, o, ⟨h, r, e, h1, h2⟩, hk, hr => by
  subst e
  have hl := f.len _ _ h1
  obtain ⟨q, hq, hqr⟩ := Fields.at (o := o + f.n) k h2 (by simpa using hk) (fun j v hv => by
   have := hr (f.n + j) v (by rw [List.getElem?_append_right (by omega), hl, Nat.add_sub_cancel_left]; exact hv)
   rw [Nat.add_assoc]; exact this)
  exact ⟨q, hq, by rw [show offs (f :: fs) (k + 1) = f.n + offs fs k from rfl, ← Nat.add_assoc]; exact hqr⟩
def StV (fs : List FS) : WP := ⟨fun v w => ∃ cs : List Value, v = .agg cs.toArray ∧ Fields fs cs w, fun _ _ _ ⟨cs, e, h⟩ hb => ⟨cs, e, h.st hb⟩⟩
def StA (fs : List FS) (off : Nat) : WP := ⟨fun v w => ∃ g cs, v = .pointer (some ⟨g, off, none⟩) ∧ Fields fs cs w ∧ w.rangeAt g 0 cs, fun _ _ _ ⟨g, cs, e, h, hr⟩ hb => ⟨g, cs, e, h.st hb, range_later hr hb⟩⟩
def StP (fs : List FS) : WP := StA fs 0
section
variable {ev : Operand → Value} {o : Oper} {x y : Operand} {w : World} {fs : List FS}
theorem run_boxSt {ty : TypeId} (ho : o.op = .box ty x) (h : (StV fs).P (ev x) w) : ∃ r w', (execOp ev o).run Tryz.prog w = .ok (.value r) w' ∧ Below w.heap.size w w' ∧ (StP fs).P r w' := by
 obtain ⟨cs, e, hf⟩ := h
 have hb : Below w.heap.size w (w.alloc (.cells cs.toArray ty)) := (Below.refl _ _).alloc (Nat.le_refl _) _
 refine ⟨_, w.alloc (.cells cs.toArray ty), ?_, hb, w.heap.size, cs, rfl, hf.st hb, fun j v hv => ?_⟩
 ·unfold execOp
  simp only [ho, e, Sem.run_bind, run_box, Result.andThen_ok, Sem.run_pure]
 ·have := (Blk.new w cs.toArray ty).cell j
  rw [Nat.zero_add, this]; exact hv
theorem run_nilchk {off : Nat} (ho : o.op = .nilCheck x) (h : (StA fs off).P (ev x) w) : ∃ r w', (execOp ev o).run Tryz.prog w = .ok (.value r) w' ∧ Below w.heap.size w w' ∧ (StA fs off).P r w' := by
 obtain ⟨g, cs, e, h1, h2⟩ := h
 refine ⟨.pointer (some ⟨g, off, none⟩), w, ?_, Below.refl _ _, g, cs, rfl, h1, h2⟩
 unfold execOp
 simp only [ho, e]
 go_simp
theorem run_fieldSt {ty : TypeId} {f off : Nat} (ho : o.op = .fieldAddr ty x f) (h : (StP fs).P (ev x) w) (hr : ∀ g w, (Instr.fieldAt ty (.pointer (some ⟨g, 0, none⟩)) f).run Tryz.prog w = .ok (.pointer (some ⟨g, off, none⟩)) w) :
  ∃ r w', (execOp ev o).run Tryz.prog w = .ok (.value r) w' ∧ Below w.heap.size w w' ∧ (StA fs off).P r w' := by
 obtain ⟨g, cs, e, h1, h2⟩ := h
 refine ⟨.pointer (some ⟨g, off, none⟩), w, ?_, Below.refl _ _, g, cs, rfl, h1, h2⟩
 unfold execOp
 simp only [ho, e, Sem.run_bind, hr, Result.andThen_ok, Sem.run_pure]
theorem run_loadWp {ty : TypeId} {φ : WP} {h1 : ∀ v w, φ.P v w → v.oneCell' = true} {off : Nat} (k : Nat) (ho : o.op = .load ty x) (h : (StA fs off).P (ev x) w) (hk : fs[k]? = some (fWp φ h1)) (hoff : offs fs k = off)
  (hT : ∀ (p : Addr) (v : Value) (w : World), w.cell? p = some v → (Instr.loadAt ty (.pointer (some p))).run Tryz.prog w = .ok v w) : ∃ r w', (execOp ev o).run Tryz.prog w = .ok (.value r) w' ∧ Below w.heap.size w w' ∧ φ.P r w' := by
 obtain ⟨g, cs, e, h2, h3⟩ := h
 obtain ⟨q, ⟨v, rfl, hv⟩, hr⟩ := Fields.at (o := 0) k h2 hk h3
 have hc := hr 0 v rfl
 rw [Nat.zero_add, Nat.add_zero, hoff] at hc
 refine ⟨v, w, ?_, Below.refl _ _, hv⟩
 unfold execOp
 simp only [ho, e, Sem.run_bind, hT _ _ _ hc, Result.andThen_ok, Sem.run_pure]
theorem run_eqlNil {off : Nat} {t t' t2 : TypeId} (ht : Tryz.prog.underlying t = some (.pointer t')) (ho : o.op = .binOp .eql t x y t2) (hev : ev y = .pointer none) (h : (StA fs off).P (ev x) w) : ∃ r, (execOp ev o).run Tryz.prog w = .ok (.value r) w ∧ r = .bool false := by
 obtain ⟨g, cs, e, _, _⟩ := h
 refine ⟨_, ?_, rfl⟩
 unfold execOp; simp only [ho, e, hev]; go_simp
def TwV (φ : WP) (c : Value) : WP := ⟨fun v w => ∃ r, v = .tuple #[r, c] ∧ φ.P r w, fun _ _ _ ⟨r, e, h⟩ hb => ⟨r, e, φ.st _ _ _ h hb⟩⟩
theorem run_tw0 {φ : WP} {c : Value} (ho : o.op = .extract x 0) (h : (TwV φ c).P (ev x) w) : ∃ r w', (execOp ev o).run Tryz.prog w = .ok (.value r) w' ∧ Below w.heap.size w w' ∧ φ.P r w' := by
 obtain ⟨r, e, h⟩ := h
 refine ⟨r, w, ?_, Below.refl _ _, h⟩
 unfold execOp; simp only [ho, e]; go_simp
theorem run_tw1 {φ : WP} {c : Value} (ho : o.op = .extract x 1) (h : (TwV φ c).P (ev x) w) : ∃ r, (execOp ev o).run Tryz.prog w = .ok (.value r) w ∧ r = c := by
 obtain ⟨r, e, h⟩ := h
 refine ⟨_, ?_, rfl⟩
 unfold execOp; simp only [ho, e]; go_simp
theorem load_bytes (p : Addr) (v : Value) (w : World) (h : w.cell? p = some v) : (Instr.loadAt 22 (.pointer (some p))).run Tryz.prog w = .ok v w := by go_simp
end
def uI (x : UInt64) : Value := .int .u64 (x.toNat : Int)
def ux (a b : UInt64) : UInt64 := a ^^^ b
def ua (a b : UInt64) : UInt64 := a &&& b
def uo (a b : UInt64) : UInt64 := a ||| b
def un (a : UInt64) : UInt64 := ~~~a
def up (a b : UInt64) : UInt64 := a + b
def ush (a : UInt64) (n : Nat) : UInt64 := UInt64.ofNat (a.toNat / 2 ^ n)
def usl (a : UInt64) (n : Nat) : UInt64 := UInt64.ofNat (a.toNat * 2 ^ n)
def rotr (a : UInt64) (n : Nat) : UInt64 := uo (ush a n) (usl a (64 - n))
theorem ux_int (a b : UInt64) : bits BinOp.xor IntKind.u64 (a.toNat : Int) (b.toNat : Int) = ((ux a b).toNat : Int) := by
 rw [u64_xor_nat _ _ a.toNat_lt b.toNat_lt]; simp [ux]
theorem ua_int (a b : UInt64) : bits BinOp.and IntKind.u64 (a.toNat : Int) (b.toNat : Int) = ((ua a b).toNat : Int) := by
 rw [u64_and_nat _ _ a.toNat_lt b.toNat_lt]; simp [ua]
theorem uo_int (a b : UInt64) : bits BinOp.or IntKind.u64 (a.toNat : Int) (b.toNat : Int) = ((uo a b).toNat : Int) := by
 rw [u64_or_nat _ _ a.toNat_lt b.toNat_lt]; simp [uo]
theorem up_int (a b : UInt64) : IntKind.u64.wrap ((a.toNat : Int) + (b.toNat : Int)) = ((up a b).toNat : Int) := by
 rw [IntKind.wrap_u64]; unfold up; rw [UInt64.toNat_add]; omega
theorem ush_int (a : UInt64) (n : Nat) : (a.toNat : Int) / 2 ^ n = ((ush a n).toNat : Int) := by
 have h : a.toNat / 2 ^ n < 18446744073709551616 := Nat.lt_of_le_of_lt (Nat.div_le_self _ _) a.toNat_lt
 unfold ush
 rw [UInt64.toNat_ofNat', Nat.mod_eq_of_lt h]
 simp
theorem usl_int (a : UInt64) (n : Nat) : IntKind.u64.wrap ((a.toNat : Int) * 2 ^ n) = ((usl a n).toNat : Int) := by
 rw [IntKind.wrap_u64]; unfold usl
 rw [UInt64.toNat_ofNat']
 have : (a.toNat : Int) * 2 ^ n = ((a.toNat * 2 ^ n : Nat) : Int) := by simp
 rw [this]; omega
section
variable {ev : Operand → Value} {o : Oper} {x y : Operand} {t : TypeId} {w : World} {a b : UInt64}
theorem run_ux (ho : o.op = .binOp .xor 45 x y t) (hx : ev x = uI a) (hy : ev y = uI b) : (execOp ev o).run Tryz.prog w = .ok (.value (uI (ux a b))) w := by
 have h := ux_int a b
 unfold execOp; simp only [ho, hx, hy]; unfold uI; go_simp
theorem run_ua (ho : o.op = .binOp .and 45 x y t) (hx : ev x = uI a) (hy : ev y = uI b) : (execOp ev o).run Tryz.prog w = .ok (.value (uI (ua a b))) w := by
 have h := ua_int a b
 unfold execOp; simp only [ho, hx, hy]; unfold uI; go_simp
theorem run_up (ho : o.op = .binOp .add 45 x y t) (hx : ev x = uI a) (hy : ev y = uI b) : (execOp ev o).run Tryz.prog w = .ok (.value (uI (up a b))) w := by
 have h := up_int a b
 unfold execOp; simp only [ho, hx, hy]; unfold uI; go_simp
end
end Go.Proofs.YtielgpefoameiaaGreat
namespace Go.Proofs.YtielgpefoameiaaGreat
def kTab : List UInt64 := [4794697086780616226, 8158064640168781261, 13096744586834688815, 16840607885511220156, 4131703408338449720, 6480981068601479193, 10538285296894168987, 12329834152419229976, 15566598209576043074, 1334009975649890238, 2608012711638119052, 6128411473006802146, 8268148722764581231, 9286055187155687089, 11230858885718282805, 13951009754708518548, 16472876342353939154, 17275323862435702243, 1135362057144423861, 2597628984639134821, 3308224258029322869, 5365058923640841347, 6679025012923562964, 8573033837759648693, 10970295158949994411, 12119686244451234320, 12683024718118986047, 13788192230050041572, 14330467153632333762, 15395433587784984357, 489312712824947311, 1452737877330783856, 2861767655752347644, 3322285676063803686, 5560940570517711597, 5996557281743188959, 7280758554555802590, 8532644243296465576, 9350256976987008742, 10552545826968843579, 11727347734174303076, 12113106623233404929, 14000437183269869457, 14369950271660146224, 15101387698204529176, 15463397548674623760, 17586052441742319658, 1182934255886127544, 1847814050463011016, 2177327727835720531, 2830643537854262169, 3796741975233480872, 4115178125766777443, 5681478168544905931, 6601373596472566643, 7507060721942968483, 8399075790359081724, 8693463985226723168, 9568029438360202098, 10144078919501101548, 10430055236837252648, 11840083180663258601, 13761210420658862357, 14299343276471374635, 14566680578165727644, 15097957966210449927, 16922976911328602910, 17689382322260857208, 500013540394364858, 748580250866718886, 1242879168328830382, 1977374033974150939, 2944078676154940804, 3659926193048069267, 4368137639120453308, 4836135668995329356, 5532061633213252278, 6448918945643986474, 6902733635092675308, 7801388544844847127]
def hTab : List UInt64 := [7640891576956012808, 13503953896175478587, 4354685564936845355, 11912009170470909681, 5840696475078001361, 11170449401992604703, 2270897969802886507, 6620516959819538809]
theorem kTab_len : kTab.length = 80 := by decide +kernel
theorem hTab_len : hTab.length = 8 := rfl
def at0 (l : List UInt64) (i : Nat) : UInt64 := l.getD i 0
def sg0 (x : UInt64) : UInt64 := ux (ux (rotr x 1) (rotr x 8)) (ush x 7)
def sg1 (x : UInt64) : UInt64 := ux (ux (rotr x 19) (rotr x 61)) (ush x 6)
def bs0 (x : UInt64) : UInt64 := ux (ux (rotr x 28) (rotr x 34)) (rotr x 39)
def bs1 (x : UInt64) : UInt64 := ux (ux (rotr x 14) (rotr x 18)) (rotr x 41)
def cho (e f g : UInt64) : UInt64 := ux (ua e f) (ua (un e) g)
def maj (a b c : UInt64) : UInt64 := ux (ux (ua a b) (ua a c)) (ua b c)
def wNext (l : List UInt64) (t : Nat) : UInt64 := up (up (up (at0 l (t - 16)) (sg0 (at0 l (t - 15)))) (at0 l (t - 7))) (sg1 (at0 l (t - 2)))
def wL (b : List UInt64) : Nat → List UInt64
 | 0 => []
 | t + 1 => wL b t ++ [if t < 16 then at0 b t else wNext (wL b t) t]
theorem wL_len (b : List UInt64) : ∀ t, (wL b t).length = t
 | 0 => rfl
 | t + 1 => by rw [wL, List.length_append, wL_len b t]; rfl
def rnd (v : List UInt64) (k w : UInt64) : List UInt64 :=
 [up (up (up (up (up (at0 v 7) (bs1 (at0 v 4))) (cho (at0 v 4) (at0 v 5) (at0 v 6))) k) w) (up (bs0 (at0 v 0)) (maj (at0 v 0) (at0 v 1) (at0 v 2))), at0 v 0, at0 v 1, at0 v 2, up (at0 v 3) (up (up (up (up (at0 v 7) (bs1 (at0 v 4))) (cho (at0 v 4) (at0 v 5) (at0 v 6))) k) w), at0 v 4, at0 v 5, at0 v 6]
def rL (h w : List UInt64) : Nat → List UInt64
 | 0 => h
 | t + 1 => rnd (rL h w t) (at0 kTab t) (at0 w t)
def turn (h b : List UInt64) : List UInt64 := (List.range 8).map fun i => up (at0 h i) (at0 (rL h (wL b 80) 80) i)
def be8 (x : UInt64) : List UInt8 := (leB 8 x.toNat).reverse
def beW (l : List UInt8) : UInt64 := UInt64.ofNat (leN l.reverse)
def words (l : List UInt8) : List UInt64 := (List.range 16).map fun i => beW ((l.drop (8 * i)).take 8)
def padB (l : List UInt8) : List UInt8 := l ++ (128 :: List.replicate ((240 - (l.length + 1) % 128) % 128) 0) ++ List.replicate 8 0 ++ be8 (UInt64.ofNat (8 * l.length))
def hSt (m : List UInt8) : Nat → List UInt64
 | 0 => hTab
 | i + 1 => turn (hSt m i) (words (m.drop (128 * i)))
def sha512 (l : List UInt8) : List UInt8 := ((List.range 8).map fun i => be8 (at0 (hSt (padB l) ((padB l).length / 128)) i)).flatten
end Go.Proofs.YtielgpefoameiaaGreat
namespace Go.Proofs.YtielgpefoameiaaGreat
open Go Go.RowKit
theorem uo_comm (a b : UInt64) : uo a b = uo b a := UInt64.or_comm a b
theorem rot_int (x : UInt64) (n m : Nat) (A B : Int) (h : 64 - n = m) (hA : ((2 ^ m : Nat) : Int) = A) (hB : ((2 ^ n : Nat) : Int) = B) : bits BinOp.or IntKind.u64 (IntKind.u64.wrap ((x.toNat : Int) * A)) ((x.toNat : Int) / B) = ((rotr x n).toNat : Int) := by
 subst h hA hB
 unfold rotr
 rw [uo_comm, ← uo_int, ← usl_int, ← ush_int]
 simp
set_option maxHeartbeats 400000 in
theorem rotl_1 (x : UInt64) (w : World) : Calls Tryz.prog 107 #[.int .u64 (x.toNat : Int), .int .i64 (-1)] w fun e w' => e = .returned (.int .u64 ((rotr x 1).toNat : Int)) ∧ w = w' := by
 have e1 : bits BinOp.and IntKind.u64 (IntKind.u64.wrap (-1)) 63 = 63 := by decide +kernel
 have HE := Lib.hid (rot_int x 1 63 9223372036854775808 2 rfl rfl rfl)
 go_enter Tryz.func107, Tryz.ntmps107
 go_wp2
 go_ret
 exact ⟨ret_int HE.out, rfl⟩
set_option maxHeartbeats 400000 in
theorem rotl_8 (x : UInt64) (w : World) : Calls Tryz.prog 107 #[.int .u64 (x.toNat : Int), .int .i64 (-8)] w fun e w' => e = .returned (.int .u64 ((rotr x 8).toNat : Int)) ∧ w = w' := by
 have e1 : bits BinOp.and IntKind.u64 (IntKind.u64.wrap (-8)) 63 = 56 := by decide +kernel
 have HE := Lib.hid (rot_int x 8 56 72057594037927936 256 rfl rfl rfl)
 go_enter Tryz.func107, Tryz.ntmps107
 go_wp2
 go_ret
 exact ⟨ret_int HE.out, rfl⟩
set_option maxHeartbeats 400000 in
theorem rotl_19 (x : UInt64) (w : World) : Calls Tryz.prog 107 #[.int .u64 (x.toNat : Int), .int .i64 (-19)] w fun e w' => e = .returned (.int .u64 ((rotr x 19).toNat : Int)) ∧ w = w' := by
 have e1 : bits BinOp.and IntKind.u64 (IntKind.u64.wrap (-19)) 63 = 45 := by decide +kernel
 have HE := Lib.hid (rot_int x 19 45 35184372088832 524288 rfl rfl rfl)
 go_enter Tryz.func107, Tryz.ntmps107
 go_wp2
 go_ret
 exact ⟨ret_int HE.out, rfl⟩
set_option maxHeartbeats 400000 in
theorem rotl_61 (x : UInt64) (w : World) : Calls Tryz.prog 107 #[.int .u64 (x.toNat : Int), .int .i64 (-61)] w fun e w' => e = .returned (.int .u64 ((rotr x 61).toNat : Int)) ∧ w = w' := by
 have e1 : bits BinOp.and IntKind.u64 (IntKind.u64.wrap (-61)) 63 = 3 := by decide +kernel
 have HE := Lib.hid (rot_int x 61 3 8 2305843009213693952 rfl rfl rfl)
 go_enter Tryz.func107, Tryz.ntmps107
 go_wp2
 go_ret
 exact ⟨ret_int HE.out, rfl⟩
set_option maxHeartbeats 400000 in
theorem rotl_14 (x : UInt64) (w : World) : Calls Tryz.prog 107 #[.int .u64 (x.toNat : Int), .int .i64 (-14)] w fun e w' => e = .returned (.int .u64 ((rotr x 14).toNat : Int)) ∧ w = w' := by
 have e1 : bits BinOp.and IntKind.u64 (IntKind.u64.wrap (-14)) 63 = 50 := by decide +kernel
 have HE := Lib.hid (rot_int x 14 50 1125899906842624 16384 rfl rfl rfl)
 go_enter Tryz.func107, Tryz.ntmps107
 go_wp2
 go_ret
 exact ⟨ret_int HE.out, rfl⟩
set_option maxHeartbeats 400000 in
theorem rotl_18 (x : UInt64) (w : World) : Calls Tryz.prog 107 #[.int .u64 (x.toNat : Int), .int .i64 (-18)] w fun e w' => e = .returned (.int .u64 ((rotr x 18).toNat : Int)) ∧ w = w' := by
 have e1 : bits BinOp.and IntKind.u64 (IntKind.u64.wrap (-18)) 63 = 46 := by decide +kernel
 have HE := Lib.hid (rot_int x 18 46 70368744177664 262144 rfl rfl rfl)
 go_enter Tryz.func107, Tryz.ntmps107
 go_wp2
 go_ret
 exact ⟨ret_int HE.out, rfl⟩
set_option maxHeartbeats 400000 in
theorem rotl_41 (x : UInt64) (w : World) : Calls Tryz.prog 107 #[.int .u64 (x.toNat : Int), .int .i64 (-41)] w fun e w' => e = .returned (.int .u64 ((rotr x 41).toNat : Int)) ∧ w = w' := by
 have e1 : bits BinOp.and IntKind.u64 (IntKind.u64.wrap (-41)) 63 = 23 := by decide +kernel
 have HE := Lib.hid (rot_int x 41 23 8388608 2199023255552 rfl rfl rfl)
 go_enter Tryz.func107, Tryz.ntmps107
 go_wp2
 go_ret
 exact ⟨ret_int HE.out, rfl⟩
set_option maxHeartbeats 400000 in
theorem rotl_28 (x : UInt64) (w : World) : Calls Tryz.prog 107 #[.int .u64 (x.toNat : Int), .int .i64 (-28)] w fun e w' => e = .returned (.int .u64 ((rotr x 28).toNat : Int)) ∧ w = w' := by
 have e1 : bits BinOp.and IntKind.u64 (IntKind.u64.wrap (-28)) 63 = 36 := by decide +kernel
 have HE := Lib.hid (rot_int x 28 36 68719476736 268435456 rfl rfl rfl)
 go_enter Tryz.func107, Tryz.ntmps107
 go_wp2
 go_ret
 exact ⟨ret_int HE.out, rfl⟩
set_option maxHeartbeats 400000 in
theorem rotl_34 (x : UInt64) (w : World) : Calls Tryz.prog 107 #[.int .u64 (x.toNat : Int), .int .i64 (-34)] w fun e w' => e = .returned (.int .u64 ((rotr x 34).toNat : Int)) ∧ w = w' := by
 have e1 : bits BinOp.and IntKind.u64 (IntKind.u64.wrap (-34)) 63 = 30 := by decide +kernel
 have HE := Lib.hid (rot_int x 34 30 1073741824 17179869184 rfl rfl rfl)
 go_enter Tryz.func107, Tryz.ntmps107
 go_wp2
 go_ret
 exact ⟨ret_int HE.out, rfl⟩
set_option maxHeartbeats 400000 in
theorem rotl_39 (x : UInt64) (w : World) : Calls Tryz.prog 107 #[.int .u64 (x.toNat : Int), .int .i64 (-39)] w fun e w' => e = .returned (.int .u64 ((rotr x 39).toNat : Int)) ∧ w = w' := by
 have e1 : bits BinOp.and IntKind.u64 (IntKind.u64.wrap (-39)) 63 = 25 := by decide +kernel
 have HE := Lib.hid (rot_int x 39 25 33554432 549755813888 rfl rfl rfl)
 go_enter Tryz.func107, Tryz.ntmps107
 go_wp2
 go_ret
 exact ⟨ret_int HE.out, rfl⟩
def beK (l : List UInt8) (k : Nat) : Nat := leN ((first l k).reverse)
theorem first_succ (l : List UInt8) (k : Nat) : first l (k + 1) = first l k ++ [l.getD k 0] := by
 unfold first
 by_cases h : k < l.length
 ·rw [List.take_succ_eq_append_getElem h, show k + 1 - l.length = 0 by omega, show k - l.length = 0 by omega, List.getD_eq_getElem?_getD, List.getElem?_eq_getElem h]
  simp
 ·rw [List.take_of_length_le (by omega), List.take_of_length_le (by omega), show k + 1 - l.length = (k - l.length) + 1 by omega, List.replicate_succ', List.getD_eq_getElem?_getD, List.getElem?_eq_none (by omega)]
  simp
theorem beK_succ (l : List UInt8) (k : Nat) : beK l (k + 1) = beK l k * 256 + (l.getD k 0).toNat := by
 unfold beK
 rw [first_succ, List.reverse_append]
 show (l.getD k 0).toNat + 256 * leN ((first l k).reverse) = _
 omega
theorem beK_lt (l : List UInt8) (k : Nat) : beK l k < 256 ^ k := by
 have h := leN_lt ((first l k).reverse)
 rw [List.length_reverse, first_len] at h
 exact h
theorem beW_beK (l : List UInt8) : ((beW (first l 8)).toNat : Int) = (beK l 8 : Nat) := by
 have h := beK_lt l 8
 unfold beW
 rw [UInt64.toNat_ofNat']
 show ((beK l 8 % _ : Nat) : Int) = _
 rw [Nat.mod_eq_of_lt (by omega)]
theorem orByte (n c : Nat) (hn : n < 72057594037927936) (hc : c < 256) : bits BinOp.or IntKind.u64 ((n : Int) * 256) (c : Int) = (n : Int) * 256 + (c : Int) := by
 have e := Nat.shiftLeft_add_eq_or_of_lt (i := 8) (b := c) (by omega) n
 rw [Nat.shiftLeft_eq] at e
 have h := u64_or_nat (n * 256) c (by omega) (by omega)
 have h2 : (n * 256 ||| c) = n * 256 + c := e.symm
 rw [h2] at h
 rw [show (n : Int) * 256 = ((n * 256 : Nat) : Int) by simp]
 rw [h]
 omega
set_option maxHeartbeats 400000 in
theorem get64_any {a : Option Addr} {n cap : Nat} {l : List UInt8} (w : World) (h : RdB w a n cap l) :
  Calls Tryz.prog 106 #[.slice a n cap] w fun e w' => e = .returned (.int .u64 ((beW (first l 8)).toNat : Int)) ∧ w = w' := by
 have HL := Lib.hid h.hlen
 have HG := Lib.hid h
 have HE := Lib.hid (beW_beK l)
 have hmx : (n : Int) ≤ 9223372036854775807 := by have := h.hcap; have := h.hmax; unfold maxLen at *; omega
 clear h
 go_enter Tryz.func106, Tryz.ntmps106
 go_wp2
 go_loop [2, 4] (fun v i => ∃ k : Nat, k ≤ 8 ∧ i = .int .i64 k ∧ v = .int .u64 (beK l k : Nat)) (fun _ i => 8 - (intOf i).toNat)
 case atStart => exact ⟨0, by omega, rfl, by rw [show beK l 0 = 0 from by simp [beK, first, leN]]; rfl⟩
 case round =>
  obtain ⟨k, hk, rfl, rfl⟩ := hrel
  by_cases hlt : k < 8
  ·have e1 := beK_succ l k
   have h2 : beK l k < 72057594037927936 := Nat.lt_of_lt_of_le (beK_lt l k) (Nat.le_trans (Nat.pow_le_pow_right (by omega) (show k ≤ 7 by omega)) (by decide))
   have HB := Lib.hid e1
   clear e1
   generalize beK l k = m at *
   have hw : IntKind.u64.wrap ((m : Int) * 256) = (m : Int) * 256 := by rw [IntKind.wrap_u64]; omega
   by_cases hkn : k < n
   ·have hkl : k < l.length := by rw [HL.out]; exact hkn
    obtain ⟨b, o, rfl, hc⟩ := HG.out.get k hkl
    have hor := orByte m l[k].toNat h2 l[k].toNat_lt
    have HB2 : Hid (((beK l (k + 1) : Nat) : Int) = (m : Int) * 256 + (l[k].toNat : Int)) := Lib.hid (by rw [HB.out, List.getD_eq_getElem?_getD, List.getElem?_eq_getElem hkl, Option.getD_some]; omega)
    have hwc : IntKind.u64.wrap (l[k].toNat : Int) = (l[k].toNat : Int) := by have := l[k].toNat_lt; rw [IntKind.wrap_u64]; omega
    unfold bV at hc
    clear HB h2
    go_wp2
    go_round
    case rel => exact ⟨k + 1, by omega, by go_num, by rw [HB2.out]⟩
    case measure => simp [intOf]; omega
   ·have HB2 : Hid (((beK l (k + 1) : Nat) : Int) = (m : Int) * 256) := Lib.hid (by rw [HB.out, List.getD_eq_getElem?_getD, List.getElem?_eq_none (by rw [HL.out]; omega)]; simp)
    clear HB h2
    go_wp2
    go_round
    case rel => exact ⟨k + 1, by omega, by go_num, by rw [HB2.out]⟩
    case measure => simp [intOf]; omega
  ·obtain rfl : k = 8 := by omega
   go_wp2
   go_ret
   exact ⟨ret_int HE.out.symm, rfl⟩
def revK (l : List UInt8) (k : Nat) : List UInt8 := (List.range 8).map fun i => if i < k ∨ 8 - k ≤ i then l.getD (7 - i) 0 else l.getD i 0
set_option maxHeartbeats 1000000 in
theorem rev8_any {g : Nat} {l : List UInt8} (w : World) (hl : l.length = 8) (h : Blk w g (l.map bV) 5) :
  Calls Tryz.prog 108 #[.slice (some ⟨g, 0, none⟩) 8 8] w fun e w' => e = .returned (.tuple #[]) ∧ Blk w' g (l.reverse.map bV) 5 ∧ Below g w w' := by
 obtain ⟨a, b, c, d, e, f, i, j, rfl⟩ : ∃ a b c d e f i j, l = [a, b, c, d, e, f, i, j] := by
  match l, hl with
  | [a, b, c, d, e, f, i, j], _ => exact ⟨a, b, c, d, e, f, i, j, rfl⟩
 clear hl
 go_enter Tryz.func108, Tryz.ntmps108
 go_wp2
 go_loopw [2, 3] (fun x y wr => ∃ k : Nat, k ≤ 4 ∧ x = .int .i64 k ∧ y = .int .i64 (7 - (k : Int)) ∧ Blk wr g ((revK [a, b, c, d, e, f, i, j] k).map bV) 5 ∧ Below g w wr) (fun x _ _ => 4 - (intOf x).toNat)
 case atStart => exact ⟨0, by omega, rfl, rfl, h, Below.refl _ _⟩
 case round =>
  obtain ⟨k, hk, rfl, rfl, hB, hb⟩ := hrel
  clear h
  have hk : k = 0 ∨ k = 1 ∨ k = 2 ∨ k = 3 ∨ k = 4 := by omega
  rcases hk with rfl | rfl | rfl | rfl | rfl
  ·have h0 : wr.cell? ⟨g, 0, none⟩ = some (.int .u8 (a.toNat : Int)) := hB.cell 0
   have h7 : wr.cell? ⟨g, 7, none⟩ = some (.int .u8 (j.toNat : Int)) := hB.cell 7
   have f0 := hB.frozen 0
   have f7 := hB.frozen 7
   have HB := Lib.hid hB
   clear hB
   go_wp2
   go_region
   all_goals
    go_wp2
    go_roundw
    case rel => first | exact ⟨1, by omega, by go_num, by go_num, Blk.drew ((HB.out.set 0 (bV j)).set 7 (bV a)), (hb.setCell (Nat.le_refl _) _).setCell (Nat.le_refl _) _ |>.drew⟩ | exact ⟨1, by omega, by go_num, by go_num, Blk.drew ((HB.out.set 7 (bV a)).set 0 (bV j)), (hb.setCell (Nat.le_refl _) _).setCell (Nat.le_refl _) _ |>.drew⟩
    case measure => simp [intOf]
  ·have h0 : wr.cell? ⟨g, 1, none⟩ = some (.int .u8 (b.toNat : Int)) := hB.cell 1
   have h7 : wr.cell? ⟨g, 6, none⟩ = some (.int .u8 (i.toNat : Int)) := hB.cell 6
   have f0 := hB.frozen 1
   have f7 := hB.frozen 6
   have HB := Lib.hid hB
   clear hB
   go_wp2
   go_region
   all_goals
    go_wp2
    go_roundw
    case rel => first | exact ⟨2, by omega, by go_num, by go_num, Blk.drew ((HB.out.set 1 (bV i)).set 6 (bV b)), (hb.setCell (Nat.le_refl _) _).setCell (Nat.le_refl _) _ |>.drew⟩ | exact ⟨2, by omega, by go_num, by go_num, Blk.drew ((HB.out.set 6 (bV b)).set 1 (bV i)), (hb.setCell (Nat.le_refl _) _).setCell (Nat.le_refl _) _ |>.drew⟩
    case measure => simp [intOf]
  ·have h0 : wr.cell? ⟨g, 2, none⟩ = some (.int .u8 (c.toNat : Int)) := hB.cell 2
   have h7 : wr.cell? ⟨g, 5, none⟩ = some (.int .u8 (f.toNat : Int)) := hB.cell 5
   have f0 := hB.frozen 2
   have f7 := hB.frozen 5
   have HB := Lib.hid hB
   clear hB
   go_wp2
   go_region
   all_goals
    go_wp2
    go_roundw
    case rel => first | exact ⟨3, by omega, by go_num, by go_num, Blk.drew ((HB.out.set 2 (bV f)).set 5 (bV c)), (hb.setCell (Nat.le_refl _) _).setCell (Nat.le_refl _) _ |>.drew⟩ | exact ⟨3, by omega, by go_num, by go_num, Blk.drew ((HB.out.set 5 (bV c)).set 2 (bV f)), (hb.setCell (Nat.le_refl _) _).setCell (Nat.le_refl _) _ |>.drew⟩
    case measure => simp [intOf]
  ·have h0 : wr.cell? ⟨g, 3, none⟩ = some (.int .u8 (d.toNat : Int)) := hB.cell 3
   have h7 : wr.cell? ⟨g, 4, none⟩ = some (.int .u8 (e.toNat : Int)) := hB.cell 4
   have f0 := hB.frozen 3
   have f7 := hB.frozen 4
   have HB := Lib.hid hB
   clear hB
   go_wp2
   go_region
   all_goals
    go_wp2
    go_roundw
    case rel => first | exact ⟨4, by omega, by go_num, by go_num, Blk.drew ((HB.out.set 3 (bV e)).set 4 (bV d)), (hb.setCell (Nat.le_refl _) _).setCell (Nat.le_refl _) _ |>.drew⟩ | exact ⟨4, by omega, by go_num, by go_num, Blk.drew ((HB.out.set 4 (bV d)).set 3 (bV e)), (hb.setCell (Nat.le_refl _) _).setCell (Nat.le_refl _) _ |>.drew⟩
    case measure => simp [intOf]
  ·go_wp2
   exact bodyPost_end (results_none Tryz.results108 _ _ _) rfl ⟨rfl, hB, hb⟩
set_option maxHeartbeats 400000 in
theorem put64_any {x : UInt64} (w : World) :
  Calls Tryz.prog 54 #[.int .u64 (x.toNat : Int)] w fun e w' => e = .returned (.slice (some ⟨w.heap.size, 0, none⟩) 8 8) ∧ Blk w' w.heap.size ((be8 x).map bV) 5 ∧ Below w.heap.size w w' := by
 have HX := Lib.hid (show x.toNat < 18446744073709551616 from x.toNat_lt)
 go_enter Tryz.func54, Tryz.ntmps54
 go_wp2_with (first
  | (go_at_call 71; go_must (refine (little_any HX.out _).mono ?_; rintro e w1 ⟨rfl, hB, hb⟩; have HB := Lib.hid hB; have hbel := hb; clear hB hb))
  | (go_at_call 108; go_must (refine (rev8_any _ (leB_len 8 _) HB.out).mono ?_; rintro e w2 ⟨rfl, hB2, hb2⟩; have HB2 := Lib.hid hB2; have hbel2 := hbel.trans hb2; clear hB2 hb2)))
 go_ret
 exact ⟨rfl, HB2.out, hbel2⟩
end Go.Proofs.YtielgpefoameiaaGreat
namespace Go.Proofs.YtielgpefoameiaaGreat
section
variable {K : Type} [Lean.Grind.Field K]
def onC (d x y : K) : Prop := y * y - x * x = 1 + d * x * x * y * y
theorem complete {d i x1 y1 x2 y2 e : K} (hi : i * i = -1) (hd : ∀ r : K, r * r ≠ d) (h2 : (2 : K) ≠ 0) (c1 : onC d x1 y1) (c2 : onC d x2 y2) (he : e * e = 1) : d * x1 * x2 * y1 * y2 ≠ e := by
 intro h
 unfold onC at c1 c2
 have hx : x1 * y1 ≠ 0 := by
  intro h0
  have : e = 0 := by rw [← h]; grind
  subst this
  grind
 have k1 : (i * x1 + e * y1) * (i * x1 + e * y1) = d * (x1 * y1 * (i * x2 + y2)) * (x1 * y1 * (i * x2 + y2)) := by grind
 have k2 : (i * x1 - e * y1) * (i * x1 - e * y1) = d * (x1 * y1 * (i * x2 - y2)) * (x1 * y1 * (i * x2 - y2)) := by grind
 have key : ∀ s t : K, s * s = d * (x1 * y1 * t) * (x1 * y1 * t) → t = 0 := by
  intro s t hs
  by_cases ht : t = 0
  ·exact ht
  ·exfalso
   apply hd (s * (x1 * y1 * t)⁻¹)
   have hn : x1 * y1 * t ≠ 0 := by grind
   have hm := Lean.Grind.Field.mul_inv_cancel hn
   generalize (x1 * y1 * t)⁻¹ = v at *
   generalize x1 * y1 * t = q at *
   grind
 have a1 := key _ _ k1
 have a2 := key _ _ k2
 have b1 : y2 = 0 := by
  have : (2 : K) * y2 = 0 := by grind
  rcases (by grind : (2 : K) = 0 ∨ y2 = 0) with h | h
  ·exact absurd h h2
  ·exact h
 subst b1
 have : e = 0 := by rw [← h]; grind
 subst this
 grind
structure Cu (K : Type) [Lean.Grind.Field K] where
 d : K
 i : K
 hi : i * i = -1
 hd : ∀ r : K, r * r ≠ d
 h2 : (2 : K) ≠ 0
structure Cp (c : Cu K) where
 x : K
 y : K
 on : onC c.d x y
variable {c : Cu K}
theorem Cp.ext' {P Q : Cp c} (h1 : P.x = Q.x) (h2 : P.y = Q.y) : P = Q := by
 cases P; cases Q; simp at h1 h2; subst h1; subst h2; rfl
theorem Cp.one_ne (c : Cu K) : (1 : K) ≠ 0 := by
 have := c.h2
 grind
theorem Cp.plus (P Q : Cp c) : 1 + c.d * P.x * Q.x * P.y * Q.y ≠ 0 := by
 intro h
 exact complete (e := -1) c.hi c.hd c.h2 P.on Q.on (by grind) (by grind)
theorem Cp.minus (P Q : Cp c) : 1 - c.d * P.x * Q.x * P.y * Q.y ≠ 0 := by
 intro h
 exact complete (e := 1) c.hi c.hd c.h2 P.on Q.on (by grind) (by grind)
theorem closed {d x1 y1 x2 y2 u v : K} (c1 : onC d x1 y1) (c2 : onC d x2 y2) (hu : (1 + d * x1 * x2 * y1 * y2) * u = 1) (hv : (1 - d * x1 * x2 * y1 * y2) * v = 1) :
  onC d ((x1 * y2 + y1 * x2) * u) ((y1 * y2 + x1 * x2) * v) := by
 unfold onC at *
 have k : ((y1 * y2 + x1 * x2) * (1 + d * x1 * x2 * y1 * y2)) * ((y1 * y2 + x1 * x2) * (1 + d * x1 * x2 * y1 * y2)) - ((x1 * y2 + y1 * x2) * (1 - d * x1 * x2 * y1 * y2)) * ((x1 * y2 + y1 * x2) * (1 - d * x1 * x2 * y1 * y2))
   = (1 + d * x1 * x2 * y1 * y2) * (1 + d * x1 * x2 * y1 * y2) * (1 - d * x1 * x2 * y1 * y2) * (1 - d * x1 * x2 * y1 * y2) + d * ((x1 * y2 + y1 * x2) * (x1 * y2 + y1 * x2)) * ((y1 * y2 + x1 * x2) * (y1 * y2 + x1 * x2)) := by grind
 generalize x1 * y2 + y1 * x2 = A at *
 generalize y1 * y2 + x1 * x2 = C at *
 generalize 1 + d * x1 * x2 * y1 * y2 = B at *
 generalize 1 - d * x1 * x2 * y1 * y2 = D at *
 clear c1 c2
 have e1 : C * v * (C * v) - A * u * (A * u) = (C * B * (C * B) - A * D * (A * D)) * (u * u * v * v) := by grind
 have e2 : 1 + d * (A * u) * (A * u) * (C * v) * (C * v) = (B * B * D * D + d * (A * A) * (C * C)) * (u * u * v * v) := by grind
 rw [e1, e2, k]
def Cp.add (P Q : Cp c) : Cp c where
 x := (P.x * Q.y + P.y * Q.x) * (1 + c.d * P.x * Q.x * P.y * Q.y)⁻¹
 y := (P.y * Q.y + P.x * Q.x) * (1 - c.d * P.x * Q.x * P.y * Q.y)⁻¹
 on := closed P.on Q.on (Lean.Grind.Field.mul_inv_cancel (P.plus Q)) (Lean.Grind.Field.mul_inv_cancel (P.minus Q))
def Cp.zero : Cp c where
 x := 0
 y := 1
 on := by unfold onC; grind
theorem Cp.add_x (P Q : Cp c) : (P.add Q).x * (1 + c.d * P.x * Q.x * P.y * Q.y) = P.x * Q.y + P.y * Q.x := by
 have h := Lean.Grind.Field.mul_inv_cancel (P.plus Q)
 show (P.x * Q.y + P.y * Q.x) * (1 + c.d * P.x * Q.x * P.y * Q.y)⁻¹ * _ = _
 generalize (1 + c.d * P.x * Q.x * P.y * Q.y)⁻¹ = u at *
 generalize 1 + c.d * P.x * Q.x * P.y * Q.y = B at *
 generalize P.x * Q.y + P.y * Q.x = A at *
 grind
theorem Cp.add_y (P Q : Cp c) : (P.add Q).y * (1 - c.d * P.x * Q.x * P.y * Q.y) = P.y * Q.y + P.x * Q.x := by
 have h := Lean.Grind.Field.mul_inv_cancel (P.minus Q)
 show (P.y * Q.y + P.x * Q.x) * (1 - c.d * P.x * Q.x * P.y * Q.y)⁻¹ * _ = _
 generalize (1 - c.d * P.x * Q.x * P.y * Q.y)⁻¹ = u at *
 generalize 1 - c.d * P.x * Q.x * P.y * Q.y = B at *
 generalize P.y * Q.y + P.x * Q.x = A at *
 grind
theorem Cp.add_eq {P Q R : Cp c} (hx : R.x * (1 + c.d * P.x * Q.x * P.y * Q.y) = P.x * Q.y + P.y * Q.x) (hy : R.y * (1 - c.d * P.x * Q.x * P.y * Q.y) = P.y * Q.y + P.x * Q.x) : P.add Q = R := by
 have a1 := P.add_x Q
 have a2 := P.add_y Q
 have h1 := P.plus Q
 have h2 := P.minus Q
 apply Cp.ext'
 ·have := Lean.Grind.Field.mul_inv_cancel h1
  generalize (1 + c.d * P.x * Q.x * P.y * Q.y)⁻¹ = u at *
  generalize 1 + c.d * P.x * Q.x * P.y * Q.y = B at *
  generalize (P.add Q).x = s at *
  generalize P.x * Q.y + P.y * Q.x = A at *
  grind
 ·have := Lean.Grind.Field.mul_inv_cancel h2
  generalize (1 - c.d * P.x * Q.x * P.y * Q.y)⁻¹ = u at *
  generalize 1 - c.d * P.x * Q.x * P.y * Q.y = B at *
  generalize (P.add Q).y = s at *
  generalize P.y * Q.y + P.x * Q.x = A at *
  grind
theorem Cp.comm (P Q : Cp c) : P.add Q = Q.add P := by
 apply Cp.add_eq
 ·have := Q.add_x P
  grind
 ·have := Q.add_y P
  grind
theorem Cp.zero_add (P : Cp c) : Cp.zero.add P = P := by
 apply Cp.add_eq
 ·show P.x * (1 + c.d * 0 * P.x * 1 * P.y) = 0 * P.y + 1 * P.x
  grind
 ·show P.y * (1 - c.d * 0 * P.x * 1 * P.y) = 1 * P.y + 0 * P.x
  grind
theorem Cp.add_zero (P : Cp c) : P.add Cp.zero = P := by rw [Cp.comm, Cp.zero_add]
theorem frac {a b m n s t : K} (hm : m ≠ 0) (hn : n ≠ 0) (h1 : s * m = a) (h2 : t * n = b) (h : a * n = b * m) : s = t := by
 have k1 := Lean.Grind.Field.mul_inv_cancel hm
 have k2 := Lean.Grind.Field.mul_inv_cancel hn
 generalize m⁻¹ = u at *
 generalize n⁻¹ = v at *
 grind
theorem assoc_x {d x1 y1 x2 y2 x3 y3 : K} (c1 : onC d x1 y1) (c2 : onC d x2 y2) (c3 : onC d x3 y3) :
  ((x1 * y2 + y1 * x2) * (1 - d * x1 * x2 * y1 * y2) * y3 + (y1 * y2 + x1 * x2) * (1 + d * x1 * x2 * y1 * y2) * x3) * ((1 + d * x2 * x3 * y2 * y3) * (1 - d * x2 * x3 * y2 * y3) + d * (x2 * y3 + y2 * x3) * (y2 * y3 + x2 * x3) * x1 * y1)
   = (x1 * ((y2 * y3 + x2 * x3) * (1 + d * x2 * x3 * y2 * y3)) + y1 * ((x2 * y3 + y2 * x3) * (1 - d * x2 * x3 * y2 * y3))) * ((1 + d * x1 * x2 * y1 * y2) * (1 - d * x1 * x2 * y1 * y2) + d * (x1 * y2 + y1 * x2) * (y1 * y2 + x1 * x2) * x3 * y3) := by
 unfold onC at *
 grind
theorem assoc_y {d x1 y1 x2 y2 x3 y3 : K} (c1 : onC d x1 y1) (c2 : onC d x2 y2) (c3 : onC d x3 y3) :
  ((y1 * y2 + x1 * x2) * (1 + d * x1 * x2 * y1 * y2) * y3 + (x1 * y2 + y1 * x2) * (1 - d * x1 * x2 * y1 * y2) * x3) * ((1 + d * x2 * x3 * y2 * y3) * (1 - d * x2 * x3 * y2 * y3) - d * (x2 * y3 + y2 * x3) * (y2 * y3 + x2 * x3) * x1 * y1)
   = (y1 * ((y2 * y3 + x2 * x3) * (1 + d * x2 * x3 * y2 * y3)) + x1 * ((x2 * y3 + y2 * x3) * (1 - d * x2 * x3 * y2 * y3))) * ((1 + d * x1 * x2 * y1 * y2) * (1 - d * x1 * x2 * y1 * y2) - d * (x1 * y2 + y1 * x2) * (y1 * y2 + x1 * x2) * x3 * y3) := by
 unfold onC at *
 grind
theorem mul_ne {a b : K} (ha : a ≠ 0) (hb : b ≠ 0) : a * b ≠ 0 := by grind
theorem Cp.assoc (P Q R : Cp c) : (P.add Q).add R = P.add (Q.add R) := by
 have a1 := P.add_x Q
 have a2 := P.add_y Q
 have b1 := Q.add_x R
 have b2 := Q.add_y R
 have n1 := P.plus Q
 have n2 := P.minus Q
 have n3 := Q.plus R
 have n4 := Q.minus R
 have f1 := (P.add Q).add_x R
 have f2 := (P.add Q).add_y R
 have g1 := P.add_x (Q.add R)
 have g2 := P.add_y (Q.add R)
 have m1 := (P.add Q).plus R
 have m2 := (P.add Q).minus R
 have m3 := P.plus (Q.add R)
 have m4 := P.minus (Q.add R)
 have hx := assoc_x P.on Q.on R.on
 have hy := assoc_y P.on Q.on R.on
 generalize ((P.add Q).add R) = S1 at *
 generalize (P.add (Q.add R)) = S2 at *
 generalize P.add Q = U at *
 generalize Q.add R = V at *
 generalize P.x * Q.y + P.y * Q.x = A at *
 generalize P.y * Q.y + P.x * Q.x = C at *
 generalize 1 + c.d * P.x * Q.x * P.y * Q.y = B at *
 generalize 1 - c.d * P.x * Q.x * P.y * Q.y = D at *
 generalize Q.x * R.y + Q.y * R.x = A' at *
 generalize Q.y * R.y + Q.x * R.x = C' at *
 generalize 1 + c.d * Q.x * R.x * Q.y * R.y = B' at *
 generalize 1 - c.d * Q.x * R.x * Q.y * R.y = D' at *
 subst a1 a2 b1 b2
 apply Cp.ext'
 ·refine frac (mul_ne m1 (mul_ne n1 n2)) (mul_ne m3 (mul_ne n3 n4)) (a := (U.x * R.y + U.y * R.x) * (B * D)) (b := (P.x * V.y + P.y * V.x) * (B' * D')) (by rw [← f1]; clear hx hy f1 f2 g1 g2 m1 m2 m3 m4; grind) (by rw [← g1]; clear hx hy f1 f2 g1 g2 m1 m2 m3 m4; grind) ?_
  clear hy f1 f2 g1 g2 m1 m2 m3 m4 n1 n2 n3 n4
  grind
 ·refine frac (mul_ne m2 (mul_ne n1 n2)) (mul_ne m4 (mul_ne n3 n4)) (a := (U.y * R.y + U.x * R.x) * (B * D)) (b := (P.y * V.y + P.x * V.x) * (B' * D')) (by rw [← f2]; clear hx hy f1 f2 g1 g2 m1 m2 m3 m4; grind) (by rw [← g2]; clear hx hy f1 f2 g1 g2 m1 m2 m3 m4; grind) ?_
  clear hx f1 f2 g1 g2 m1 m2 m3 m4 n1 n2 n3 n4
  grind
def Cp.mul : Nat → Cp c → Cp c
 | 0, _ => Cp.zero
 | n + 1, P => (Cp.mul n P).add P
theorem Cp.mul_add (m n : Nat) (P : Cp c) : Cp.mul (m + n) P = (Cp.mul m P).add (Cp.mul n P) := by
 induction n with
 | zero => exact (Cp.add_zero _).symm
 | succ n ih => show (Cp.mul (m + n) P).add P = _; rw [ih, Cp.assoc]; rfl
end
section
variable {K : Type} [Lean.Grind.Field K]
end
def dE : F := fn 37095705934669439343138083508754565189542113879843219016388785533085940283555
theorem dE_eq : dE * (fn 121665 + 1) = -fn 121665 := by decide +kernel
theorem dE_non : fpow dE exp2 ≠ 1 := by
 intro h
 have h1 := congrArg Fin.val h
 rw [fpow_val, ← powMod_spec Pq 256 dE.val exp2 (by decide +kernel)] at h1
 exact absurd h1 (by decide +kernel)
theorem two_ne : (2 : F) ≠ 0 := by intro h; exact absurd (congrArg Fin.val h) (by decide)
theorem dE_sq (r : F) : r * r ≠ dE := by
 intro h
 have hr : r ≠ 0 := by
  rintro rfl
  exact absurd (congrArg Fin.val h) (by decide +kernel)
 apply dE_non
 rw [← h, fpow_mul_base, ← fpow_add, exp_two, fermatF hr]
def cuE : Cu F where
 d := dE
 i := sqm1
 hi := sqm1_sq
 hd := dE_sq
 h2 := two_ne
abbrev EP := Cp cuE
def baseX : F := fn 15112221349535400772501151409588531511454012693041857206046113283949847762202
def baseY : F := fn 46316835694926478169428394003475163141307993866256225615783033603165251855960
def base : EP where
 x := baseX
 y := baseY
 on := by unfold onC; decide +kernel
section
variable {K : Type} [Lean.Grind.Field K] {c : Cu K}
structure Prep (P : Cp c) (X Y Z : K) : Prop where
 z : Z ≠ 0
 x : X = P.x * Z
 y : Y = P.y * Z
theorem Prep.add {P Q : Cp c} {X Y Z X' Y' Z' : K} (h : Prep P X Y Z) (h' : Prep Q X' Y' Z') :
  Prep (P.add Q) (Z * Z' * (Z * Z' * (Z * Z') - c.d * (X * X' * (Y * Y'))) * (X * Y' + X' * Y)) (Z * Z' * (Z * Z' * (Z * Z') + c.d * (X * X' * (Y * Y'))) * (Y * Y' + X * X')) ((Z * Z' * (Z * Z') - c.d * (X * X' * (Y * Y'))) * (Z * Z' * (Z * Z') + c.d * (X * X' * (Y * Y')))) := by
 obtain ⟨hz, rfl, rfl⟩ := h
 obtain ⟨hz', rfl, rfl⟩ := h'
 have h1 := P.plus Q
 have h2 := P.minus Q
 have e1 := P.add_x Q
 have e2 := P.add_y Q
 generalize hR : (P.add Q) = R at *
 have f1 : Z * Z' * (Z * Z') - c.d * (P.x * Z * (Q.x * Z') * (P.y * Z * (Q.y * Z'))) = (Z * Z') * (Z * Z') * (1 - c.d * P.x * Q.x * P.y * Q.y) := by
  clear e1 e2 h1 h2 hz hz'; grind
 have f2 : Z * Z' * (Z * Z') + c.d * (P.x * Z * (Q.x * Z') * (P.y * Z * (Q.y * Z'))) = (Z * Z') * (Z * Z') * (1 + c.d * P.x * Q.x * P.y * Q.y) := by
  clear e1 e2 h1 h2 hz hz' f1; grind
 rw [f1, f2]
 have hzz := mul_ne hz hz'
 generalize 1 + c.d * P.x * Q.x * P.y * Q.y = B at *
 generalize 1 - c.d * P.x * Q.x * P.y * Q.y = D at *
 have g1 : P.x * Z * (Q.y * Z') + Q.x * Z' * (P.y * Z) = (Z * Z') * (P.x * Q.y + P.y * Q.x) := by clear e1 e2 h1 h2 hz hz' f1 f2 hzz hR; grind
 have g2 : P.y * Z * (Q.y * Z') + P.x * Z * (Q.x * Z') = (Z * Z') * (P.y * Q.y + P.x * Q.x) := by clear e1 e2 h1 h2 hz hz' f1 f2 hzz hR g1; grind
 rw [g1, g2, ← e1, ← e2]
 generalize Z * Z' = z at *
 refine ⟨?_, ?_, ?_⟩
 ·exact mul_ne (mul_ne (mul_ne hzz hzz) h2) (mul_ne (mul_ne hzz hzz) h1)
 ·clear e1 e2 h1 h2 hz hz' f1 f2 hzz hR g1 g2; grind
 ·clear e1 e2 h1 h2 hz hz' f1 f2 hzz hR g1 g2; grind
theorem Prep.zero : Prep (Cp.zero : Cp c) 0 1 1 := ⟨Cp.one_ne c, by show (0 : K) = 0 * 1; grind, by show (1 : K) = 1 * 1; grind⟩
theorem Prep.one (P : Cp c) : Prep P P.x P.y 1 := ⟨Cp.one_ne c, by grind, by grind⟩
end
def frn {α : Type} (n : Nat) (k : Nat → α) : α := Nat.rec (k 0) (fun m _ => k (Nat.succ m)) n
theorem frn_eq {α : Type} (n : Nat) (k : Nat → α) : frn n k = k n := by cases n <;> rfl
def mulQ (a b : Nat) : Nat := a * b % Pq
def addQ (a b : Nat) : Nat := (a + b) % Pq
def subQ (a b : Nat) : Nat := (Pq - b + a) % Pq
def addN {α : Type} (X Y Z X' Y' Z' : Nat) (k : Nat → Nat → Nat → α) : α :=
 frn (mulQ Z Z') fun z => frn (mulQ z z) fun zz => frn (mulQ X X') fun x => frn (mulQ Y Y') fun y => frn (mulQ dE.val (mulQ x y)) fun e =>
 frn (subQ zz e) fun f => frn (addQ zz e) fun g => frn (addQ (mulQ X Y') (mulQ X' Y)) fun h =>
 frn (mulQ (mulQ z f) h) fun X3 => frn (mulQ (mulQ z g) (addQ y x)) fun Y3 => frn (mulQ f g) fun Z3 => k X3 Y3 Z3
theorem addN_eq {α : Type} (X Y Z X' Y' Z' : F) (k : Nat → Nat → Nat → α) :
  addN X.val Y.val Z.val X'.val Y'.val Z'.val k = k (Z * Z' * (Z * Z' * (Z * Z') - dE * (X * X' * (Y * Y'))) * (X * Y' + X' * Y)).val (Z * Z' * (Z * Z' * (Z * Z') + dE * (X * X' * (Y * Y'))) * (Y * Y' + X * X')).val ((Z * Z' * (Z * Z') - dE * (X * X' * (Y * Y'))) * (Z * Z' * (Z * Z') + dE * (X * X' * (Y * Y')))).val := by
 simp only [addN, frn_eq]
 rfl
def mulN : Nat → Nat → Nat × Nat × Nat
 | 0, _ => (0, 1, 1)
 | f + 1, n => if n = 0 then (0, 1, 1) else
  match mulN f (n / 2) with
  | (X, Y, Z) => addN X Y Z X Y Z fun X Y Z => if n % 2 = 1 then addN X Y Z baseX.val baseY.val 1 fun X Y Z => (X, Y, Z) else (X, Y, Z)
theorem mulN_ok : ∀ f n, n < 2 ^ f → ∃ X Y Z : F, mulN f n = (X.val, Y.val, Z.val) ∧ Prep (Cp.mul n base) X Y Z
 | 0, n, h => by
  obtain rfl : n = 0 := by simp at h; exact h
  exact ⟨0, 1, 1, rfl, Prep.zero⟩
 | f + 1, n, h => by
  by_cases h0 : n = 0
  ·subst h0
   exact ⟨0, 1, 1, by rw [mulN, if_pos rfl]; rfl, Prep.zero⟩
  ·obtain ⟨X, Y, Z, e, hp⟩ := mulN_ok f (n / 2) (by rw [Nat.pow_succ] at h; omega)
   rw [mulN, if_neg h0, e]
   simp only [addN_eq]
   have h2 := hp.add hp
   rw [← Cp.mul_add] at h2
   by_cases h1 : n % 2 = 1
   ·rw [if_pos h1]
    have h3 := h2.add (Prep.one base)
    have e0 : ∀ q, n = q + q + 1 → Cp.mul n base = (Cp.mul (q + q) base).add base := fun q hq => by subst hq; rfl
    have e1 := e0 (n / 2) (by omega)
    rw [e1]
    exact ⟨_, _, _, addN_eq _ _ _ baseX baseY 1 _, h3⟩
   ·rw [if_neg h1]
    have e0 : n / 2 + n / 2 = n := by omega
    rw [e0] at h2
    exact ⟨_, _, _, rfl, h2⟩
section
variable {K : Type} [Lean.Grind.Field K] {c : Cu K}
structure Pext (P : Cp c) (X Y Z T : K) : Prop where
 p : Prep P X Y Z
 t : T = P.x * P.y * Z
theorem Pext.zero : Pext (Cp.zero : Cp c) 0 1 1 0 := ⟨Prep.zero, by show (0 : K) = 0 * 1 * 1; grind⟩
theorem Pext.one (P : Cp c) : Pext P P.x P.y 1 (P.x * P.y) := ⟨Prep.one P, by grind⟩
theorem Pext.add {P Q : Cp c} {X Y Z T X' Y' Z' T' : K} (h : Pext P X Y Z T) (h' : Pext Q X' Y' Z' T') {m n k z e f g u : K}
  (hm : m = (Y - X) * (Y' - X')) (hn : n = (Y + X) * (Y' + X')) (hk : k = T * (c.d + c.d) * T') (hzz : z = Z * Z' + Z * Z') (he : e = n - m) (hf : f = z - k) (hg : g = z + k) (hu : u = n + m) :
  Pext (P.add Q) (e * f) (g * u) (f * g) (e * u) := by
 obtain ⟨⟨hz, rfl, rfl⟩, rfl⟩ := h
 obtain ⟨⟨hz', rfl, rfl⟩, rfl⟩ := h'
 have h1 := P.plus Q
 have h2 := P.minus Q
 have e1 := P.add_x Q
 have e2 := P.add_y Q
 have h3 := c.h2
 generalize hR : (P.add Q) = R at *
 have hw := mul_ne h3 (mul_ne hz hz')
 have f1 : f = 2 * (Z * Z') * (1 - c.d * P.x * Q.x * P.y * Q.y) := by
  rw [hf, hzz, hk]; clear e1 e2 h1 h2 hz hz' hm hn hk hzz he hf hg hu hw h3 hR; grind
 have f2 : g = 2 * (Z * Z') * (1 + c.d * P.x * Q.x * P.y * Q.y) := by
  rw [hg, hzz, hk]; clear e1 e2 h1 h2 hz hz' hm hn hk hzz he hf hg hu hw h3 hR f1; grind
 have g1 : e = 2 * (Z * Z') * (P.x * Q.y + P.y * Q.x) := by
  rw [he, hn, hm]; clear e1 e2 h1 h2 hz hz' hm hn hk hzz he hf hg hu hw h3 hR f1 f2; grind
 have g2 : u = 2 * (Z * Z') * (P.y * Q.y + P.x * Q.x) := by
  rw [hu, hn, hm]; clear e1 e2 h1 h2 hz hz' hm hn hk hzz he hf hg hu hw h3 hR f1 f2 g1; grind
 rw [f1, f2, g1, g2, ← e1, ← e2]
 clear hm hn hk hzz he hf hg hu f1 f2 g1 g2 e1 e2 hR h3
 generalize 1 + c.d * P.x * Q.x * P.y * Q.y = B at *
 generalize 1 - c.d * P.x * Q.x * P.y * Q.y = D at *
 generalize 2 * (Z * Z') = q at *
 clear hz hz'
 refine ⟨⟨?_, ?_, ?_⟩, ?_⟩
 ·exact mul_ne (mul_ne hw h2) (mul_ne hw h1)
 ·clear h1 h2 hw; grind
 ·clear h1 h2 hw; grind
 ·clear h1 h2 hw; grind
theorem Prep.same {P Q : Cp c} {X Y Z X' Y' Z' : K} (h : Prep P X Y Z) (h' : Prep Q X' Y' Z') : (X * Z' = X' * Z ∧ Y * Z' = Y' * Z) ↔ P = Q := by
 obtain ⟨hz, rfl, rfl⟩ := h
 obtain ⟨hz', rfl, rfl⟩ := h'
 constructor
 ·rintro ⟨h1, h2⟩
  apply Cp.ext'
  ·have hw := mul_ne hz hz'
   have h3 : (P.x - Q.x) * (Z * Z') = 0 := by grind
   generalize Z * Z' = q at *
   have := Lean.Grind.Field.mul_inv_cancel hw
   grind
  ·have hw := mul_ne hz hz'
   have h3 : (P.y - Q.y) * (Z * Z') = 0 := by grind
   generalize Z * Z' = q at *
   have := Lean.Grind.Field.mul_inv_cancel hw
   grind
 ·rintro rfl
  exact ⟨by grind, by grind⟩
end
def dE2 : F := fn 16295367250680780974490674513165176452449235426866156013048779062215315747161
theorem dE2_eq : dE2 = dE + dE := by decide +kernel
def xx (y : F) : F := (y * y - 1) * finv (y * y * dE + 1)
theorem sqm1_is : (cuE.i : F) * cuE.i = -1 := cuE.hi
theorem zz1 {K : Type} [Lean.Grind.Field K] (d : K) : (0 : K) * 0 * d + 1 = 1 := by grind
theorem den_ne (y : F) : y * y * dE + 1 ≠ 0 := by
 intro h
 have hy : y ≠ 0 := by
  rintro rfl
  rw [zz1] at h
  exact Cp.one_ne cuE h
 have h2 := finv_mul hy
 have hi := sqm1_is
 apply dE_sq (cuE.i * finv y)
 generalize cuE.i = i at *
 generalize finv y = z at *
 generalize dE = d at *
 grind
theorem xx_on {x y : F} (h : x * x = xx y) : onC dE x y := by
 unfold xx at h
 have h1 := finv_mul (den_ne y)
 unfold onC
 generalize finv (y * y * dE + 1) = z at *
 generalize dE = d at *
 grind
theorem on_xx {x y : F} (h : onC dE x y) : x * x = xx y := by
 unfold xx
 have h1 := finv_mul (den_ne y)
 unfold onC at h
 generalize finv (y * y * dE + 1) = z at *
 generalize dE = d at *
 grind
def xE (y : F) : F := rootV (xx y)
theorem xE_on {y : F} (h : rootC (xx y) = 0) : onC dE (xE y) y := xx_on (rootV_mul h)
theorem on_root {x y : F} (h : onC dE x y) : rootC (xx y) = 0 ∧ (xE y = x ∨ xE y = -x) := by
 rw [← on_xx h]
 refine ⟨rootC_sq x, ?_⟩
 unfold xE
 rw [← on_xx h]
 exact root_pm x
def lowN (b : List UInt8) : Nat := leN b % 2 ^ 255
def sgn (b : List UInt8) : Bool := leN b / 2 ^ 255 % 2 == 1
def encP (P : EP) : List UInt8 := leB 32 (P.y.val + 2 ^ 255 * (P.x.val % 2))
theorem encP_len (P : EP) : (encP P).length = 32 := leB_len _ _
def xS (o : Bool) (y : F) : F := if o then -xE y else xE y
theorem xS_on {o : Bool} {y : F} (h : rootC (xx y) = 0) : onC dE (xS o y) y := by
 have h1 := xE_on h
 unfold xS
 cases o with
 | true =>
  simp only [if_true]
  unfold onC at *
  generalize xE y = x at *
  generalize dE = d at *
  grind
 | false => simpa using h1
def decP (b : List UInt8) : Option EP :=
 if b.length = 32 ∧ lowN b < Pq then
  if h : rootC (xx (fn (lowN b))) = 0 then
   if sgn b = true ∧ xE (fn (lowN b)) = 0 then none else some ⟨xS (sgn b) (fn (lowN b)), fn (lowN b), xS_on h⟩
  else none
 else none
theorem decP_some {b : List UInt8} {y : F} {o : Bool} (h1 : b.length = 32) (h2 : lowN b < Pq) (hy : fn (lowN b) = y) (hs : sgn b = o) (hr : rootC (xx y) = 0) (hn : ¬ (o = true ∧ xE y = 0)) :
  decP b = some ⟨xS o y, y, xS_on hr⟩ := by
 subst hy hs
 unfold decP
 rw [if_pos ⟨h1, h2⟩, dif_pos hr, if_neg hn]
theorem par_neg {x : F} (hx : x ≠ 0) : (-x).val % 2 = 1 - x.val % 2 := by
 have h0 : x.val ≠ 0 := fun h => hx (F.ext' h)
 have h1 := x.isLt
 have h2 : Pq % 2 = 1 := by decide +kernel
 rw [neg_val]
 have h3 : (Pq - x.val) % Pq = Pq - x.val := Nat.mod_eq_of_lt (by omega)
 rw [h3]
 generalize x.val = v at *
 have h4 : v < Pq := h1
 omega
theorem P255 : Pq < 2 ^ 255 := by decide +kernel
theorem enc_num (P : EP) : leN (encP P) = P.y.val + 2 ^ 255 * (P.x.val % 2) := by
 have h1 : P.y.val < Pq := P.y.isLt
 have h2 := P255
 unfold encP
 rw [leN_leB]
 generalize P.y.val = v at *
 generalize P.x.val = x
 apply Nat.mod_eq_of_lt
 rw [show 2 ^ (8 * 32) = 2 ^ 255 + 2 ^ 255 by decide +kernel]
 generalize 2 ^ 255 = T at *
 have : x % 2 = 0 ∨ x % 2 = 1 := by omega
 rcases this with e | e <;> rw [e] <;> omega
theorem xS_is {x y : F} (hxe : (xE y).val % 2 = 0) (h : xE y = x ∨ xE y = -x) : xS (x.val % 2 == 1) y = x ∧ ¬ ((x.val % 2 == 1) = true ∧ xE y = 0) := by
 unfold xS
 generalize xE y = e at *
 by_cases hp : x.val % 2 = 1
 ·have hne : x ≠ 0 := by rintro rfl; exact absurd hp (by decide)
  rcases h with h | h
  ·rw [h] at hxe; exact absurd (hxe.symm.trans hp) (by decide)
  ·rw [hp]
   clear hp hxe
   refine ⟨by simp only [beq_self_eq_true, if_true]; rw [h]; clear h hne; grind, fun ⟨_, h0⟩ => hne ?_⟩
   rw [h] at h0
   clear h hne
   grind
 ·have hb : (x.val % 2 == 1) = false := by simpa using hp
  rw [hb]
  refine ⟨?_, fun ⟨h, _⟩ => by cases h⟩
  simp only [Bool.false_eq_true, if_false]
  rcases h with h | h
  ·exact h
  ·by_cases hne : x = 0
   ·rw [h, hne]; decide
   ·rw [h, par_neg hne] at hxe
    have hq2 : x.val % 2 < 2 := Nat.mod_lt _ (by decide)
    clear hb h hne
    generalize x.val % 2 = q at *
    exfalso
    rcases Nat.lt_or_ge q 1 with h | h
    ·have : q = 0 := by omega
     rw [this] at hxe; cases hxe
    ·exact hp (by omega)
theorem num_mod {v T k : Nat} (h : v < T) : (v + T * k) % T = v := by rw [Nat.add_mul_mod_self_left]; exact Nat.mod_eq_of_lt h
theorem num_div {v T k : Nat} (h : v < T) : (v + T * k) / T = k := by rw [Nat.add_mul_div_left _ _ (by omega), Nat.div_eq_of_lt h, Nat.zero_add]
theorem enc_low (P : EP) : lowN (encP P) = P.y.val := by
 unfold lowN
 rw [enc_num]
 exact num_mod (Nat.lt_trans P.y.isLt P255)
theorem enc_sgn (P : EP) : sgn (encP P) = (P.x.val % 2 == 1) := by
 unfold sgn
 rw [enc_num, num_div (Nat.lt_trans P.y.isLt P255), Nat.mod_mod]
theorem enc_y (P : EP) : fn (lowN (encP P)) = P.y := by rw [enc_low]; exact F.ext' (Nat.mod_eq_of_lt P.y.isLt)
theorem decP_enc (P : EP) : decP (encP P) = some P := by
 have ho := on_root P.on
 have hx := xS_is (rootV_even (xx P.y)) ho.2
 rw [decP_some (encP_len P) (by rw [enc_low]; exact P.y.isLt) (enc_y P) (enc_sgn P) ho.1 hx.2]
 exact congrArg some (Cp.ext' hx.1 rfl)
end Go.Proofs.YtielgpefoameiaaGreat
namespace Go.Proofs.YtielgpefoameiaaGreat
open Go.RowKit
theorem Wd.lw (n i : Nat) : Wd (lw n i : Nat) := ⟨by omega, by have := lw_lt n i; omega⟩
theorem Cy.cy (a b i : Nat) : Cy (cy a b i : Nat) := ⟨by omega, by have := cy_le a b i; omega⟩
theorem Cy.bw (a b i : Nat) : Cy (bw a b i : Nat) := ⟨by omega, by have := bw_le a b i; omega⟩
theorem adds_lw (a b i : Nat) : adds (lw a i : Nat) (lw b i : Nat) (cy a b i : Nat) = (lw (a + b) i : Nat) := by
 have := (add_word a b i).1; unfold adds; omega
theorem addc_lw (a b i : Nat) : addc (lw a i : Nat) (lw b i : Nat) (cy a b i : Nat) = (cy a b (i + 1) : Nat) := by
 have := (add_word a b i).2; unfold addc; omega
theorem add64n (a b i j : Nat) (hj : i + 1 = j) (w : World) : (callFunc 70 #[.int .u64 (lw a i : Nat), .int .u64 (lw b i : Nat), .int .u64 (cy a b i : Nat)]).run Tryz.prog w = .ok (.value (.tuple #[.int .u64 (lw (a + b) i : Nat), .int .u64 (cy a b j : Nat)])) w := by
 rw [add64 (Wd.lw a i) (Wd.lw b i) (Cy.cy a b i), adds_lw, addc_lw, hj]
theorem add64n0 (a b : Nat) (w : World) : (callFunc 70 #[.int .u64 (lw a 0 : Nat), .int .u64 (lw b 0 : Nat), .int .u64 0]).run Tryz.prog w = .ok (.value (.tuple #[.int .u64 (lw (a + b) 0 : Nat), .int .u64 (cy a b 1 : Nat)])) w := by
 have := add64n a b 0 1 rfl w
 rw [cy_zero] at this; exact this
theorem sub64n (a b i j : Nat) (hj : i + 1 = j) (hi : i < 4) (hb : b < 2 ^ 256) (w : World) : (callFunc 128 #[.int .u64 (lw a i : Nat), .int .u64 (lw b i : Nat), .int .u64 (bw a b i : Nat)]).run Tryz.prog w = .ok (.value (.tuple #[.int .u64 (lw (a + 2 ^ 256 - b) i : Nat), .int .u64 (bw a b j : Nat)])) w := by
 have := sub_word a b i hi hb
 have e1 : subs (lw a i : Nat) (lw b i : Nat) (bw a b i : Nat) = (lw (a + 2 ^ 256 - b) i : Nat) := this.1
 have e2 : subc (lw a i : Nat) (lw b i : Nat) (bw a b i : Nat) = (bw a b (i + 1) : Nat) := this.2
 rw [sub64 (Wd.lw a i) (Wd.lw b i) (Cy.bw a b i), e1, e2, hj]
theorem fieldS (x0 x1 x2 x3 : Value) (w : World) : (Instr.field 48 (.agg #[x0, x1, x2, x3]) 0).run Tryz.prog w = .ok (.agg #[x0, x1, x2, x3]) w := by kernel_rfl
theorem ix4_0 (x0 x1 x2 x3 : Value) (w : World) : (Instr.index 46 (.agg #[x0, x1, x2, x3]) (.int .i64 0)).run Tryz.prog w = .ok x0 w := by kernel_rfl
theorem ix4_1 (x0 x1 x2 x3 : Value) (w : World) : (Instr.index 46 (.agg #[x0, x1, x2, x3]) (.int .i64 1)).run Tryz.prog w = .ok x1 w := by kernel_rfl
theorem ix4_2 (x0 x1 x2 x3 : Value) (w : World) : (Instr.index 46 (.agg #[x0, x1, x2, x3]) (.int .i64 2)).run Tryz.prog w = .ok x2 w := by kernel_rfl
theorem ix4_3 (x0 x1 x2 x3 : Value) (w : World) : (Instr.index 46 (.agg #[x0, x1, x2, x3]) (.int .i64 3)).run Tryz.prog w = .ok x3 w := by kernel_rfl
set_option maxHeartbeats 400000 in
theorem plus_any (a b : Nat) (w : World) :
  Calls Tryz.prog 67 #[.agg #[.int .u64 (lw a 0 : Nat), .int .u64 (lw a 1 : Nat), .int .u64 (lw a 2 : Nat), .int .u64 (lw a 3 : Nat)], .agg #[.int .u64 (lw b 0 : Nat), .int .u64 (lw b 1 : Nat), .int .u64 (lw b 2 : Nat), .int .u64 (lw b 3 : Nat)]] w fun e w' => e = .returned (.agg #[.int .u64 (lw (a + b) 0 : Nat), .int .u64 (lw (a + b) 1 : Nat), .int .u64 (lw (a + b) 2 : Nat), .int .u64 (lw (a + b) 3 : Nat)]) ∧ Below w.heap.size w w' := by
 have h0 := add64n0 a b
 have h1 := add64n a b 1 2 rfl
 have h2 := add64n a b 2 3 rfl
 have h3 := add64n a b 3 4 rfl
 have i0 := ix4_0
 have i1 := ix4_1
 have i2 := ix4_2
 have i3 := ix4_3
 go_enter Tryz.func67, Tryz.ntmps67
 go_wp2
 refine wp_loop_rounds 5 ?_
 iterate 5 (rw [rounds_succ]; go_wp2_with fail)
 exact bodyPost_ret (v := .agg #[.int .u64 (lw (a + b) 0 : Nat), .int .u64 (lw (a + b) 1 : Nat), .int .u64 (lw (a + b) 2 : Nat), .int .u64 (lw (a + b) 3 : Nat)]) (by simp [results, Tryz.results67, go_sem]) rfl ⟨rfl, belowBy⟩
set_option maxHeartbeats 400000 in
theorem order_any (w : World) :
  Calls Tryz.prog 127 #[] w fun e w' => e = .returned (.agg #[.int .u64 (lw Lq 0 : Nat), .int .u64 (lw Lq 1 : Nat), .int .u64 (lw Lq 2 : Nat), .int .u64 (lw Lq 3 : Nat)]) ∧ Below w.heap.size w w' := by
 have e0 : lw Lq 0 = 0x5812631a5cf5d3ed := by decide +kernel
 have e1 : lw Lq 1 = 0x14def9dea2f79cd6 := by decide +kernel
 have e2 : lw Lq 2 = 0 := by decide +kernel
 have e3 : lw Lq 3 = 0x1000000000000000 := by decide +kernel
 rw [e0, e1, e2, e3]
 clear e0 e1 e2 e3
 go_enter Tryz.func127, Tryz.ntmps127
 go_wp2
 exact bodyPost_ret (v := .agg #[.int .u64 0x5812631a5cf5d3ed, .int .u64 0x14def9dea2f79cd6, .int .u64 0, .int .u64 0x1000000000000000]) (by simp [results, Tryz.results127, go_sem]) rfl ⟨rfl, belowBy⟩
theorem Lq_lt : Lq < 2 ^ 256 := by unfold Lq; omega
theorem bw4 (a : Nat) (ha : a < 2 ^ 256) : bw a Lq 4 = if a < Lq then 1 else 0 := by
 unfold bw
 rw [Nat.mod_eq_of_lt ha, Nat.mod_eq_of_lt Lq_lt]
def lessN (a : Nat) : Nat := a + 2 ^ 256 - Lq
theorem ix4 (n k : Nat) (hk : k < 4) (w : World) : (Instr.index 46 (.agg #[.int .u64 (lw n 0 : Nat), .int .u64 (lw n 1 : Nat), .int .u64 (lw n 2 : Nat), .int .u64 (lw n 3 : Nat)]) (.int .i64 (k : Nat))).run Tryz.prog w = .ok (.int .u64 (lw n k : Nat)) w := by
 have h : k = 0 ∨ k = 1 ∨ k = 2 ∨ k = 3 := by omega
 rcases h with rfl | rfl | rfl | rfl
 ·exact ix4_0 _ _ _ _ _
 ·exact ix4_1 _ _ _ _ _
 ·exact ix4_2 _ _ _ _ _
 ·exact ix4_3 _ _ _ _ _
def mix (n m k : Nat) (i : Nat) : Value := if i < k then wV n i else wV m i
theorem mix_set (n m k : Nat) : (row 4 (mix n m k)).set k (.int .u64 (lw n k : Nat)) = row 4 (mix n m (k + 1)) :=
 row_set k _ (by unfold mix; rw [if_pos (by omega)]; rfl) (fun i _ h => by unfold mix; by_cases h1 : i < k; rw [if_pos h1, if_pos (by omega)]; rw [if_neg h1, if_neg (by omega)])
theorem mix_zero (n m : Nat) : row 4 (mix n m 0) = row 4 (wV m) := row_ext fun i _ => by unfold mix; rw [if_neg (by omega)]
theorem mix_four (n m : Nat) : row 4 (mix n m 4) = row 4 (wV n) := row_ext fun i h => by unfold mix; rw [if_pos h]
theorem mix_at (n m k : Nat) : mix n m k k = .int .u64 (lw m k : Nat) := by unfold mix; rw [if_neg (by omega)]; rfl
set_option maxHeartbeats 400000 in
theorem less_any (a : Nat) (ha : a < 2 ^ 256) (w : World) :
  Calls Tryz.prog 116 #[.agg #[.int .u64 (lw a 0 : Nat), .int .u64 (lw a 1 : Nat), .int .u64 (lw a 2 : Nat), .int .u64 (lw a 3 : Nat)]] w fun e w' => e = .returned (.tuple #[.agg #[.int .u64 (lw (lessN a) 0 : Nat), .int .u64 (lw (lessN a) 1 : Nat), .int .u64 (lw (lessN a) 2 : Nat), .int .u64 (lw (lessN a) 3 : Nat)], .bool (decide (a < Lq))]) ∧ Below w.heap.size w w' := by
 have fs := fieldS
 have HD : Hid ((((bw a Lq 4 : Nat) : Int) == 1) = decide (a < Lq)) := by
  refine Lib.hid ?_
  rw [bw4 a ha]; split <;> simp_all
 go_enter Tryz.func116, Tryz.ntmps116
 go_wp2_with (go_at_call 127; refine (order_any _).mono ?_; rintro e w1 ⟨rfl, hb⟩)
 have hB0 : Blk w1 w.heap.size (row 4 (mix (lessN a) a 0)) 48 := by
  rw [mix_zero, row4]
  exact (((Blk.new w _ _).alloc _).below' hb)
 have hbel : Below w.heap.size w w1 := Below.call belowBy hb
 have hO : Blk w1 (w.heap.size + 1) (row 4 fun _ => .int .u64 0) 48 := (Blk.new' (by simp)).below' hb
 clear hb
 go_wp2
 go_loopw [4, 9] (fun c i wr => ∃ k : Nat, k ≤ 4 ∧ i = .int .i64 k ∧ c = .int .u64 (bw a Lq k : Nat) ∧ Blk wr w.heap.size (row 4 (mix (lessN a) a k)) 48 ∧ Blk wr (w.heap.size + 1) (row 4 fun _ => .int .u64 0) 48 ∧ Below w.heap.size w wr) (fun _ i _ => 4 - (intOf i).toNat)
 case atStart => exact ⟨0, by omega, rfl, by rw [bw_zero]; rfl, hB0, hO, hbel⟩
 case round =>
  obtain ⟨k, hk, rfl, rfl, hB, hO', hbl⟩ := hrel
  by_cases hlt : k < 4
  ·have hx := ix4 Lq k hlt
   have hs : ∀ w : World, _ := sub64n a Lq k (k + 1) rfl hlt Lq_lt
   rw [show a + 2 ^ 256 - Lq = lessN a from rfl] at hs
   have hcell := hB.at hlt
   rw [mix_at] at hcell
   have hfr := hB.frozen k
   have HB := Lib.hid (hB.set k (.int .u64 (lw (lessN a) k : Nat)))
   have HO := Lib.hid (hO'.other ⟨w.heap.size, k, none⟩ (by simp) (.int .u64 (lw (lessN a) k : Nat)))
   clear hB hO' hB0 hO
   go_wp2
   go_roundw
   case rel => exact ⟨k + 1, by omega, by go_num, rfl, by have := HB.out; rw [mix_set] at this; exact this, HO.out, hbl.setCell (Nat.le_refl _) _⟩
   case measure => simp [intOf]; omega
  ·obtain rfl : k = 4 := by omega
   rw [mix_four] at hB
   have h0 : wr.cell? ⟨w.heap.size, 0, none⟩ = some (.int .u64 (lw (lessN a) 0 : Nat)) := hB.at (by omega)
   have h1 : wr.cell? ⟨w.heap.size, 1, none⟩ = some (.int .u64 (lw (lessN a) 1 : Nat)) := hB.at (by omega)
   have h2 : wr.cell? ⟨w.heap.size, 2, none⟩ = some (.int .u64 (lw (lessN a) 2 : Nat)) := hB.at (by omega)
   have h3 : wr.cell? ⟨w.heap.size, 3, none⟩ = some (.int .u64 (lw (lessN a) 3 : Nat)) := hB.at (by omega)
   have o0 : wr.cell? ⟨w.heap.size + 1, 0, none⟩ = some (.int .u64 0) := hO'.at (by omega)
   have o1 : wr.cell? ⟨w.heap.size + 1, 1, none⟩ = some (.int .u64 0) := hO'.at (by omega)
   have o2 : wr.cell? ⟨w.heap.size + 1, 2, none⟩ = some (.int .u64 0) := hO'.at (by omega)
   have o3 : wr.cell? ⟨w.heap.size + 1, 3, none⟩ = some (.int .u64 0) := hO'.at (by omega)
   have f0 := hO'.frozen
   clear hB hO' hB0 hO hlt hk
   go_wp2
   exact bodyPost_ret (v := .tuple #[.agg #[.int .u64 (lw (lessN a) 0 : Nat), .int .u64 (lw (lessN a) 1 : Nat), .int .u64 (lw (lessN a) 2 : Nat), .int .u64 (lw (lessN a) 3 : Nat)], .bool ((bw a Lq 4 : Int) == 1)]) (by simp [results, Tryz.results116, go_sem, o0, o1, o2, o3]) rfl ⟨by rw [HD.out], belowBy⟩
theorem once_lw (a i : Nat) (hi : i < 4) (ha : a < 2 ^ 256) (h : ¬ a < Lq) : lw (lessN a) i = lw (a - Lq) i := by
 unfold lessN
 rw [← lw_mod (a + 2 ^ 256 - Lq) i hi]
 generalize (2 : Nat) ^ 256 = P at *
 rw [show a + P - Lq = (a - Lq) + P from by omega, Nat.add_mod_right, Nat.mod_eq_of_lt (by omega)]
set_option maxHeartbeats 400000 in
theorem once_any (a : Nat) (ha : a < 2 ^ 256) (w : World) :
  Calls Tryz.prog 68 #[.agg #[.int .u64 (lw a 0 : Nat), .int .u64 (lw a 1 : Nat), .int .u64 (lw a 2 : Nat), .int .u64 (lw a 3 : Nat)]] w fun e w' => e = .returned (.agg #[.int .u64 (lw (once a) 0 : Nat), .int .u64 (lw (once a) 1 : Nat), .int .u64 (lw (once a) 2 : Nat), .int .u64 (lw (once a) 3 : Nat)]) ∧ Below w.heap.size w w' := by
 by_cases hl : a < Lq
 ·rw [show once a = a from if_pos hl]
  have hd : decide (a < Lq) = true := by simp [hl]
  clear hl
  go_enter Tryz.func68, Tryz.ntmps68
  go_wp2_with (go_at_call 116; go_must (refine (less_any a ha _).mono ?_; rintro e w1 ⟨rfl, hb⟩; obtain ⟨hc, hf⟩ := bcell hb; have hz := hb.size; simp at hz; have hz1 : w.heap.size < w1.heap.size := (by omega); have hz2 : w.heap.size + 1 < w1.heap.size := (by omega)))
  have hbel : Below w.heap.size w w1 := Below.call belowBy hb
  exact bodyPost_ret (v := .agg #[.int .u64 (lw a 0 : Nat), .int .u64 (lw a 1 : Nat), .int .u64 (lw a 2 : Nat), .int .u64 (lw a 3 : Nat)]) (by simp [results, Tryz.results68, go_sem, hc, hz2]) rfl ⟨rfl, belowBy⟩
 ·have e0 := once_lw a 0 (by omega) ha hl
  have e1 := once_lw a 1 (by omega) ha hl
  have e2 := once_lw a 2 (by omega) ha hl
  have e3 := once_lw a 3 (by omega) ha hl
  rw [show once a = a - Lq from if_neg hl, ← e0, ← e1, ← e2, ← e3]
  clear e0 e1 e2 e3
  have hd : decide (a < Lq) = false := by simp; omega
  clear hl
  go_enter Tryz.func68, Tryz.ntmps68
  go_wp2_with (go_at_call 116; go_must (refine (less_any a ha _).mono ?_; rintro e w1 ⟨rfl, hb⟩; obtain ⟨hc, hf⟩ := bcell hb; have hz := hb.size; simp at hz; have hz1 : w.heap.size < w1.heap.size := (by omega); have hz2 : w.heap.size + 1 < w1.heap.size := (by omega)))
  have hbel : Below w.heap.size w w1 := Below.call belowBy hb
  refine bodyPost_ret (v := .agg #[.int .u64 (lw (lessN a) 0 : Nat), .int .u64 (lw (lessN a) 1 : Nat), .int .u64 (lw (lessN a) 2 : Nat), .int .u64 (lw (lessN a) 3 : Nat)]) ?_ ?_ ?_
  ·simp [results, Tryz.results68, go_sem, hc, hz2]
  ·rfl
  ·exact ⟨rfl, belowBy⟩
theorem or_digit (r N j : Nat) : bits BinOp.or IntKind.u64 (lw (r + r) 0 : Nat) (bits BinOp.and IntKind.u64 ((lw N (j / 64) : Nat) / 2 ^ (j % 64)) 1) = (lw (r + r + N / 2 ^ j % 2) 0 : Nat) := by
 have h0 := lw_lt N (j / 64)
 have h1 := lw_lt (r + r) 0
 have hb : N / 2 ^ j % 2 < 2 := Nat.mod_lt _ (by omega)
 have hq : lw N (j / 64) / 2 ^ (j % 64) < 18446744073709551616 := Nat.lt_of_le_of_lt (Nat.div_le_self _ _) h0
 have e : ((lw N (j / 64) : Nat) : Int) / 2 ^ (j % 64) = ((lw N (j / 64) / 2 ^ (j % 64) : Nat) : Int) := by simp
 rw [e, show (1 : Int) = ((1 : Nat) : Int) from rfl, u64_and_nat _ 1 hq (by omega), Nat.and_one_is_mod, lw_bit, u64_or_nat _ _ h1 (by omega), (lw_low r _ hb).1]
 congr 1
 have he := lw_even r
 generalize lw (r + r) 0 = x at *
 generalize N / 2 ^ j % 2 = b at *
 obtain ⟨y, rfl⟩ : ∃ y, x = 2 * y := ⟨x / 2, by omega⟩
 rw [show 2 * y = y <<< 1 from by rw [Nat.shiftLeft_eq]; omega, Nat.shiftLeft_add_eq_or_of_lt (by omega)]
set_option maxHeartbeats 1000000 in
theorem reduced_any (N T : Nat) (hT1 : T ≤ 512) (hT2 : 512 ≤ T) (hN : N < 2 ^ T) (w : World) :
  Calls Tryz.prog 56 #[.agg #[.int .u64 (lw N 0 : Nat),.int .u64 (lw N 1 : Nat),.int .u64 (lw N 2 : Nat),.int .u64 (lw N 3 : Nat),.int .u64 (lw N 4 : Nat),.int .u64 (lw N 5 : Nat),.int .u64 (lw N 6 : Nat),.int .u64 (lw N 7 : Nat)]] w fun e w' => e = .returned (.agg #[.int .u64 (lw (N % Lq) 0 : Nat), .int .u64 (lw (N % Lq) 1 : Nat), .int .u64 (lw (N % Lq) 2 : Nat), .int .u64 (lw (N % Lq) 3 : Nat)]) ∧ Below w.heap.size w w' := by
 have HN := Lib.hid hN
 clear hN
 go_enter Tryz.func56, Tryz.ntmps56
 go_wp2
 refine wp_gen (fun W => Blk W w.heap.size (row 8 (wV N)) 84 ∧ Blk W (w.heap.size + 1) (row 4 (wV (N / 2 ^ T % Lq))) 48 ∧ Below w.heap.size w W) ?_ (fun W hW => ?_)
 ·refine ⟨(Blk.new w _ _).alloc _, ?_, belowBy⟩
  rw [Nat.div_eq_of_lt HN.out]
  exact Blk.new' (by simp)
 obtain ⟨hA, hO, hbel⟩ := hW
 go_loopw [3] (fun i wr => ∃ k : Nat, k ≤ 512 ∧ i = .int .i64 ((k : Int) - 1) ∧ Blk wr w.heap.size (row 8 (wV N)) 84 ∧ Blk wr (w.heap.size + 1) (row 4 (wV (N / 2 ^ k % Lq))) 48 ∧ Below w.heap.size w wr) (fun i _ => (intOf i + 1).toNat)
 case atStart => exact ⟨T, by omega, by congr 1; omega, hA, hO, hbel⟩
 case round =>
  clear hA hO hbel W
  obtain ⟨k, hk, rfl, hA, hO, hbel⟩ := hrel
  by_cases hk0 : k = 0
  ·subst hk0
   rw [Nat.pow_zero, Nat.div_one] at hO
   clear hA hk
   have ez : (((0 : Nat) : Int) - 1) = -1 := rfl
   rw [ez]
   clear ez
   generalize hx : N % Lq = x at *
   have HX := Lib.hid hx
   clear hx
   have gf := hO.frozen
   have g0 : wr.cell? ⟨w.heap.size + 1, 0, none⟩ = some (.int .u64 (lw x 0 : Nat)) := hO.at (by omega); have g1 : wr.cell? ⟨w.heap.size + 1, 1, none⟩ = some (.int .u64 (lw x 1 : Nat)) := hO.at (by omega); have g2 : wr.cell? ⟨w.heap.size + 1, 2, none⟩ = some (.int .u64 (lw x 2 : Nat)) := hO.at (by omega); have g3 : wr.cell? ⟨w.heap.size + 1, 3, none⟩ = some (.int .u64 (lw x 3 : Nat)) := hO.at (by omega)
   clear hO
   go_wp2
   exact bodyPost_ret (v := .agg #[.int .u64 (lw x 0 : Nat), .int .u64 (lw x 1 : Nat), .int .u64 (lw x 2 : Nat), .int .u64 (lw x 3 : Nat)]) (by simp [results, Tryz.results56, go_sem, g0, g1, g2, g3]) rfl ⟨by rw [HX.out], belowBy⟩
  ·obtain ⟨j, rfl⟩ : ∃ j, k = j + 1 := ⟨k - 1, by omega⟩
   have ej : (((j + 1 : Nat) : Int) - 1) = (j : Int) := by omega
   rw [ej]
   clear ej hk0
   have hr : N / 2 ^ (j + 1) % Lq < Lq := Nat.mod_lt _ (by unfold Lq; omega)
   have HS := Lib.hid (reduced_step N j)
   have HB := Lib.hid (or_digit (N / 2 ^ (j + 1) % Lq) N j)
   have hbit : N / 2 ^ j % 2 < 2 := Nat.mod_lt _ (by omega)
   have HL := Lib.hid (lw_low (N / 2 ^ (j + 1) % Lq) _ hbit)
   generalize hrr : N / 2 ^ (j + 1) % Lq = r at *
   clear hrr
   have h0 : wr.cell? ⟨w.heap.size + 1, 0, none⟩ = some (.int .u64 (lw r 0 : Nat)) := hO.at (by omega); have h1 : wr.cell? ⟨w.heap.size + 1, 1, none⟩ = some (.int .u64 (lw r 1 : Nat)) := hO.at (by omega); have h2 : wr.cell? ⟨w.heap.size + 1, 2, none⟩ = some (.int .u64 (lw r 2 : Nat)) := hO.at (by omega); have h3 : wr.cell? ⟨w.heap.size + 1, 3, none⟩ = some (.int .u64 (lw r 3 : Nat)) := hO.at (by omega)
   go_wp2_with (go_at_call 67; go_must (refine (plus_any r r _).mono ?_; rintro e w1 ⟨rfl, hb⟩; have hO1 := hO.below' hb; have hA1 := hA.below' hb; have hbel1 := hbel.trans (hb.mono hbel.size); have gf := hO1.frozen; have g0 : w1.cell? ⟨w.heap.size + 1, 0, none⟩ = some (.int .u64 (lw r 0 : Nat)) := hO1.at (by omega); have g1 : w1.cell? ⟨w.heap.size + 1, 1, none⟩ = some (.int .u64 (lw r 1 : Nat)) := hO1.at (by omega); have g2 : w1.cell? ⟨w.heap.size + 1, 2, none⟩ = some (.int .u64 (lw r 2 : Nat)) := hO1.at (by omega); have g3 : w1.cell? ⟨w.heap.size + 1, 3, none⟩ = some (.int .u64 (lw r 3 : Nat)) := hO1.at (by omega); clear hb hO hA hbel h0 h1 h2 h3))
   refine wp_gen (fun W => Blk W w.heap.size (row 8 (wV N)) 84 ∧ Blk W (w.heap.size + 1) (row 4 (wV (r + r))) 48 ∧ Below w.heap.size w W) ?_ (fun W hW => ?_)
   ·exact ⟨(((hA1.other _ (by simp) _).other _ (by simp) _).other _ (by simp) _).other _ (by simp) _, (((hO1.set 0 _).set 1 _).set 2 _).set 3 _, belowBy⟩
   obtain ⟨hA2, hO2, hbel2⟩ := hW
   clear hA1 hO1 hbel1 gf g0 g1 g2 g3
   have c0 : W.cell? ⟨w.heap.size + 1, 0, none⟩ = some (.int .u64 (lw (r + r) 0 : Nat)) := hO2.at (by omega)
   have cf := hO2.frozen 0
   have hj : j / 64 < 8 := by omega
   have c1 : W.cell? ⟨w.heap.size, j / 64, none⟩ = some (.int .u64 (lw N (j / 64) : Nat)) := hA2.at hj
   have hw0 : (0 : Int) ≤ (lw N (j / 64) : Nat) := by omega
   have hw1 : ((lw N (j / 64) : Nat) : Int) < 18446744073709551616 := by have := lw_lt N (j / 64); omega
   go_region
   rw [HB.out]
   have hO3 : Blk W (w.heap.size + 1) (row 4 (fun i => if i = 0 then wV (r + r) 0 else wV (r + r + N / 2 ^ j % 2) i)) 48 := by
    rw [row_ext (g := wV (r + r))]
    ·exact hO2
    ·intro i _
     cases i with
     | zero => rfl
     | succ i => unfold wV; simp only [Nat.add_eq_zero_iff, Nat.succ_ne_self, and_false, if_false]; rw [HL.out.2]
   have o1 : W.cell? ⟨w.heap.size + 1, 1, none⟩ = some (.int .u64 (lw (r + r + N / 2 ^ j % 2) 1 : Nat)) := hO3.at (by omega)
   have o2 : W.cell? ⟨w.heap.size + 1, 2, none⟩ = some (.int .u64 (lw (r + r + N / 2 ^ j % 2) 2 : Nat)) := hO3.at (by omega)
   have o3 : W.cell? ⟨w.heap.size + 1, 3, none⟩ = some (.int .u64 (lw (r + r + N / 2 ^ j % 2) 3 : Nat)) := hO3.at (by omega)
   have hO4 := hO3.set 0 (wV (r + r + N / 2 ^ j % 2) 0)
   rw [row_set (g := wV (r + r + N / 2 ^ j % 2)) 0 _ rfl (fun i _ h => by rw [if_neg h])] at hO4
   clear hO2 hO3 c1 hw0 hw1 hj HB HL
   have hA4 := hA2.other ⟨w.heap.size + 1, 0, none⟩ (by simp) (wV (r + r + N / 2 ^ j % 2) 0)
   have hbel4 : Below w.heap.size w (W.setCell ⟨w.heap.size + 1, 0, none⟩ (wV (r + r + N / 2 ^ j % 2) 0)) := belowBy
   have hbd : r + r + N / 2 ^ j % 2 < 2 ^ 256 := by unfold Lq at hr; omega
   rw [show 2 * r + N / 2 ^ j % 2 = r + r + N / 2 ^ j % 2 from by omega] at HS
   generalize hx : r + r + N / 2 ^ j % 2 = x at *
   clear hx
   unfold wV at hO4 hA4 hbel4
   go_wp2_with (go_at_call 68; go_must (refine (once_any x hbd _).mono ?_; rintro e w2 ⟨rfl, hb⟩; have hO5 := (Blk.drew hO4).below' hb; have hA5 := (Blk.drew hA4).below' hb; have hbel5 := (Below.drew hbel4).trans (hb.mono (Below.drew hbel4).size); have gf := hO5.frozen; have g0 : w2.cell? ⟨w.heap.size + 1, 0, none⟩ = some (.int .u64 (lw x 0 : Nat)) := hO5.at (by omega); have g1 : w2.cell? ⟨w.heap.size + 1, 1, none⟩ = some (.int .u64 (lw x 1 : Nat)) := hO5.at (by omega); have g2 : w2.cell? ⟨w.heap.size + 1, 2, none⟩ = some (.int .u64 (lw x 2 : Nat)) := hO5.at (by omega); have g3 : w2.cell? ⟨w.heap.size + 1, 3, none⟩ = some (.int .u64 (lw x 3 : Nat)) := hO5.at (by omega); clear hb hO4 hA4 hbel4 o1 o2 o3 c0 cf hA2 hbel2))
   go_roundw
   case rel =>
    refine ⟨j, by omega, by first | rfl | (congr 1; omega), (((hA5.other _ (by simp) _).other _ (by simp) _).other _ (by simp) _).other _ (by simp) _, ?_, belowBy⟩
    rw [← HS.out]
    exact (((hO5.set 0 _).set 1 _).set 2 _).set 3 _
   case measure => simp [intOf] <;> omega
end Go.Proofs.YtielgpefoameiaaGreat
