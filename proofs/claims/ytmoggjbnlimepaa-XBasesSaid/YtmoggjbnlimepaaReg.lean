/- Statements on numbers of the field that lie in memory: the facts of a walk by an invariant, once for all. -/
import Derived.Test.YtmoggjbnlimepaaInv
import Derived.Test.YtmoggjbnlimepaaAlg
import Derived.Test.YtmoggjbnlimepaaMem
import Derived.Deep.MidRow
namespace Go.Proofs.Ytmoggjbnlimepaa
open Go Go.RowKit

/-- A way to lay a number out in cells. -/
structure Rp where
  n : Nat
  rep : F → List Value → Prop
  pos : 0 < n
  len : ∀ x cs, rep x cs → cs.length = n
  one : ∀ x cs, rep x cs → ∀ v ∈ cs, v.oneCell' = true

variable {R : Rp}
/-- The cells are the numbers xs, in turn. -/
def Lims (R : Rp) : List F → List Value → Prop
  | [], cs => cs = []
  | x :: xs, cs => ∃ h r, R.rep x h ∧ cs = h ++ r ∧ Lims R xs r
theorem Lims.len : ∀ {xs : List F} {cs : List Value}, Lims R xs cs → cs.length = R.n * xs.length
  | [], _, h => by cases h; simp
  | x :: xs, cs, h => by
    obtain ⟨h, r, hx, rfl, hr⟩ := h
    have := R.len _ _ hx
    have := Lims.len hr
    simp [List.length_append, Nat.mul_add]; omega
theorem Lims.one : ∀ {xs : List F} {cs : List Value}, Lims R xs cs → ∀ v ∈ cs, v.oneCell' = true
  | [], _, h, v, hv => by cases h; simp at hv
  | x :: xs, cs, h, v, hv => by
    obtain ⟨h, r, hx, rfl, hr⟩ := h
    rcases List.mem_append.1 hv with hv | hv
    · exact R.one _ _ hx v hv
    · exact Lims.one hr v hv
theorem Lims.drop : ∀ (k : Nat) {xs : List F} {cs : List Value}, Lims R xs cs → Lims R (xs.drop k) (cs.drop (R.n * k))
  | 0, _, _, h => by simpa using h
  | k + 1, [], _, h => by cases h; simp [Lims]
  | k + 1, x :: xs, cs, h => by
    obtain ⟨h, r, hx, rfl, hr⟩ := h
    have e := R.len _ _ hx
    have := Lims.drop k hr
    have e2 : (h ++ r).drop (R.n * (k + 1)) = r.drop (R.n * k) := by
      rw [show R.n * (k + 1) = h.length + R.n * k by rw [e, Nat.mul_add]; omega, List.drop_append]; simp
    rw [List.drop_succ_cons, e2]
    exact this
theorem Lims.take : ∀ (k : Nat) {xs : List F} {cs : List Value}, Lims R xs cs → Lims R (xs.take k) (cs.take (R.n * k))
  | 0, _, _, h => by simp [Lims]
  | k + 1, [], _, h => by cases h; simp [Lims]
  | k + 1, x :: xs, cs, h => by
    obtain ⟨h, r, hx, rfl, hr⟩ := h
    have e := R.len _ _ hx
    rw [List.take_succ_cons]
    refine ⟨h, r.take (R.n * k), hx, ?_, Lims.take k hr⟩
    rw [List.take_append, List.take_of_length_le (by rw [e, Nat.mul_add]; omega), e, Nat.mul_add, Nat.mul_one, Nat.add_sub_cancel]
theorem Lims.app : ∀ {xs ys : List F} {cs ds : List Value}, Lims R xs cs → Lims R ys ds → Lims R (xs ++ ys) (cs ++ ds)
  | [], _, _, _, h, k => by cases h; simpa using k
  | x :: xs, ys, cs, ds, h, k => by
    obtain ⟨h, r, hx, rfl, hr⟩ := h
    exact ⟨h, r ++ ds, hx, by simp, Lims.app hr k⟩
theorem Lims.single {x : F} {cs : List Value} (h : R.rep x cs) : Lims R [x] cs := ⟨cs, [], h, by simp, rfl⟩
theorem Lims.of_single {x : F} {cs : List Value} (h : Lims R [x] cs) : R.rep x cs := by
  obtain ⟨h, r, hx, rfl, hr⟩ := h
  obtain rfl : r = [] := hr
  simpa using hx

/-- The value is the numbers xs. -/
def IsFs (R : Rp) (v : Value) (xs : List F) : Prop := ∃ cs : List Value, v = .agg cs.toArray ∧ Lims R xs cs
/-- They lie there. -/
def HasFs (R : Rp) (w : World) (g o : Nat) (xs : List F) : Prop := ∃ cs, Lims R xs cs ∧ w.rangeAt g o cs
theorem IsFs.app {u v : Value} {xs ys : List F} (h : IsFs R u xs) (k : IsFs R v ys) : ∃ cs ds : List Value, u = .agg cs.toArray ∧ v = .agg ds.toArray ∧ IsFs R (.agg (cs ++ ds).toArray) (xs ++ ys) := by
  obtain ⟨cs, rfl, hc⟩ := h
  obtain ⟨ds, rfl, hd⟩ := k
  exact ⟨cs, ds, rfl, rfl, _, rfl, hc.app hd⟩
theorem range_later {w w' : World} {g o : Nat} {cs : List Value} (h : w.rangeAt g o cs) (hb : Below w.heap.size w w') : w'.rangeAt g o cs := fun j v hv => by
  have := h j v hv
  rw [hb.cell (cell_lt this)]; exact this
theorem there_later {w w' : World} {g o n : Nat} (h : w.there g o n) (hb : Below w.heap.size w w') : w'.there g o n := fun j hj => by
  obtain ⟨h1, h2⟩ := h j hj
  obtain ⟨v, hv⟩ := Option.isSome_iff_exists.1 h1
  have hlt := cell_lt hv
  exact ⟨by rw [hb.cell hlt]; exact h1, by rw [hb.frozen hlt]; exact h2⟩
theorem HasFs.later {w w' : World} {g o : Nat} {xs : List F} (h : HasFs R w g o xs) (hb : Below w.heap.size w w') : HasFs R w' g o xs := by
  obtain ⟨cs, h1, h2⟩ := h; exact ⟨cs, h1, range_later h2 hb⟩
theorem HasFs.fld {w : World} {g o : Nat} {xs : List F} (k m : Nat) (h : HasFs R w g o xs) : HasFs R w g (o + R.n * k) ((xs.drop k).take m) := by
  obtain ⟨cs, h1, h2⟩ := h
  refine ⟨_, (h1.drop k).take m, fun j v hv => ?_⟩
  have h3 : cs[R.n * k + j]? = some v := by
    rw [List.getElem?_take] at hv
    split at hv
    · simpa [List.getElem?_drop] using hv
    · cases hv
  have := h2 _ v h3
  rw [Nat.add_assoc]; exact this
/-- The block stays as it was. -/
theorem HasFs.blk {w w' : World} {g o : Nat} {xs : List F} (h : HasFs R w g o xs) (e : w'.heap[g]? = w.heap[g]?) : HasFs R w' g o xs := by
  obtain ⟨cs, h1, h2⟩ := h
  exact ⟨cs, h1, fun j v hv => by rw [World.cell?_of_block (w := w) e]; exact h2 j v hv⟩
theorem there_blk {w w' : World} {g o n : Nat} (h : w.there g o n) (e : w'.heap[g]? = w.heap[g]?) : w'.there g o n := fun j hj => by
  rw [World.cell?_of_block (w := w) e, World.frozen?_of_block (w := w) e]; exact h j hj
theorem blk_keep {w w' : World} {g E : Nat} {cs : List Value} (h : Blk w g cs E) (e : w'.heap[g]? = w.heap[g]?) : Blk w' g cs E := by
  unfold Blk at *; rw [e]; exact h
theorem there_lt {w : World} {g o n : Nat} (h : w.there g o n) (hn : 0 < n) : g < w.heap.size := by
  obtain ⟨v, hv⟩ := Option.isSome_iff_exists.1 (h 0 hn).1
  exact cell_lt hv
theorem HasFs.lt {w : World} {g o : Nat} {x : F} {xs : List F} (h : HasFs R w g o (x :: xs)) : g < w.heap.size := by
  obtain ⟨cs, h1, h2⟩ := h
  have hl := h1.len
  have hp := R.pos
  have h0 : 0 < cs.length := by rw [hl]; exact Nat.mul_pos hp (by simp)
  exact cell_lt (h2 0 _ (List.getElem?_eq_getElem h0))
theorem heap_setCells (b : Nat) : ∀ (vs : List Value) (o : Nat) (w : World) (k : Nat), k ≠ b → (w.setCells b o vs).heap[k]? = w.heap[k]?
  | [], _, _, _, _ => rfl
  | v :: r, o, w, k, h => by rw [World.setCells, heap_setCells b r _ _ k h, Below.heap_setCell _ _ _ _ h]
theorem size_setCells (b : Nat) : ∀ (vs : List Value) (o : Nat) (w : World), (w.setCells b o vs).heap.size = w.heap.size
  | [], _, _ => rfl
  | v :: r, o, w => by rw [World.setCells, size_setCells b r]; simp [World.setCell]
theorem below_setCells {B b : Nat} {w0 : World} (hb : B ≤ b) : ∀ (vs : List Value) (o : Nat) (w : World), Below B w0 w → Below B w0 (w.setCells b o vs)
  | [], _, _, h => h
  | v :: r, o, w, h => by rw [World.setCells]; exact below_setCells hb r _ _ (h.setCell hb v)

/-! ### what is known of the operations of a statement -/
inductive Fact where
  | any
  /-- the numbers xs -/
  | val (R : Rp) (xs : List F)
  /-- where something lies -/
  | ptr (g o : Nat)
  /-- a new variable of n cells -/
  | new (n : Nat)
  /-- a new variable that holds xs -/
  | box (R : Rp) (xs : List F)
  /-- operation a's new variable holds xs -/
  | st (a : Nat) (R : Rp) (xs : List F)
  /-- the old variable g holds xs -/
  | sto (g : Nat) (R : Rp) (xs : List F)
  /-- one cell of the old block g is now v, the rest of it as it was -/
  | cst (g o : Nat) (v : Value)
  /-- a value that is known otherwise -/
  | oth (φ : Value → Prop)
  /-- a new slice of these cells, till operation v comes up -/
  | tmp (n : Nat) (cs : List Value) (v : Nat)
  /-- a new slice of these bytes -/
  | rd (l : List UInt8)
  /-- a new slice of these bytes, till operation v comes up -/
  | rdt (l : List UInt8) (v : Nat)
  /-- these bytes, alone in a new block, till operation v comes up -/
  | own (l : List UInt8) (v : Nat)
def Fact.isNew : Fact → Bool
  | .new _ => true | .box _ _ => true | .own _ _ => true | _ => false
def Fact.isRd : Fact → Bool
  | .rd _ => true | .rdt _ _ => true | .own _ _ => true | _ => false
/-- What is used up ahead of i. -/
def Fact.usedUp (wt : Nat → Nat → Bool) (i : Nat) : Fact → Bool
  | .tmp _ _ v => wt i v | _ => true
def Fact.tgt : Fact → Option Nat
  | .sto g _ _ => some g | .cst g _ _ => some g | _ => none
def Fact.isSto (f : Fact) : Bool := f.tgt.isSome
def Fact.owner : Fact → Option Nat
  | .st a _ _ => some a | _ => none
def factAt (l : List Fact) (k : Nat) : Fact := (l[k]?).getD .any

theorem set_some {w : World} {g : Nat} (h : g < w.heap.size) (o : Nat) (v : Value) : ((w.setCell ⟨g, o, none⟩ v).heap[g]?) = some ((w.setCell ⟨g, o, none⟩ v).heap[g]'(by simpa using h)) := by
  rw [Array.getElem?_eq_getElem]
theorem some_lt {w : World} {g : Nat} {x : Obj} (h : w.heap[g]? = some x) : g < w.heap.size := (Array.getElem?_eq_some_iff.1 h).1
theorem set_congr {w w' : World} {g : Nat} (h : w.heap[g]? = w'.heap[g]?) (o : Nat) (v : Value) : (w.setCell ⟨g, o, none⟩ v).heap[g]? = (w'.setCell ⟨g, o, none⟩ v).heap[g]? := by
  simp [World.setCell, Array.getElem?_modify, h]
theorem set_other {w : World} {g x : Nat} (h : x ≠ g) (o : Nat) (v : Value) : (w.setCell ⟨g, o, none⟩ v).heap[x]? = w.heap[x]? := Below.heap_setCell _ _ _ _ h
def Holds (l : List Fact) (W0 : World) (k : Nat) (L : Nat → Bool) (u : Nat → Value) (w : World) : Prop :=
  match factAt l k with
  | .any => True
  | .val R xs => IsFs R (u k) xs
  | .ptr g o => u k = .pointer (some ⟨g, o, none⟩)
  | .new n => ∃ g, u k = .pointer (some ⟨g, 0, none⟩) ∧ W0.heap.size ≤ g ∧ 0 < n ∧ w.there g 0 n
  | .box R xs => ∃ g, u k = .pointer (some ⟨g, 0, none⟩) ∧ (W0.heap.size ≤ g ∧ g < w.heap.size) ∧ w.there g 0 (R.n * xs.length) ∧ HasFs R w g 0 xs
  | .st a R xs => ∃ g, u a = .pointer (some ⟨g, 0, none⟩) ∧ W0.heap.size ≤ g ∧ HasFs R w g 0 xs
  | .sto g R xs => g < W0.heap.size ∧ w.there g 0 (R.n * xs.length) ∧ HasFs R w g 0 xs
  | .cst g o v => g < W0.heap.size ∧ w.heap[g]? = (W0.setCell ⟨g, o, none⟩ v).heap[g]?
  | .oth φ => φ (u k)
  | .tmp n cs v => ∃ g, u k = .slice (some ⟨g, 0, none⟩) n n ∧ (L v = false → Blk w g cs 5)
  | .rd l => ∃ g n cap r, u k = .slice (some ⟨g, 0, none⟩) n cap ∧ W0.heap.size ≤ g ∧ Blk w g (l.map bV ++ r) 5 ∧ l.length = n ∧ n ≤ cap ∧ cap ≤ maxLen
  | .rdt l v => ∃ g n cap r, u k = .slice (some ⟨g, 0, none⟩) n cap ∧ W0.heap.size ≤ g ∧ l.length = n ∧ n ≤ cap ∧ cap ≤ maxLen ∧ (L v = false → Blk w g (l.map bV ++ r) 5)
  | .own l v => ∃ g cap, u k = .slice (some ⟨g, 0, none⟩) l.length cap ∧ W0.heap.size ≤ g ∧ g < w.heap.size ∧ (L v = false → w.ownsRow W0.heap.size 5 1 (.slice (some ⟨g, 0, none⟩) l.length cap) l.length (l.map bV))
/-- What else is known: what was there is as it was, but for the old variables that have been written; the new ones are apart. -/
structure Keep (l : List Fact) (W0 : World) (L : Nat → Bool) (u : Nat → Value) (w : World) : Prop where
  os : w.os = W0.os
  tape : w.tape = W0.tape
  output : w.output = W0.output
  size : W0.heap.size ≤ w.heap.size
  block : ∀ b, b < W0.heap.size → (∀ k, (factAt l k).tgt = some b → L k = false) → w.heap[b]? = W0.heap[b]?
  apart : ∀ k k' g, k ≠ k' → L k = true → L k' = true → (factAt l k).isNew = true → (factAt l k').isNew = true → u k = .pointer (some ⟨g, 0, none⟩) → u k' ≠ .pointer (some ⟨g, 0, none⟩)
  own : ∀ k k' g n c n' c' l1 v1 l2 v2, k ≠ k' → factAt l k = .own l1 v1 → factAt l k' = .own l2 v2 → L k = true → L k' = true → L v1 = false → L v2 = false → u k = .slice (some ⟨g, 0, none⟩) n c → u k' ≠ .slice (some ⟨g, 0, none⟩) n' c'

theorem own_keep {w w' : World} {base E n m c g : Nat} {xs : List Value} (h : w.ownsRow base E 1 (.slice (some ⟨g, 0, none⟩) m c) n xs) (e : w'.heap[g]? = w.heap[g]?) : w'.ownsRow base E 1 (.slice (some ⟨g, 0, none⟩) m c) n xs := by
  obtain ⟨h1, h2⟩ := h
  refine ⟨h1, ?_⟩
  rcases h2 with h2 | ⟨g', cap, cur, hv, hg, hh, r⟩
  · exact .inl h2
  · refine .inr ⟨g', cap, cur, hv, hg, ?_, r⟩
    have hv2 := hv
    simp at hv2
    obtain ⟨rfl, _⟩ := hv2
    rw [e]; exact hh
/-- The owners of what was stored are waited for. -/
def ownersOk (wt : Nat → Nat → Bool) (l : List Fact) : Bool := (List.range l.length).all fun k => ((factAt l k).owner.map fun a => wt k a && (factAt l a).isNew).getD true
theorem factAt_len {l : List Fact} {k : Nat} (h : l.length ≤ k) : factAt l k = .any := by simp [factAt, List.getElem?_eq_none h]
theorem ownersOk_spec {wt : Nat → Nat → Bool} {l : List Fact} (h : ownersOk wt l = true) {k a : Nat} {xs : List F} (hk : factAt l k = .st a R xs) : wt k a = true ∧ (factAt l a).isNew = true := by
  have hlt : k < l.length := by
    rcases Nat.lt_or_ge k l.length with h | h
    · exact h
    · rw [factAt_len h] at hk; cases hk
  unfold ownersOk at h
  rw [List.all_eq_true] at h
  have := h k (by simpa using hlt)
  simpa [hk, Fact.owner] using this
theorem holds_soft {wt : Nat → Nat → Bool} {l : List Fact} {W0 : World} (h : ownersOk wt l = true) : Soft wt (Holds l W0) where
  sup := fun k L u i v w hki hw hk => by
    unfold Holds at *
    cases hf : factAt l k with
    | any => trivial
    | val R xs => simp only [hf] at hk ⊢; rw [putV_ne hki]; exact hk
    | ptr g o => simp only [hf] at hk ⊢; rw [putV_ne hki]; exact hk
    | new n => simp only [hf] at hk ⊢; rw [putV_ne hki]; exact hk
    | box R xs => simp only [hf] at hk ⊢; rw [putV_ne hki]; exact hk
    | st a R xs => simp only [hf] at hk ⊢; rw [putV_ne (dep_ne (ownersOk_spec h hf).1 hw)]; exact hk
    | sto g R xs => simp only [hf] at hk ⊢; exact hk
    | cst g o v => simp only [hf] at hk ⊢; exact hk
    | oth φ => simp only [hf] at hk ⊢; rw [putV_ne hki]; exact hk
    | tmp n cs v => simp only [hf] at hk ⊢; rw [putV_ne hki]; obtain ⟨g, h1, h2⟩ := hk; exact ⟨g, h1, fun hl => h2 (putL_false hl)⟩
    | rd l => simp only [hf] at hk ⊢; rw [putV_ne hki]; exact hk
    | rdt l v => simp only [hf] at hk ⊢; rw [putV_ne hki]; obtain ⟨g, n, cap, r, h1, h2, h3, h4, h5, h6⟩ := hk; exact ⟨g, n, cap, r, h1, h2, h3, h4, h5, fun hl => h6 (putL_false hl)⟩
    | own l v => simp only [hf] at hk ⊢; rw [putV_ne hki]; obtain ⟨g, cap, h1, h2, h3, h4⟩ := hk; exact ⟨g, cap, h1, h2, h3, fun hl => h4 (putL_false hl)⟩
  later := fun k L u w w' hb hk => by
    unfold Holds at *
    cases hf : factAt l k with
    | any => trivial
    | val R xs => simp only [hf] at hk ⊢; exact hk
    | ptr g o => simp only [hf] at hk ⊢; exact hk
    | new n => simp only [hf] at hk ⊢; obtain ⟨g, h1, h2, h3, h4⟩ := hk; exact ⟨g, h1, h2, h3, there_later h4 hb⟩
    | box R xs => simp only [hf] at hk ⊢; obtain ⟨g, h1, h2, h3, h4⟩ := hk; exact ⟨g, h1, ⟨h2.1, Nat.lt_of_lt_of_le h2.2 hb.size⟩, there_later h3 hb, h4.later hb⟩
    | st a R xs => simp only [hf] at hk ⊢; obtain ⟨g, h1, h2, h3⟩ := hk; exact ⟨g, h1, h2, h3.later hb⟩
    | sto g R xs => simp only [hf] at hk ⊢; exact ⟨hk.1, there_later hk.2.1 hb, hk.2.2.later hb⟩
    | cst g o v => simp only [hf] at hk ⊢; exact ⟨hk.1, by rw [hb.block g (some_lt (hk.2.trans (set_some hk.1 o v)))]; exact hk.2⟩
    | oth φ => simp only [hf] at hk ⊢; exact hk
    | tmp n cs v => simp only [hf] at hk ⊢; obtain ⟨g, h1, h2⟩ := hk; exact ⟨g, h1, fun hl => (h2 hl).below' hb⟩
    | rd l => simp only [hf] at hk ⊢; obtain ⟨g, n, cap, r, h1, h2, h3, h4⟩ := hk; exact ⟨g, n, cap, r, h1, h2, h3.below' hb, h4⟩
    | rdt l v => simp only [hf] at hk ⊢; obtain ⟨g, n, cap, r, h1, h2, h3, h4, h5, h6⟩ := hk; exact ⟨g, n, cap, r, h1, h2, h3, h4, h5, fun hl => (h6 hl).below' hb⟩
    | own l v => simp only [hf] at hk ⊢; obtain ⟨g, cap, h1, h2, h3, h4⟩ := hk; exact ⟨g, cap, h1, h2, Nat.lt_of_lt_of_le h3 hb.size, fun hl => own_below (h4 hl) hb⟩
theorem Keep.start {l : List Fact} {W0 : World} {u : Nat → Value} : Keep l W0 (fun _ => false) u W0 :=
  ⟨rfl, rfl, rfl, Nat.le_refl _, fun _ _ _ => rfl, fun _ _ _ _ h => (by cases h), fun _ _ _ _ _ _ _ _ _ _ _ _ _ _ h => by cases h⟩
theorem Keep.drew {l : List Fact} {W0 : World} {u : Nat → Value} : Keep l W0 (fun _ => false) u W0.drew :=
  ⟨rfl, rfl, rfl, Nat.le_refl _, fun _ _ _ => rfl, fun _ _ _ _ h => (by cases h), fun _ _ _ _ _ _ _ _ _ _ _ _ _ _ h => by cases h⟩
/-- Behind an operation that makes no variable and writes to none. -/
theorem Keep.later {l : List Fact} {W0 w w' : World} {L : Nat → Bool} {u : Nat → Value} {i : Nat} {v : Value} (h : Keep l W0 L u w) (hb : Below w.heap.size w w') (hn : (factAt l i).isNew = false) : Keep l W0 (putL L i) (putV u i v) w' := by
  refine ⟨hb.os.trans h.os, hb.tape.trans h.tape, hb.output.trans h.output, Nat.le_trans h.size hb.size, fun b hlt hs => ?_, fun k k' g hne hk hk' n1 n2 e => ?_, fun k k' g n c n' c' l1 v1 l2 v2 hne hf hf' hk hk' hv hv' e => ?_⟩
  · have := h.size
    rw [hb.block b (by omega)]
    exact h.block b hlt (fun k hf => putL_false (hs k hf))
  · have h1 : k ≠ i := by rintro rfl; rw [n1] at hn; cases hn
    have h2 : k' ≠ i := by rintro rfl; rw [n2] at hn; cases hn
    rw [putL_ne h1] at hk
    rw [putL_ne h2] at hk'
    rw [putV_ne h1] at e
    rw [putV_ne h2]
    exact h.apart k k' g hne hk hk' n1 n2 e
  · have h1 : k ≠ i := by rintro rfl; rw [hf] at hn; cases hn
    have h2 : k' ≠ i := by rintro rfl; rw [hf'] at hn; cases hn
    rw [putL_ne h1] at hk
    rw [putL_ne h2] at hk'
    rw [putV_ne h1] at e
    rw [putV_ne h2]
    exact h.own k k' g n c n' c' l1 v1 l2 v2 hne hf hf' hk hk' (putL_false hv) (putL_false hv') e
theorem Holds.newlt {l : List Fact} {W0 w : World} {L : Nat → Bool} {u : Nat → Value} {k g : Nat} (h : Holds l W0 k L u w) (hn : (factAt l k).isNew = true) (e : u k = .pointer (some ⟨g, 0, none⟩)) : W0.heap.size ≤ g ∧ g < w.heap.size := by
  unfold Holds at h
  cases hf : factAt l k with
  | new n => simp only [hf] at h; obtain ⟨g', h1, h2, h3, h4⟩ := h; rw [e] at h1; simp at h1; subst h1; exact ⟨h2, there_lt h4 h3⟩
  | box R xs => simp only [hf] at h; obtain ⟨g', h1, h2, h3, h4⟩ := h; rw [e] at h1; simp at h1; subst h1; exact h2
  | own l' v' => simp only [hf] at h; obtain ⟨g', cap, h1, _⟩ := h; rw [e] at h1; cases h1
  | _ => rw [hf] at hn; cases hn
/-- Behind one that makes a new variable. -/
theorem Keep.new {l : List Fact} {W0 w w' : World} {L : Nat → Bool} {u : Nat → Value} {i : Nat} (h : Keep l W0 L u w) (hb : Below w.heap.size w w') (hH : ∀ k, L k = true → Holds l W0 k L u w) :
    Keep l W0 (putL L i) (putV u i (.pointer (some ⟨w.heap.size, 0, none⟩))) w' := by
  refine ⟨hb.os.trans h.os, hb.tape.trans h.tape, hb.output.trans h.output, Nat.le_trans h.size hb.size, fun b hlt hs => ?_, fun k k' g hne hk hk' n1 n2 e => ?_, fun k k' g n c n' c' l1 v1 l2 v2 hne hf hf' hk hk' hv hv' e => ?_⟩
  · have := h.size
    rw [hb.block b (by omega)]
    exact h.block b hlt (fun k hf => putL_false (hs k hf))
  rotate_left
  · by_cases h1 : k = i
    · subst h1; rw [putV_same] at e; cases e
    · by_cases h2 : k' = i
      · subst h2; rw [putV_same]; intro e2; cases e2
      · rw [putL_ne h1] at hk
        rw [putL_ne h2] at hk'
        rw [putV_ne h1] at e
        rw [putV_ne h2]
        exact h.own k k' g n c n' c' l1 v1 l2 v2 hne hf hf' hk hk' (putL_false hv) (putL_false hv') e
  · by_cases h1 : k = i
    · subst h1
      have h2 : k' ≠ k := fun e => hne e.symm
      rw [putV_same] at e
      simp at e
      rw [putL_ne h2] at hk'
      rw [putV_ne h2]
      intro e2
      have := (hH k' hk').newlt n2 e2
      omega
    · rw [putL_ne h1] at hk
      rw [putV_ne h1] at e
      by_cases h2 : k' = i
      · subst h2
        rw [putV_same]
        intro e2
        simp at e2
        have := (hH k hk).newlt n1 e
        omega
      · rw [putL_ne h2] at hk'
        rw [putV_ne h2]
        exact h.apart k k' g hne hk hk' n1 n2 e
/-- A store into operation a's new variable: what else is known stays. -/
theorem Keep.st {l : List Fact} {W0 w : World} {L : Nat → Bool} {u : Nat → Value} {i g : Nat} {v : Value} {cs : List Value} (h : Keep l W0 L u w) (hg : W0.heap.size ≤ g) (hn : (factAt l i).isNew = false) :
    Keep l W0 (putL L i) (putV u i v) (w.setCells g 0 cs) := by
  have hb : Below W0.heap.size w (w.setCells g 0 cs) := below_setCells hg _ _ _ (Below.refl _ _)
  have h0 := h.later (i := i) (v := v) (Below.refl _ _) hn
  exact ⟨hb.os.trans h0.os, hb.tape.trans h0.tape, hb.output.trans h0.output, Nat.le_trans h0.size hb.size, fun b hlt hs => by rw [hb.block b hlt]; exact h0.block b hlt hs, h0.apart, h0.own⟩
/-- A change of one old block. -/
theorem Keep.upd {l : List Fact} {W0 w w' : World} {L : Nat → Bool} {u : Nat → Value} {i g : Nat} {v : Value} (h : Keep l W0 L u w) (hf : (factAt l i).tgt = some g) (hn : (factAt l i).isNew = false)
    (ho : w'.os = w.os) (ht : w'.tape = w.tape) (hu : w'.output = w.output) (hz : w.heap.size ≤ w'.heap.size) (hw : ∀ x, x ≠ g → w'.heap[x]? = w.heap[x]?) : Keep l W0 (putL L i) (putV u i v) w' := by
  have h0 := h.later (i := i) (v := v) (Below.refl _ _) hn
  refine ⟨ho.trans h0.os, ht.trans h0.tape, hu.trans h0.output, Nat.le_trans h0.size hz, fun b hlt hs => ?_, h0.apart, h0.own⟩
  have hne : b ≠ g := by
    rintro rfl
    have := hs i hf
    rw [putL_same] at this; cases this
  rw [hw _ hne]
  exact h0.block b hlt hs
/-- A store into an old variable. -/
theorem Keep.sto {l : List Fact} {W0 w : World} {L : Nat → Bool} {u : Nat → Value} {i g : Nat} {v : Value} {cs : List Value} {xs : List F} (h : Keep l W0 L u w) (hf : factAt l i = .sto g R xs) :
    Keep l W0 (putL L i) (putV u i v) (w.setCells g 0 cs) := by
  have hb : Below 0 w (w.setCells g 0 cs) := below_setCells (Nat.zero_le _) _ _ _ (Below.refl _ _)
  exact h.upd (by rw [hf]; rfl) (by rw [hf]; rfl) hb.os hb.tape hb.output hb.size (fun x hx => heap_setCells _ _ _ _ _ hx)
/-- No other operation but k writes to a's new variable. -/
def onlyOwner (l : List Fact) (i a : Nat) : Bool := (List.range l.length).all fun k => decide (k = i) || !((factAt l k).owner == some a)
theorem onlyOwner_spec {l : List Fact} {i a k : Nat} {xs : List F} (h : onlyOwner l i a = true) (hf : factAt l k = .st a R xs) : k = i := by
  have hlt : k < l.length := by
    rcases Nat.lt_or_ge k l.length with h | h
    · exact h
    · rw [factAt_len h] at hf; cases hf
  unfold onlyOwner at h
  rw [List.all_eq_true] at h
  have := h k (by simpa using hlt)
  simpa [hf, Fact.owner] using this
theorem usedUp_spec {l : List Fact} {wt : Nat → Nat → Bool} {i k n v : Nat} {cs : List Value} (h : (l.all (Fact.usedUp wt i)) = true) (hf : factAt l k = .tmp n cs v) : wt i v = true := by
  have hlt : k < l.length := by
    rcases Nat.lt_or_ge k l.length with h | h
    · exact h
    · rw [factAt_len h] at hf; cases hf
  rw [List.all_eq_true] at h
  have h2 := h l[k] (List.getElem_mem hlt)
  have hk' : l[k]? = some l[k] := by simp [hlt]
  unfold factAt at hf
  rw [hk'] at hf
  simp only [Option.getD_some] at hf
  rw [hf] at h2
  exact h2
theorem hasFs_apart {w : World} {g b o : Nat} {cs : List Value} {xs : List F} (h : HasFs R w b o xs) (hne : b ≠ g) : HasFs R (w.setCells g 0 cs) b o xs := h.blk (heap_setCells _ _ _ _ _ hne)
theorem hasFs_same {w : World} {g n : Nat} {cs : List Value} {xs : List F} (hc : Lims R xs cs) (ht : w.there g 0 n) (hn : cs.length ≤ n) : HasFs R (w.setCells g 0 cs) g 0 xs :=
  ⟨cs, hc, World.rangeAt_setCells_same _ _ _ _ (fun j hj => ht j (by omega))⟩
/-- The facts behind a store into operation a's new variable. -/
theorem holds_st {l : List Fact} {wt : Nat → Nat → Bool} {W0 w : World} {L : Nat → Bool} {u : Nat → Value} {i a g k n : Nat} {cs : List Value} (hok : ownersOk wt l = true) (hcl : ∀ k d, L k = true → wt k d = true → L d = true)
    (hJ : Keep l W0 L u w) (ha : L a = true) (hn : factAt l a = .new n) (hu : u a = .pointer (some ⟨g, 0, none⟩)) (hg : W0.heap.size ≤ g) (hown : onlyOwner l i a = true) (hnr : l.any Fact.isRd = false) (hup : (l.all (Fact.usedUp wt i)) = true) (hdep : ∀ d, wt i d = true → L d = true)
    (hk : L k = true) (hki : k ≠ i) (h : Holds l W0 k L u w) : Holds l W0 k L u (w.setCells g 0 cs) := by
  unfold Holds at *
  have hna : (factAt l a).isNew = true := by rw [hn]; rfl
  cases hf : factAt l k with
  | any => trivial
  | val R xs => simp only [hf] at h ⊢; exact h
  | ptr g o => simp only [hf] at h ⊢; exact h
  | new n => simp only [hf] at h ⊢; obtain ⟨q, h1, h2, h3, h4⟩ := h; exact ⟨q, h1, h2, h3, World.there_setCells h4 _ _ _⟩
  | box R xs =>
    simp only [hf] at h ⊢
    obtain ⟨q, h1, h2, h3, h4⟩ := h
    have hka : k ≠ a := by rintro rfl; rw [hn] at hf; cases hf
    have hne : q ≠ g := by
      rintro rfl
      exact hJ.apart k a q hka hk ha (by rw [hf]; rfl) hna h1 hu
    exact ⟨q, h1, by rw [size_setCells]; exact h2, World.there_setCells h3 _ _ _, hasFs_apart h4 hne⟩
  | st b R xs =>
    simp only [hf] at h ⊢
    obtain ⟨q, h1, h2, h3⟩ := h
    have hba : b ≠ a := by
      rintro rfl
      exact hki (onlyOwner_spec hown hf)
    have ho := ownersOk_spec hok hf
    have hne : q ≠ g := by
      rintro rfl
      exact hJ.apart b a q hba (hcl k b hk ho.1) ha ho.2 hna h1 hu
    exact ⟨q, h1, h2, hasFs_apart h3 hne⟩
  | sto b R xs => simp only [hf] at h ⊢; exact ⟨h.1, World.there_setCells h.2.1 _ _ _, hasFs_apart h.2.2 (by omega)⟩
  | cst b o v => simp only [hf] at h ⊢; exact ⟨h.1, by rw [heap_setCells _ _ _ _ _ (by omega)]; exact h.2⟩
  | oth φ => simp only [hf] at h ⊢; exact h
  | tmp n' cs' v => simp only [hf] at h ⊢; obtain ⟨q, h1, h2⟩ := h; exact ⟨q, h1, fun hl => by rw [hdep v (usedUp_spec hup hf)] at hl; cases hl⟩
  | rd l' =>
    exfalso
    have hlt : k < l.length := by
      rcases Nat.lt_or_ge k l.length with h | h
      · exact h
      · rw [factAt_len h] at hf; cases hf
    rw [List.any_eq_false] at hnr
    have h2 := hnr l[k] (List.getElem_mem hlt)
    have hk' : l[k]? = some l[k] := by simp [hlt]
    unfold factAt at hf
    rw [hk'] at hf
    simp only [Option.getD_some] at hf
    rw [hf] at h2
    exact h2 rfl
  | rdt l' v' =>
    exfalso
    have hlt : k < l.length := by
      rcases Nat.lt_or_ge k l.length with h | h
      · exact h
      · rw [factAt_len h] at hf; cases hf
    rw [List.any_eq_false] at hnr
    have h2 := hnr l[k] (List.getElem_mem hlt)
    have hk' : l[k]? = some l[k] := by simp [hlt]
    unfold factAt at hf
    rw [hk'] at hf
    simp only [Option.getD_some] at hf
    rw [hf] at h2
    exact h2 rfl
  | own l' v' =>
    exfalso
    have hlt : k < l.length := by
      rcases Nat.lt_or_ge k l.length with h | h
      · exact h
      · rw [factAt_len h] at hf; cases hf
    rw [List.any_eq_false] at hnr
    have h2 := hnr l[k] (List.getElem_mem hlt)
    have hk' : l[k]? = some l[k] := by simp [hlt]
    unfold factAt at hf
    rw [hk'] at hf
    simp only [Option.getD_some] at hf
    rw [hf] at h2
    exact h2 rfl
/-- The facts behind a change of one old block; no other operation changes it. -/
theorem holds_upd {l : List Fact} {wt : Nat → Nat → Bool} {W0 w w' : World} {L : Nat → Bool} {u : Nat → Value} {g k i : Nat} (hup : (l.all (Fact.usedUp wt i)) = true) (hdep : ∀ d, wt i d = true → L d = true) (hg : g < W0.heap.size) (hone : (factAt l k).tgt ≠ some g)
    (hz : w.heap.size ≤ w'.heap.size) (hw : ∀ x, x ≠ g → w'.heap[x]? = w.heap[x]?) (h : Holds l W0 k L u w) : Holds l W0 k L u w' := by
  unfold Holds at *
  cases hf : factAt l k with
  | any => trivial
  | val R xs => simp only [hf] at h ⊢; exact h
  | ptr g o => simp only [hf] at h ⊢; exact h
  | new n => simp only [hf] at h ⊢; obtain ⟨q, h1, h2, h3, h4⟩ := h; exact ⟨q, h1, h2, h3, there_blk h4 (hw _ (by omega))⟩
  | box R xs => simp only [hf] at h ⊢; obtain ⟨q, h1, h2, h3, h4⟩ := h; exact ⟨q, h1, ⟨h2.1, Nat.lt_of_lt_of_le h2.2 hz⟩, there_blk h3 (hw _ (by omega)), h4.blk (hw _ (by omega))⟩
  | st b R xs => simp only [hf] at h ⊢; obtain ⟨q, h1, h2, h3⟩ := h; exact ⟨q, h1, h2, h3.blk (hw _ (by omega))⟩
  | sto b R xs =>
    simp only [hf] at h ⊢
    have hne : b ≠ g := by rintro rfl; exact hone (by rw [hf]; rfl)
    exact ⟨h.1, there_blk h.2.1 (hw _ hne), h.2.2.blk (hw _ hne)⟩
  | cst b o v =>
    simp only [hf] at h ⊢
    have hne : b ≠ g := by rintro rfl; exact hone (by rw [hf]; rfl)
    exact ⟨h.1, by rw [hw _ hne]; exact h.2⟩
  | oth φ => simp only [hf] at h ⊢; exact h
  | tmp n' cs' v => simp only [hf] at h ⊢; obtain ⟨q, h1, h2⟩ := h; exact ⟨q, h1, fun hl => by rw [hdep v (usedUp_spec hup hf)] at hl; cases hl⟩
  | rd l' =>
    simp only [hf] at h ⊢
    obtain ⟨q, n, cap, r, h1, h2, h3, h4⟩ := h
    exact ⟨q, n, cap, r, h1, h2, blk_keep h3 (hw _ (by omega)), h4⟩
  | rdt l' v' =>
    simp only [hf] at h ⊢
    obtain ⟨q, n, cap, r, h1, h2, h3, h4, h5, h6⟩ := h
    exact ⟨q, n, cap, r, h1, h2, h3, h4, h5, fun hl => blk_keep (h6 hl) (hw _ (by omega))⟩
  | own l' v' =>
    simp only [hf] at h ⊢
    obtain ⟨q, cap, h1, h2, h3, h4⟩ := h
    exact ⟨q, cap, h1, h2, Nat.lt_of_lt_of_le h3 hz, fun hl => own_keep (h4 hl) (hw _ (by omega))⟩
/-- Behind the whole statement. -/
theorem Keep.below {l : List Fact} {W0 w : World} {L : Nat → Bool} {u : Nat → Value} (h : Keep l W0 L u w) {B : Nat} (hB : B ≤ W0.heap.size) (hs : ∀ k b, (factAt l k).tgt = some b → B ≤ b) : Below B W0 w :=
  ⟨h.os, h.tape, h.output, h.size, fun b hb => h.block b (by omega) (fun k hf => by have := hs k b hf; omega)⟩
theorem Keep.all {l : List Fact} {W0 w : World} {L : Nat → Bool} {u : Nat → Value} (h : Keep l W0 L u w) (hs : (l.any Fact.isSto) = false) : Below W0.heap.size W0 w :=
  h.below (Nat.le_refl _) (fun k b hf => by
    have hlt : k < l.length := by
      rcases Nat.lt_or_ge k l.length with h | h
      · exact h
      · rw [factAt_len h] at hf; cases hf
    rw [List.any_eq_false] at hs
    have hk : l[k]? = some l[k] := by simp [hlt]
    have h2 := hs l[k] (List.getElem_mem hlt)
    unfold factAt at hf
    rw [hk] at hf
    simp only [Option.getD_some] at hf
    unfold Fact.isSto at h2
    rw [hf] at h2
    exact absurd rfl h2)
end Go.Proofs.Ytmoggjbnlimepaa
