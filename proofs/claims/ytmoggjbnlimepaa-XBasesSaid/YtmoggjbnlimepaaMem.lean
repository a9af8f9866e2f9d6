/- Words on memory: a slice that reads as bytes, a block known whole; what stays of them in a later world. -/
import Derived.WalkKit
import Derived.ProofKit
import Derived.Lib.Hide
import Derived.OpenShut
namespace Go.Proofs.Ytmoggjbnlimepaa
open Go.RowKit

theorem ret_int {k : IntKind} {a b : Int} (h : a = b) : Ending.returned (.int k a) = Ending.returned (.int k b) := by rw [h]
theorem ret_bool {a b : Bool} (h : a = b) : Ending.returned (.bool a) = Ending.returned (.bool b) := by rw [h]
/-- A byte as a value. -/
def bV (c : UInt8) : Value := .int .u8 (c.toNat : Int)

/-- The slice (a, n, cap) reads as the bytes l. -/
structure RdB (w : World) (a : Option Addr) (n cap : Nat) (l : List UInt8) : Prop where
  hlen : l.length = n
  hcap : n ≤ cap
  hmax : cap ≤ maxLen
  get : ∀ i (h : i < l.length), ∃ b o, a = some ⟨b, o, none⟩ ∧ w.cell? ⟨b, o + i, none⟩ = some (bV l[i])
  hnil : a = none → cap = 0

/-- The block g is whole the cells cs, none frozen. -/
def Blk (w : World) (g : Nat) (cs : List Value) (E : TypeId) : Prop := w.heap[g]? = some (.cells cs.toArray E (0, 0))

theorem Blk.lt {w : World} {g : Nat} {cs : List Value} {E : TypeId} (h : Blk w g cs E) : g < w.heap.size := by
  unfold Blk at h
  by_cases hg : g < w.heap.size
  · exact hg
  · rw [Array.getElem?_eq_none (by omega)] at h; simp at h
theorem Blk.cell {w : World} {g : Nat} {cs : List Value} {E : TypeId} (h : Blk w g cs E) (i : Nat) : w.cell? ⟨g, i, none⟩ = cs[i]? := by
  unfold Blk at h
  simp [World.cell?, h]
theorem Blk.frozen {w : World} {g : Nat} {cs : List Value} {E : TypeId} (h : Blk w g cs E) (i : Nat) : w.frozen? ⟨g, i, none⟩ = false := by
  unfold Blk at h
  simp [World.frozen?, h]
theorem Blk.below {w w' : World} {B g : Nat} {cs : List Value} {E : TypeId} (h : Blk w g cs E) (hb : Below B w w') (hg : g < B) : Blk w' g cs E := by
  unfold Blk at *
  rw [hb.block g hg]; exact h
theorem Blk.below' {w w' : World} {g : Nat} {cs : List Value} {E : TypeId} (h : Blk w g cs E) (hb : Below w.heap.size w w') : Blk w' g cs E := h.below hb h.lt
theorem Blk.alloc {w : World} {g : Nat} {cs : List Value} {E : TypeId} (h : Blk w g cs E) (o : Obj) : Blk (w.alloc o) g cs E :=
  h.below ((Below.refl _ _).alloc (Nat.le_refl _) o) h.lt
theorem Blk.drew {w : World} {g : Nat} {cs : List Value} {E : TypeId} (h : Blk w g cs E) : Blk w.drew g cs E := h
theorem Blk.set {w : World} {g : Nat} {cs : List Value} {E : TypeId} (h : Blk w g cs E) (i : Nat) (v : Value) : Blk (w.setCell ⟨g, i, none⟩ v) g (cs.set i v) E := by
  unfold Blk at *
  simp [World.setCell, Array.getElem?_modify, h]
theorem Blk.other {w : World} {g : Nat} {cs : List Value} {E : TypeId} (h : Blk w g cs E) (a : Addr) (hne : a.block ≠ g) (v : Value) : Blk (w.setCell a v) g cs E := by
  unfold Blk at *
  rw [Below.heap_setCell _ _ _ _ (by omega)]; exact h
theorem Blk.new (w : World) (cs : Array Value) (E : TypeId) : Blk (w.alloc (.cells cs E)) w.heap.size cs.toList E := by
  unfold Blk
  show (w.heap.push _)[w.heap.size]? = _
  simp
theorem Blk.new' {w : World} {cs : Array Value} {E : TypeId} {g : Nat} (hg : g = w.heap.size) : Blk (w.alloc (.cells cs E)) g cs.toList E := by
  subst hg; exact Blk.new _ _ _
theorem Blk.own {w : World} {base E g n : Nat} {xs : List Value} (h : w.ownsRow base E 1 (.slice (some ⟨g, 0, none⟩) n n) n xs) : Blk w g xs E := by
  obtain ⟨h1, h2⟩ := h
  rcases h2 with ⟨h2, _⟩ | ⟨g', cap, cur, hv, _, hg, _, _, hs, ht⟩
  · cases h2
  · obtain ⟨h3, _, h5⟩ : g = g' ∧ n = n ∧ n = cap := by simpa using hv
    subst h3 h5
    have : cur.toList = xs := by rw [← ht, List.take_of_length_le (by simp [hs])]
    unfold Blk
    rw [hg, ← this]

/-- A row of cells by a rule. (A plain definition: the walk's simp does not look into it.) -/
def row (n : Nat) (f : Nat → Value) : List Value := (List.range n).map f
theorem row_len (n : Nat) (f : Nat → Value) : (row n f).length = n := by simp [row]
theorem row_get {n : Nat} {f : Nat → Value} {k : Nat} (h : k < n) : (row n f)[k]? = some (f k) := by simp [row, h]
theorem row_ext {n : Nat} {f g : Nat → Value} (h : ∀ i, i < n → f i = g i) : row n f = row n g := by
  unfold row; apply List.map_congr_left; intro i hi; exact h i (by simpa using hi)
theorem row_set {n : Nat} {f g : Nat → Value} (k : Nat) (v : Value) (hk : g k = v) (h : ∀ i, i < n → i ≠ k → g i = f i) : (row n f).set k v = row n g := by
  apply List.ext_getElem
  · simp [row]
  · intro i h1 h2
    have hi : i < n := by simpa [row] using h2
    rw [List.getElem_set]
    split
    · rename_i e; subst e; simp [row, hk]
    · rename_i e; simp [row, h i hi (fun x => e x.symm)]
theorem row_succ (n : Nat) (f : Nat → Value) : row (n + 1) f = row n f ++ [f n] := by simp [row, List.range_succ]
theorem Blk.at {w : World} {g n E : Nat} {f : Nat → Value} (h : Blk w g (row n f) E) {k : Nat} (hk : k < n) : w.cell? ⟨g, k, none⟩ = some (f k) := by rw [h.cell, row_get hk]
theorem own_below {w w' : World} {base E n : Nat} {v : Value} {xs : List Value} (h : w.ownsRow base E 1 v n xs) (hb : Below w.heap.size w w') : w'.ownsRow base E 1 v n xs := by
  obtain ⟨h1, h2⟩ := h
  refine ⟨h1, ?_⟩
  rcases h2 with h2 | ⟨g, cap, cur, hv, hg, hh, r⟩
  · exact Or.inl h2
  · have hlt : g < w.heap.size := Blk.lt (cs := cur.toList) (E := E) (by unfold Blk; simpa using hh)
    exact Or.inr ⟨g, cap, cur, hv, hg, by rw [hb.block g hlt]; exact hh, r⟩
/-- What an owned row of bytes is, where it is not empty. -/
theorem own_rdb {w : World} {base E n : Nat} {v : Value} {l : List UInt8} (h : w.ownsRow base E 1 v n (l.map bV)) (hn : 0 < n) :
    ∃ g cap r, v = .slice (some ⟨g, 0, none⟩) n cap ∧ base ≤ g ∧ Blk w g (l.map bV ++ r) E ∧ l.length = n ∧ n ≤ cap ∧ cap ≤ maxLen := by
  obtain ⟨h1, h2⟩ := h
  simp at h1
  rcases h2 with ⟨_, h0⟩ | ⟨g, cap, cur, hv, hg, hh, hc, hm, hs, ht⟩
  · omega
  · refine ⟨g, cap, cur.toList.drop n, hv, hg, ?_, h1, hc, hm⟩
    unfold Blk
    rw [hh, ← ht, Nat.mul_one, List.take_append_drop]
theorem cell_lt {w : World} {p : Addr} {v : Value} (h : w.cell? p = some v) : p.block < w.heap.size := by
  by_cases hg : p.block < w.heap.size
  · exact hg
  · unfold World.cell? at h
    rw [Array.getElem?_eq_none (by omega)] at h; simp at h

theorem RdB.below {w w' : World} {a : Option Addr} {n cap : Nat} {l : List UInt8} (h : RdB w a n cap l) (hb : Below w.heap.size w w') : RdB w' a n cap l := by
  refine ⟨h.hlen, h.hcap, h.hmax, fun i hi => ?_, h.hnil⟩
  obtain ⟨b, o, ha, hc⟩ := h.get i hi
  exact ⟨b, o, ha, by rw [hb.cell (cell_lt hc)]; exact hc⟩
theorem RdB.drew {w : World} {a : Option Addr} {n cap : Nat} {l : List UInt8} (h : RdB w a n cap l) : RdB w.drew a n cap l := ⟨h.hlen, h.hcap, h.hmax, h.get, h.hnil⟩
/-- A whole block of bytes reads as them. -/
theorem RdB.blk {w : World} {g E n cap : Nat} {l : List UInt8} (r : List Value) (h : Blk w g (l.map bV ++ r) E) (hn : l.length = n) (hc : n ≤ cap) (hm : cap ≤ maxLen) : RdB w (some ⟨g, 0, none⟩) n cap l :=
  ⟨hn, hc, hm, fun i hi => ⟨g, 0, rfl, by rw [Nat.zero_add, h.cell, List.getElem?_append_left (by simpa using hi)]; simp [hi]⟩, fun h => by cases h⟩
theorem RdB.nil (w : World) : RdB w none 0 0 [] := ⟨rfl, Nat.le_refl _, by simp, fun i h => by simp at h, fun _ => rfl⟩
/-- It is empty, or begins somewhere. -/
theorem RdB.cases {w : World} {a : Option Addr} {n cap : Nat} {l : List UInt8} (h : RdB w a n cap l) :
    (n = 0 ∧ l = []) ∨ ∃ b o, 0 < n ∧ a = some ⟨b, o, none⟩ ∧ ∀ i (hi : i < l.length), w.cell? ⟨b, o + i, none⟩ = some (bV l[i]) := by
  by_cases h0 : n = 0
  · exact .inl ⟨h0, List.eq_nil_of_length_eq_zero (by rw [h.hlen, h0])⟩
  · obtain ⟨b, o, ha, _⟩ := h.get 0 (by have := h.hlen; omega)
    refine .inr ⟨b, o, by omega, ha, fun i hi => ?_⟩
    obtain ⟨b', o', ha', hc⟩ := h.get i hi
    rw [ha] at ha'
    simp at ha'
    obtain ⟨rfl, rfl⟩ := ha'
    exact hc
theorem Below.alloc' {a w : World} (h : Below a.heap.size a w) (o : Obj) : Below a.heap.size a (w.alloc o) := h.alloc h.size o
/-- Behind a call: what was done ahead of it, and what the call did. -/
theorem Below.call {a w w1 : World} (h : Below a.heap.size a w) (hb : Below w.heap.size w w1) : Below a.heap.size a w1 := h.trans (hb.mono h.size)
/-- All old cells and marks read as before: two rules for the walk. -/
theorem bcell {W w1 : World} (hb : Below W.heap.size W w1) : (∀ b o, b < W.heap.size → w1.cell? ⟨b, o, none⟩ = W.cell? ⟨b, o, none⟩) ∧ (∀ b o, b < W.heap.size → w1.frozen? ⟨b, o, none⟩ = W.frozen? ⟨b, o, none⟩) :=
  ⟨fun b o h => hb.cell (p := ⟨b, o, none⟩) h, fun b o h => hb.frozen (p := ⟨b, o, none⟩) h⟩
/-- A slice that came in, as a law's preamble hands it over. -/
theorem RdB.of_ints {w : World} {a : Option Addr} {n cap : Nat} {zs : List Int}
    (h : (a = none ∧ n = 0 ∧ cap = 0 ∧ zs = []) ∨ ∃ x, a = some x ∧ n ≤ cap ∧ cap ≤ maxLen ∧ zs.length = cap ∧ (∀ i, i < zs.length → w.cell? (x.add i) = some (.int .u8 (zs.getD i 0))) ∧ ∀ z ∈ zs, (Lit.int .u8 z).wf = true) :
    ∃ l, RdB w a n cap l := by
  rcases h with ⟨rfl, rfl, rfl, rfl⟩ | ⟨⟨b, o, sp⟩, rfl, hl, hm, hz, hc, hw⟩
  · exact ⟨[], RdB.nil w⟩
  · refine ⟨(zs.take n).map fun z => UInt8.ofNat z.toNat, by simp [hz, hl], hl, hm, fun i hi => ?_, fun h => by cases h⟩
    simp [hz] at hi
    have h0 := hc 0 (by omega)
    have hsp : sp = none := by simpa [Addr.add] using World.cell?_spot h0
    subst hsp
    refine ⟨b, o, rfl, ?_⟩
    have h1 := hc i (by omega)
    have e : (Addr.add ⟨b, o, none⟩ i) = ⟨b, o + i, none⟩ := by
      unfold Addr.add; split
      · rename_i e; subst e; rfl
      · rfl
    rw [e] at h1
    rw [h1]
    have hmem : zs[i]'(by omega) ∈ zs := List.getElem_mem _
    have hwz := hw _ hmem
    have hb : 0 ≤ zs[i]'(by omega) ∧ zs[i]'(by omega) < 256 := by
      have := bounds_u8 hwz
      omega
    simp [bV, List.getElem?_eq_getElem (show i < zs.length by omega)]
    omega
/-! ### '==' on arrays of integers (after the guide's law on bytes) -/
theorem all_range_eqI : ∀ (xs ys : List Int), xs.length = ys.length → ((List.range xs.length).all fun i => xs.getD i 0 == ys.getD i 0) = (xs == ys)
  | [], [], _ => rfl
  | x :: xs, y :: ys, h => by
    have ih := all_range_eqI xs ys (by simpa using h)
    rw [List.length_cons, List.range_succ_eq_map, List.all_cons, List.all_map]
    simp only [List.getD_cons_zero, Function.comp_def, List.getD_cons_succ, ih]
    simp [List.cons_beq_cons]
  | [], _ :: _, h => by simp at h
  | _ :: _, [], h => by simp at h
theorem eqArr {P : Program} (w : World) (d : Nat) (t e : TypeId) (n : Nat) (k : IntKind) (ht : P.underlying t = some (.array n e)) (he : P.underlying e = some (.int k)) (hsz : ∀ w, (sizeOf e).run P w = .ok 1 w)
    (xs ys : List Int) (hx : xs.length = n) (hy : ys.length = n) :
    (Op.equalIn (d + 2) t (.agg (xs.map (Value.int k)).toArray) (.agg (ys.map (Value.int k)).toArray)).run P w = .ok (xs == ys) w := by
  rw [← all_range_eqI xs ys (hx.trans hy.symm), hx, List.range_eq_range', Op.equalIn]
  simp only [Sem.run_bind, run_underlying ht, Result.andThen_ok, hsz, Std.Legacy.Range.forIn_eq_forIn_range', Std.Legacy.Range.size, Nat.sub_zero, Nat.add_sub_cancel, Nat.div_one]
  have hl : ∀ i ∈ List.range' 0 n 1, i < n := fun i hi => by simpa using (List.mem_range'_1.1 hi).2
  generalize List.range' 0 n 1 = l at hl ⊢
  induction l with
  | nil => simp
  | cons i l ih =>
    have hi : i < n := hl i (by simp)
    have px : (part e (xs.map (Value.int k)).toArray (i * 1)).run P w = .ok (Value.int k (xs.getD i 0)) w := by
      simp [part, isAgg, run_underlying he, List.getD, List.getElem?_eq_getElem (show i < xs.length by omega)]
    have py : (part e (ys.map (Value.int k)).toArray (i * 1)).run P w = .ok (Value.int k (ys.getD i 0)) w := by
      simp [part, isAgg, run_underlying he, List.getD, List.getElem?_eq_getElem (show i < ys.length by omega)]
    have pe : (Op.equalIn (d + 1) e (Value.int k (xs.getD i 0)) (Value.int k (ys.getD i 0))).run P w = .ok (xs.getD i 0 == ys.getD i 0) w := by
      rw [run_equalIn_int w d e k k _ _ he]
    simp only [List.forIn_cons, Sem.run_bind, px, py, pe, Result.andThen_ok, List.all_cons]
    cases hb : (xs.getD i 0 == ys.getD i 0)
    · simp
    · simp only [Bool.not_true, Bool.false_eq_true, if_false, Sem.run_pure, Result.andThen_ok, Bool.true_and]
      exact ih fun j hj => hl j (by simp [hj])
/-- The world is forgotten but for what is said of it. -/
theorem wp_gen {P : Program} {c : Code} {Q : Exit → Act → World → Prop} {a : Act} {w : World} (F : World → Prop) (hF : F w) (h : ∀ W, F W → Code.wp P c Q a W) : Code.wp P c Q a w := h w hF
theorem calls_gen {P : Program} {f : FuncId} {args : Array Value} {w : World} {R : Ending → World → Prop} (F : World → Prop) (hF : F w) (h : ∀ W, F W → Calls P f args W R) : Calls P f args w R := h w hF
end Go.Proofs.Ytmoggjbnlimepaa
