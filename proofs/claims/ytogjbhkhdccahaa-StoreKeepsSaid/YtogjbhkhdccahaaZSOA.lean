/- What SO rests on, part 1 of 2: my own texts, put together (merge.py). -/
import Derived.WalkKit
import Derived.ProofKit
import Derived.Lib.Hide
import Derived.OpenShut
import Derived.Test.YtogjbhkhdccahaaRows
import Derived.WalkSpells
import Derived.StillTactics
import Derived.Laws.Pointers
import Derived.Laws.CopyOwn
import Derived.Laws.AppendOwnNone
import Derived.Deep.RegionHeld3
import Derived.RowKit3
import Derived.BigQuiet
import Derived.Deep.QuietTactic
import Derived.Deep.LoopGhost
import Derived.Deep.DeepFit
import Derived.WalkLawsBesides
import Derived.Shelf.Spec.BitsCarry
import Derived.Deep.MidRow
import Derived.Deep.WholeRow
import Derived.Laws.Rows
import Derived.Deep.DeepCutAuto
import Derived.Maps.RangeWalk
import Derived.Laws.MakeOwn
import Derived.Laws.IdiomStrings
import Derived.Maps.AppendAt
import Derived.Laws.CopyRow
import Derived.Laws.IdiomCopy
import Derived.Shelf.SlIterI.Nil
import Derived.Shelf.SlIterI.Sorted
import Derived.Shelf.SortM.Plain
import Derived.Shelf.SortM.SortNone
import Derived.Laws.OwnMore
import Derived.Lib.AppendZerosOnto
import Derived.Lib.SliceRun
import Derived.Shelf.SlicesE.IndexFunc
import Derived.Lib.SlBytesConst
import Derived.Deep.Slices
import Derived.Deep.Fields
import Derived.ChangeSame
import Derived.ShutString
import Derived.ChangeOld
namespace Go.Proofs.Ytogjbhkhdccahaa
open Go.RowKit
theorem ret_int {k : IntKind} {a b : Int} (h : a = b) : Ending.returned (.int k a) = Ending.returned (.int k b) := by rw [h]
/-- A byte as a value. -/
def bV (c : UInt8) : Value := .int .u8 (c.toNat : Int)
/-- The slice (a, n, cap) reads as the bytes l. -/
structure RdB (w : World) (a : Option Addr) (n cap : Nat) (l : List UInt8) : Prop where
  hlen : l.length = n
  hcap : n ≤ cap
  hmax : cap ≤ maxLen
  get : ∀ i (h : i < l.length), ∃ b o, a = some ⟨b, o, none⟩ ∧ w.cell? ⟨b, o + i, none⟩ = some (bV l[i])
  hnil : a = none → cap = 0
/-- The block g is whole the cells cs, none frozen. -/
def Blk (w : World) (g : Nat) (cs : List Value) (E : TypeId) : Prop := w.heap[g]? = some (.cells cs.toArray E (0, 0))
theorem Blk.lt {w : World} {g : Nat} {cs : List Value} {E : TypeId} (h : Blk w g cs E) : g < w.heap.size := by
  unfold Blk at h
  by_cases hg : g < w.heap.size
  · exact hg
  · rw [Array.getElem?_eq_none (by omega)] at h; simp at h
theorem Blk.cell {w : World} {g : Nat} {cs : List Value} {E : TypeId} (h : Blk w g cs E) (i : Nat) : w.cell? ⟨g, i, none⟩ = cs[i]? := by
  unfold Blk at h
  simp [World.cell?, h]
theorem Blk.frozen {w : World} {g : Nat} {cs : List Value} {E : TypeId} (h : Blk w g cs E) (i : Nat) : w.frozen? ⟨g, i, none⟩ = false := by
  unfold Blk at h
  simp [World.frozen?, h]
theorem Blk.below {w w' : World} {B g : Nat} {cs : List Value} {E : TypeId} (h : Blk w g cs E) (hb : Below B w w') (hg : g < B) : Blk w' g cs E := by
  unfold Blk at *
  rw [hb.block g hg]; exact h
theorem Blk.below' {w w' : World} {g : Nat} {cs : List Value} {E : TypeId} (h : Blk w g cs E) (hb : Below w.heap.size w w') : Blk w' g cs E := h.below hb h.lt
theorem Blk.alloc {w : World} {g : Nat} {cs : List Value} {E : TypeId} (h : Blk w g cs E) (o : Obj) : Blk (w.alloc o) g cs E :=
  h.below ((Below.refl _ _).alloc (Nat.le_refl _) o) h.lt
theorem Blk.drew {w : World} {g : Nat} {cs : List Value} {E : TypeId} (h : Blk w g cs E) : Blk w.drew g cs E := h
theorem Blk.set {w : World} {g : Nat} {cs : List Value} {E : TypeId} (h : Blk w g cs E) (i : Nat) (v : Value) : Blk (w.setCell ⟨g, i, none⟩ v) g (cs.set i v) E := by
  unfold Blk at *
  simp [World.setCell, Array.getElem?_modify, h]
theorem Blk.new (w : World) (cs : Array Value) (E : TypeId) : Blk (w.alloc (.cells cs E)) w.heap.size cs.toList E := by
  unfold Blk
  show (w.heap.push _)[w.heap.size]? = _
  simp
theorem Blk.own {w : World} {base E g n : Nat} {xs : List Value} (h : w.ownsRow base E 1 (.slice (some ⟨g, 0, none⟩) n n) n xs) : Blk w g xs E := by
  obtain ⟨h1, h2⟩ := h
  rcases h2 with ⟨h2, _⟩ | ⟨g', cap, cur, hv, _, hg, _, _, hs, ht⟩
  · cases h2
  · obtain ⟨h3, _, h5⟩ : g = g' ∧ n = n ∧ n = cap := by simpa using hv
    subst h3 h5
    have : cur.toList = xs := by rw [← ht, List.take_of_length_le (by simp [hs])]
    unfold Blk
    rw [hg, ← this]
/-- A row of cells by a rule. (A plain definition: the walk's simp does not look into it.) -/
def row (n : Nat) (f : Nat → Value) : List Value := (List.range n).map f
theorem row_get {n : Nat} {f : Nat → Value} {k : Nat} (h : k < n) : (row n f)[k]? = some (f k) := by simp [row, h]
theorem row_set {n : Nat} {f g : Nat → Value} (k : Nat) (v : Value) (hk : g k = v) (h : ∀ i, i < n → i ≠ k → g i = f i) : (row n f).set k v = row n g := by
  apply List.ext_getElem
  · simp [row]
  · intro i h1 h2
    have hi : i < n := by simpa [row] using h2
    rw [List.getElem_set]
    split
    · rename_i e; subst e; simp [row, hk]
    · rename_i e; simp [row, h i hi (fun x => e x.symm)]
theorem Blk.at {w : World} {g n E : Nat} {f : Nat → Value} (h : Blk w g (row n f) E) {k : Nat} (hk : k < n) : w.cell? ⟨g, k, none⟩ = some (f k) := by rw [h.cell, row_get hk]
theorem own_below {w w' : World} {base E n : Nat} {v : Value} {xs : List Value} (h : w.ownsRow base E 1 v n xs) (hb : Below w.heap.size w w') : w'.ownsRow base E 1 v n xs := by
  obtain ⟨h1, h2⟩ := h
  refine ⟨h1, ?_⟩
  rcases h2 with h2 | ⟨g, cap, cur, hv, hg, hh, r⟩
  · exact Or.inl h2
  · have hlt : g < w.heap.size := Blk.lt (cs := cur.toList) (E := E) (by unfold Blk; simpa using hh)
    exact Or.inr ⟨g, cap, cur, hv, hg, by rw [hb.block g hlt]; exact hh, r⟩
/-- What an owned row of bytes is, where it is not empty. -/
theorem own_rdb {w : World} {base E n : Nat} {v : Value} {l : List UInt8} (h : w.ownsRow base E 1 v n (l.map bV)) (hn : 0 < n) :
    ∃ g cap r, v = .slice (some ⟨g, 0, none⟩) n cap ∧ base ≤ g ∧ Blk w g (l.map bV ++ r) E ∧ l.length = n ∧ n ≤ cap ∧ cap ≤ maxLen := by
  obtain ⟨h1, h2⟩ := h
  simp at h1
  rcases h2 with ⟨_, h0⟩ | ⟨g, cap, cur, hv, hg, hh, hc, hm, hs, ht⟩
  · omega
  · refine ⟨g, cap, cur.toList.drop n, hv, hg, ?_, h1, hc, hm⟩
    unfold Blk
    rw [hh, ← ht, Nat.mul_one, List.take_append_drop]
theorem cell_lt {w : World} {p : Addr} {v : Value} (h : w.cell? p = some v) : p.block < w.heap.size := by
  by_cases hg : p.block < w.heap.size
  · exact hg
  · unfold World.cell? at h
    rw [Array.getElem?_eq_none (by omega)] at h; simp at h
theorem RdB.below {w w' : World} {a : Option Addr} {n cap : Nat} {l : List UInt8} (h : RdB w a n cap l) (hb : Below w.heap.size w w') : RdB w' a n cap l := by
  refine ⟨h.hlen, h.hcap, h.hmax, fun i hi => ?_, h.hnil⟩
  obtain ⟨b, o, ha, hc⟩ := h.get i hi
  exact ⟨b, o, ha, by rw [hb.cell (cell_lt hc)]; exact hc⟩
theorem RdB.drew {w : World} {a : Option Addr} {n cap : Nat} {l : List UInt8} (h : RdB w a n cap l) : RdB w.drew a n cap l := ⟨h.hlen, h.hcap, h.hmax, h.get, h.hnil⟩
/-- A whole block of bytes reads as them. -/
theorem RdB.blk {w : World} {g E n cap : Nat} {l : List UInt8} (r : List Value) (h : Blk w g (l.map bV ++ r) E) (hn : l.length = n) (hc : n ≤ cap) (hm : cap ≤ maxLen) : RdB w (some ⟨g, 0, none⟩) n cap l :=
  ⟨hn, hc, hm, fun i hi => ⟨g, 0, rfl, by rw [Nat.zero_add, h.cell, List.getElem?_append_left (by simpa using hi)]; simp [hi]⟩, fun h => by cases h⟩
theorem RdB.nil (w : World) : RdB w none 0 0 [] := ⟨rfl, Nat.le_refl _, by simp, fun i h => by simp at h, fun _ => rfl⟩
/-- It is empty, or begins somewhere. -/
theorem RdB.cases {w : World} {a : Option Addr} {n cap : Nat} {l : List UInt8} (h : RdB w a n cap l) :
    (n = 0 ∧ l = []) ∨ ∃ b o, 0 < n ∧ a = some ⟨b, o, none⟩ ∧ ∀ i (hi : i < l.length), w.cell? ⟨b, o + i, none⟩ = some (bV l[i]) := by
  by_cases h0 : n = 0
  · exact .inl ⟨h0, List.eq_nil_of_length_eq_zero (by rw [h.hlen, h0])⟩
  · obtain ⟨b, o, ha, _⟩ := h.get 0 (by have := h.hlen; omega)
    refine .inr ⟨b, o, by omega, ha, fun i hi => ?_⟩
    obtain ⟨b', o', ha', hc⟩ := h.get i hi
    rw [ha] at ha'
    simp at ha'
    obtain ⟨rfl, rfl⟩ := ha'
    exact hc
theorem Below.alloc' {a w : World} (h : Below a.heap.size a w) (o : Obj) : Below a.heap.size a (w.alloc o) := h.alloc h.size o
/-- Behind a call: what was done ahead of it, and what the call did. -/
theorem Below.call {a w w1 : World} (h : Below a.heap.size a w) (hb : Below w.heap.size w w1) : Below a.heap.size a w1 := h.trans (hb.mono h.size)
/-- A slice that came in, as a law's preamble hands it over. -/
theorem RdB.of_ints {w : World} {a : Option Addr} {n cap : Nat} {zs : List Int}
    (h : (a = none ∧ n = 0 ∧ cap = 0 ∧ zs = []) ∨ ∃ x, a = some x ∧ n ≤ cap ∧ cap ≤ maxLen ∧ zs.length = cap ∧ (∀ i, i < zs.length → w.cell? (x.add i) = some (.int .u8 (zs.getD i 0))) ∧ ∀ z ∈ zs, (Lit.int .u8 z).wf = true) :
    ∃ l, RdB w a n cap l := by
  rcases h with ⟨rfl, rfl, rfl, rfl⟩ | ⟨⟨b, o, sp⟩, rfl, hl, hm, hz, hc, hw⟩
  · exact ⟨[], RdB.nil w⟩
  · refine ⟨(zs.take n).map fun z => UInt8.ofNat z.toNat, by simp [hz, hl], hl, hm, fun i hi => ?_, fun h => by cases h⟩
    simp [hz] at hi
    have h0 := hc 0 (by omega)
    have hsp : sp = none := by simpa [Addr.add] using World.cell?_spot h0
    subst hsp
    refine ⟨b, o, rfl, ?_⟩
    have h1 := hc i (by omega)
    have e : (Addr.add ⟨b, o, none⟩ i) = ⟨b, o + i, none⟩ := by
      unfold Addr.add; split
      · rename_i e; subst e; rfl
      · rfl
    rw [e] at h1
    rw [h1]
    have hmem : zs[i]'(by omega) ∈ zs := List.getElem_mem _
    have hwz := hw _ hmem
    have hb : 0 ≤ zs[i]'(by omega) ∧ zs[i]'(by omega) < 256 := by
      have := bounds_u8 hwz
      omega
    simp [bV, List.getElem?_eq_getElem (show i < zs.length by omega)]
    omega
/-- The world is forgotten but for what is said of it. -/
theorem wp_gen {P : Program} {c : Code} {Q : Exit → Act → World → Prop} {a : Act} {w : World} (F : World → Prop) (hF : F w) (h : ∀ W, F W → Code.wp P c Q a W) : Code.wp P c Q a w := h w hF
end Go.Proofs.Ytogjbhkhdccahaa
namespace Go.Proofs.Ytogjbhkhdccahaa
/-- A device: its blocks as they were at the last flush, each one's writes since, how many ops were begun, how many are still done (if cut), whether it is cut, whether it is off. -/
structure Bd where
  good : List (List UInt8)
  pend : Nat → List (List UInt8)
  ops : Nat
  left : Int
  cut : Bool
  off : Bool
/-- Each row has 64 bytes; nothing is pending behind the last block. -/
structure Bd.Ok (d : Bd) : Prop where
  rows : ∀ r ∈ d.good, r.length = 64
  pend : ∀ k, ∀ r ∈ d.pend k, r.length = 64
  few : ∀ k, d.good.length ≤ k → d.pend k = []
  left : 0 ≤ d.left
  cnt : ∀ k, (d.pend k).length ≤ d.ops
def zero64 : List UInt8 := List.replicate 64 0
def Bd.new (n : Nat) : Bd := ⟨List.replicate n zero64, fun _ => [], 0, 0, false, false⟩
/-- Is the power off behind the next op's beginning? -/
def Bd.offN (d : Bd) : Bool := d.off || (d.cut && decide (d.left < 1))
def Bd.begin (d : Bd) : Bd := { d with ops := d.ops + 1, off := d.offN, left := if d.offN then d.left else if d.cut then d.left - 1 else d.left }
/-- A block as its first n writes left it. -/
def Bd.at (d : Bd) (k n : Nat) : List UInt8 := if n = 0 then d.good.getD k [] else (d.pend k).getD (n - 1) []
def Bd.last (d : Bd) (k : Nat) : List UInt8 := d.at k (d.pend k).length
def Bd.put (d : Bd) (k : Nat) (b : List UInt8) : Bd := { d with pend := fun j => if j = k then d.pend k ++ [b] else d.pend j }
def Bd.flushed (d : Bd) : Bd := { d with good := (List.range d.good.length).map d.last, pend := fun _ => [] }
def Bd.cutAt (d : Bd) (n : Int) : Bd := { d with left := max n 0, cut := true }
/-- Codes. -/
def Bd.writeC (d : Bd) (k : Int) (b : List UInt8) : Int := if k < 0 ∨ (d.good.length : Int) ≤ k ∨ b.length ≠ 64 then 1 else if d.offN then 10 else 0
def Bd.write (d : Bd) (k : Int) (b : List UInt8) : Bd := if k < 0 ∨ (d.good.length : Int) ≤ k ∨ b.length ≠ 64 then d else if d.offN then d.begin else d.begin.put k.toNat b
def Bd.flushC (d : Bd) : Int := if d.offN then 10 else 0
def Bd.flush (d : Bd) : Bd := if d.offN then d.begin else d.begin.flushed
/-- A block as a crash leaves it, by a pick below 2 w + 1. -/
def Bd.crashRow (d : Bd) (k p : Nat) : List UInt8 := if p % 2 = 1 then ((d.pend k).getD (p / 2) []).take 32 ++ (d.at k (p / 2)).drop 32 else d.at k (p / 2)
/-- How many blocks below k have writes that are pending. -/
def Bd.before (d : Bd) : Nat → Nat
  | 0 => 0
  | k + 1 => d.before k + if d.pend k = [] then 0 else 1
def pickOf (picks : List Int) (i w : Nat) : Nat := (picks.getD (i % picks.length) 0 % (2 * w + 1 : Nat)).toNat
def Bd.crashAt (d : Bd) (picks : List Int) (k : Nat) : List UInt8 := if d.pend k = [] ∨ picks = [] then d.good.getD k [] else d.crashRow k (pickOf picks (d.before k) (d.pend k).length)
def Bd.crash (d : Bd) (picks : List Int) : Bd := { Bd.new d.good.length with good := (List.range d.good.length).map (d.crashAt picks) }
theorem zero64_len : zero64.length = 64 := rfl
theorem Bd.new_ok (n : Nat) : (Bd.new n).Ok := ⟨fun r hr => by rw [Bd.new] at hr; simp only [List.mem_replicate] at hr; rw [hr.2]; rfl, fun _ r hr => by simp [Bd.new] at hr, fun _ _ => rfl, Int.le_refl _, fun _ => Nat.zero_le _⟩
theorem Bd.begin_ok {d : Bd} (h : d.Ok) : d.begin.Ok := ⟨h.rows, h.pend, h.few, by
  have := h.left
  unfold Bd.begin
  by_cases ho : d.offN = true
  · simp only [ho, if_true]; exact this
  · simp only [ho, if_false, Bool.false_eq_true]
    by_cases hc : d.cut = true
    · simp only [hc, if_true]
      unfold Bd.offN at ho
      simp [hc] at ho
      omega
    · simp only [hc, if_false, Bool.false_eq_true]; exact this, fun k => Nat.le_succ_of_le (h.cnt k)⟩
theorem Bd.at_len {d : Bd} (h : d.Ok) {k n : Nat} (hk : k < d.good.length) (hn : n ≤ (d.pend k).length) : (d.at k n).length = 64 := by
  unfold Bd.at
  by_cases h0 : n = 0
  · rw [if_pos h0, List.getD_eq_getElem?_getD, List.getElem?_eq_getElem hk]
    exact h.rows _ (List.getElem_mem hk)
  · rw [if_neg h0, List.getD_eq_getElem?_getD, List.getElem?_eq_getElem (by omega)]
    exact h.pend k _ (List.getElem_mem _)
theorem Bd.put_ok {d : Bd} (h : d.Ok) {k : Nat} {b : List UInt8} (hk : k < d.good.length) (hb : b.length = 64) (hc : (d.pend k).length < d.ops) : (d.put k b).Ok := ⟨h.rows, fun j r hr => by
  unfold Bd.put at hr
  by_cases hj : j = k
  · subst hj
    simp only [if_true, List.mem_append, List.mem_singleton] at hr
    rcases hr with hr | hr
    · exact h.pend _ _ hr
    · rw [hr]; exact hb
  · simp only [hj, if_false] at hr; exact h.pend _ _ hr, fun j hj => by
  unfold Bd.put at *
  simp only at hj ⊢
  rw [if_neg (by omega)]
  exact h.few _ hj, h.left, fun j => by
  unfold Bd.put
  simp only
  by_cases hj : j = k
  · rw [if_pos hj, List.length_append]; exact hc
  · rw [if_neg hj]; exact h.cnt j⟩
theorem Bd.flushed_ok {d : Bd} (h : d.Ok) : d.flushed.Ok := ⟨fun r hr => by
  unfold Bd.flushed at hr
  simp only [List.mem_map, List.mem_range] at hr
  obtain ⟨k, hk, rfl⟩ := hr
  exact Bd.at_len h hk (Nat.le_refl _), fun _ r hr => by simp [Bd.flushed] at hr, fun _ _ => rfl, h.left, fun _ => Nat.zero_le _⟩
theorem Bd.cutAt_ok {d : Bd} (h : d.Ok) (n : Int) : (d.cutAt n).Ok := ⟨h.rows, h.pend, h.few, by unfold Bd.cutAt; simp only; omega, h.cnt⟩
theorem Bd.write_ok {d : Bd} (h : d.Ok) (k : Int) (b : List UInt8) : (d.write k b).Ok := by
  unfold Bd.write
  split
  · exact h
  · split
    · exact Bd.begin_ok h
    · exact Bd.put_ok (Bd.begin_ok h) (by show k.toNat < d.good.length; omega) (by omega) (Nat.lt_succ_of_le (h.cnt _))
theorem Bd.flush_ok {d : Bd} (h : d.Ok) : d.flush.Ok := by
  unfold Bd.flush
  split
  · exact Bd.begin_ok h
  · exact Bd.flushed_ok (Bd.begin_ok h)
theorem pickOf_lt (picks : List Int) (i w : Nat) : pickOf picks i w < 2 * w + 1 := by
  unfold pickOf
  have := Int.emod_lt_of_pos (picks.getD (i % picks.length) 0) (show (0 : Int) < ((2 * w + 1 : Nat) : Int) by omega)
  have := Int.emod_nonneg (picks.getD (i % picks.length) 0) (show ((2 * w + 1 : Nat) : Int) ≠ 0 by omega)
  omega
theorem Bd.crashRow_len {d : Bd} (h : d.Ok) {k p : Nat} (hk : k < d.good.length) (hp : p < 2 * (d.pend k).length + 1) : (d.crashRow k p).length = 64 := by
  unfold Bd.crashRow
  have h1 := Bd.at_len h (n := p / 2) hk (by omega)
  split
  · rw [List.length_append, List.length_take, List.length_drop, h1, List.getD_eq_getElem?_getD, List.getElem?_eq_getElem (by omega)]
    have := h.pend k _ (List.getElem_mem (l := d.pend k) (n := p / 2) (by omega))
    simp only [Option.getD_some]
    omega
  · exact h1
theorem Bd.crash_ok {d : Bd} (h : d.Ok) (picks : List Int) : (d.crash picks).Ok := ⟨fun r hr => by
  unfold Bd.crash at hr
  simp only [List.mem_map, List.mem_range] at hr
  obtain ⟨k, hk, rfl⟩ := hr
  unfold Bd.crashAt
  split
  · rw [List.getD_eq_getElem?_getD, List.getElem?_eq_getElem hk]
    exact h.rows _ (List.getElem_mem hk)
  · exact Bd.crashRow_len h hk (pickOf_lt _ _ _), fun _ r hr => by simp [Bd.crash, Bd.new] at hr, fun _ _ => rfl, Int.le_refl _, fun _ => Nat.zero_le _⟩
theorem Bd.crash_len (d : Bd) (picks : List Int) : (d.crash picks).good.length = d.good.length := by simp [Bd.crash]
end Go.Proofs.Ytogjbhkhdccahaa
namespace Go.Proofs.Ytogjbhkhdccahaa
def bw (a b i : Nat) : Nat := if a % 2 ^ (64 * i) < b % 2 ^ (64 * i) then 1 else 0
def Lq : Nat := 7237005577332262213973186563042994240857116359379907606001950938285454250989
def once (a : Nat) : Nat := if a < Lq then a else a - Lq
def leN : List UInt8 → Nat
  | [] => 0
  | c :: l => c.toNat + 256 * leN l
theorem leN_lt (l : List UInt8) : leN l < 256 ^ l.length := by
  induction l with
  | nil => simp [leN]
  | cons c l ih =>
    have := c.toNat_lt
    simp only [leN, List.length_cons, Nat.pow_succ]
    omega
/-- A number as so many bytes, the least first. -/
def leB (k n : Nat) : List UInt8 := (List.range k).map fun i => UInt8.ofNat (n / 2 ^ (8 * i))
theorem leB_len (k n : Nat) : (leB k n).length = k := by simp [leB]
theorem leB_get (k n i : Nat) (h : i < (leB k n).length) : (leB k n)[i] = UInt8.ofNat (n / 2 ^ (8 * i)) := by simp [leB]
theorem leB_append (j k n : Nat) : leB (j + k) n = leB j n ++ leB k (n / 2 ^ (8 * j)) := by
  apply List.ext_getElem
  · simp [leB_len]
  · intro i h1 h2
    rw [leB_get]
    by_cases h : i < j
    · rw [List.getElem_append_left (by simpa [leB_len] using h), leB_get]
    · rw [List.getElem_append_right (by simpa [leB_len] using h), leB_get, leB_len, Nat.div_div_eq_div_mul, ← Nat.pow_add]
      simp [leB_len] at h1; congr 3; omega
theorem leN_leB (k n : Nat) : leN (leB k n) = n % 2 ^ (8 * k) := by
  induction k generalizing n with
  | zero => simp [leB, leN, Nat.mod_one]
  | succ k ih =>
    rw [show k + 1 = 1 + k from by omega, leB_append, show leB 1 n = [UInt8.ofNat n] from by simp [leB], List.singleton_append, leN, ih]
    rw [show 8 * (1 + k) = 8 * 1 + 8 * k from by omega, Nat.pow_add, Nat.mod_mul]
    simp
end Go.Proofs.Ytogjbhkhdccahaa
namespace Go.Proofs.Ytogjbhkhdccahaa
/-- Eight bytes, the greatest first. -/
def beE (n : Nat) : List UInt8 := (leB 8 n).reverse
def beD (l : List UInt8) : Nat := leN (l.take 8).reverse
theorem beE_len (n : Nat) : (beE n).length = 8 := by unfold beE; rw [List.length_reverse, leB_len]
theorem beD_beE {n : Nat} (h : n < 18446744073709551616) (r : List UInt8) : beD (beE n ++ r) = n := by
  unfold beD
  rw [List.take_append_of_le_length (by rw [beE_len]; omega), List.take_of_length_le (by rw [beE_len]; omega)]
  unfold beE
  rw [List.reverse_reverse, leN_leB]
  exact Nat.mod_eq_of_lt h
def signL : List UInt8 := [77, 73, 83, 83, 73, 86, 69, 49]
def markL (i c n : Nat) : List UInt8 := signL ++ beE i ++ beE c ++ beE n
theorem markL_len (i c n : Nat) : (markL i c n).length = 32 := by simp [markL, signL, beE_len]
/-- What the first block has. -/
def mark (i c n : Nat) : List UInt8 := if c = 0 then zero64 else markL i c n ++ List.replicate 32 0
theorem mark_len (i c n : Nat) : (mark i c n).length = 64 := by
  unfold mark
  split
  · rfl
  · rw [List.length_append, markL_len, List.length_replicate]
theorem mark_low (i c n : Nat) : (mark i c n).drop 32 = List.replicate 32 0 := by
  unfold mark
  split
  · rfl
  · rw [List.drop_append_of_le_length (by rw [markL_len]; omega), List.drop_of_length_le (by rw [markL_len]; omega)]; rfl
/-- Of two marks a torn one is the new one. -/
theorem mark_torn (i c n i' c' n' : Nat) : (mark i' c' n').take 32 ++ (mark i c n).drop 32 = mark i' c' n' := by
  rw [mark_low, ← mark_low i' c' n', List.take_append_drop]
structure Bs where
  inn : Nat
  cnt : Nat
  data : List UInt8
  off : Bool
def pad64 (b : List UInt8) : List UInt8 := b ++ List.replicate ((64 - b.length % 64) % 64) 0
def rowsN (b : List UInt8) : Nat := (b.length + 63) / 64
theorem pad64_len (b : List UInt8) : (pad64 b).length = 64 * rowsN b := by
  unfold pad64 rowsN
  rw [List.length_append, List.length_replicate]
  omega
def Bd.half (d : Bd) : Nat := (d.good.length - 1) / 2
def Bd.place (d : Bd) (i k : Nat) : Nat := 1 + i * d.half + k
def rowAt (b : List UInt8) (k : Nat) : List UInt8 := (b.drop (64 * k)).take 64
/-- So many rows are written, as long as it is done; then all is flushed. -/
def Bd.wr : Nat → Bd → Nat → List UInt8 → Bd × Int
  | 0, d, _, _ => (d.flush, d.flushC)
  | n + 1, d, k, b => if d.writeC k (b.take 64) = 0 then Bd.wr n (d.write k (b.take 64)) (k + 1) (b.drop 64) else (d.write k (b.take 64), d.writeC k (b.take 64))
def Bd.bw (d : Bd) (k : Nat) (b : List UInt8) : Bd × Int := Bd.wr (rowsN b) d k (pad64 b)
/-- Saving. -/
def saveP (d : Bd) (s : Bs) (b : List UInt8) : Bd × Bs × Int :=
  if 20 * d.good.length < b.length then (d, s, 11)
  else if s.off = true then (d, s, 10)
  else if (d.bw (d.place (1 - s.inn) 0) b).2 = 0 then
    if ((d.bw (d.place (1 - s.inn) 0) b).1.bw 0 (markL (1 - s.inn) (s.cnt + 1) b.length)).2 = 0 then (((d.bw (d.place (1 - s.inn) 0) b).1.bw 0 (markL (1 - s.inn) (s.cnt + 1) b.length)).1, ⟨1 - s.inn, s.cnt + 1, b, false⟩, 0)
    else (((d.bw (d.place (1 - s.inn) 0) b).1.bw 0 (markL (1 - s.inn) (s.cnt + 1) b.length)).1, { s with off := true }, ((d.bw (d.place (1 - s.inn) 0) b).1.bw 0 (markL (1 - s.inn) (s.cnt + 1) b.length)).2)
  else ((d.bw (d.place (1 - s.inn) 0) b).1, { s with off := true }, (d.bw (d.place (1 - s.inn) 0) b).2)
/-- What a device has for good, as a store. -/
structure Gs (d : Bd) (i c : Nat) (b : List UInt8) : Prop where
  in2 : i < 2
  big : b.length ≤ 20 * d.good.length
  cnt : c < 1000000
  none : c = 0 → b = [] ∧ i = 1
  blocks : 64 ≤ d.good.length
  m : d.good.getD 0 [] = mark i c b.length
  m0 : d.pend 0 = []
  row : ∀ k, k < rowsN b → d.good.getD (d.place i k) [] = rowAt (pad64 b) k
  row0 : ∀ k, k < rowsN b → d.pend (d.place i k) = []
theorem rows_fit {d : Bd} {b : List UInt8} (hb : b.length ≤ 20 * d.good.length) (h : 64 ≤ d.good.length) : rowsN b < d.half := by unfold rowsN Bd.half; omega
theorem Gs.new {n : Nat} (h : 64 ≤ n) : Gs (Bd.new n) 1 0 [] := by
  have e : (Bd.new n).good.length = n := by simp [Bd.new]
  refine ⟨by omega, by simp, by omega, fun _ => ⟨rfl, rfl⟩, by omega, ?_, rfl, fun k hk => by simp [rowsN] at hk, fun k hk => by simp [rowsN] at hk⟩
  show (List.replicate n zero64).getD 0 [] = zero64
  rw [List.getD_eq_getElem?_getD, List.getElem?_replicate, if_pos (by omega)]; rfl
/-- Two devices with the same blocks. -/
theorem Gs.same {d d' : Bd} {i c : Nat} {b : List UInt8} (h : Gs d i c b) (hg : d'.good = d.good) (hp : d'.pend = d.pend) : Gs d' i c b := by
  have hh : ∀ k, d'.place i k = d.place i k := fun k => by unfold Bd.place Bd.half; rw [hg]
  exact ⟨h.in2, by rw [hg]; exact h.big, h.cnt, h.none, by rw [hg]; exact h.blocks, by rw [hg]; exact h.m, by rw [hp]; exact h.m0, fun k hk => by rw [hh, hg]; exact h.row k hk, fun k hk => by rw [hh, hp]; exact h.row0 k hk⟩
theorem Gs.begin {d : Bd} {i c : Nat} {b : List UInt8} (h : Gs d i c b) : Gs d.begin i c b := h.same rfl rfl
theorem Gs.cut {d : Bd} {i c : Nat} {b : List UInt8} (h : Gs d i c b) (n : Int) : Gs (d.cutAt n) i c b := h.same rfl rfl
theorem Gs.place_lt {d : Bd} {i c k : Nat} {b : List UInt8} (h : Gs d i c b) (hk : k < rowsN b) : d.place i k < d.good.length := by
  have h1 := rows_fit h.big h.blocks
  have h2 := h.in2
  have h3 := h.blocks
  unfold Bd.place
  have : i * d.half ≤ d.half := by
    have : i = 0 ∨ i = 1 := by omega
    rcases this with rfl | rfl <;> omega
  unfold Bd.half at *
  omega
theorem Bd.flushed_at {d : Bd} {k : Nat} (hk : k < d.good.length) : d.flushed.good.getD k [] = d.last k := by
  unfold Bd.flushed
  simp [List.getD_eq_getElem?_getD, hk]
theorem Bd.last_nil0 {d : Bd} {k : Nat} (h : d.pend k = []) : d.last k = d.good.getD k [] := by unfold Bd.last Bd.at; rw [h]; rfl
theorem Gs.flushed {d : Bd} {i c : Nat} {b : List UInt8} (h : Gs d i c b) : Gs d.flushed i c b := by
  have e : d.flushed.good.length = d.good.length := by simp [Bd.flushed]
  have hh : ∀ k, d.flushed.place i k = d.place i k := fun k => by unfold Bd.place Bd.half; rw [e]
  refine ⟨h.in2, by rw [e]; exact h.big, h.cnt, h.none, by rw [e]; exact h.blocks, ?_, rfl, fun k hk => ?_, fun k hk => rfl⟩
  · rw [Bd.flushed_at (by have := h.blocks; omega), Bd.last_nil0 h.m0]; exact h.m
  · rw [hh, Bd.flushed_at (h.place_lt hk), Bd.last_nil0 (h.row0 k hk)]; exact h.row k hk
theorem Gs.flush {d : Bd} {i c : Nat} {b : List UInt8} (h : Gs d i c b) : Gs d.flush i c b := by
  unfold Bd.flush
  split
  · exact h.begin
  · exact h.begin.flushed
theorem Bd.crash_at {d : Bd} {picks : List Int} {k : Nat} (hk : k < d.good.length) : (d.crash picks).good.getD k [] = d.crashAt picks k := by
  unfold Bd.crash
  simp [List.getD_eq_getElem?_getD, hk]
theorem Bd.crashAt_nil {d : Bd} {picks : List Int} {k : Nat} (h : d.pend k = []) : d.crashAt picks k = d.good.getD k [] := by unfold Bd.crashAt; rw [if_pos (.inl h)]
theorem Gs.crash {d : Bd} {i c : Nat} {b : List UInt8} (h : Gs d i c b) (picks : List Int) : Gs (d.crash picks) i c b := by
  have e := Bd.crash_len d picks
  have hh : ∀ k, (d.crash picks).place i k = d.place i k := fun k => by unfold Bd.place Bd.half; rw [e]
  refine ⟨h.in2, by rw [e]; exact h.big, h.cnt, h.none, by rw [e]; exact h.blocks, ?_, rfl, fun k hk => ?_, fun k hk => rfl⟩
  · rw [Bd.crash_at (by have := h.blocks; omega), Bd.crashAt_nil h.m0]; exact h.m
  · rw [hh, Bd.crash_at (h.place_lt hk), Bd.crashAt_nil (h.row0 k hk)]; exact h.row k hk
/-- A write elsewhere leaves it alone. -/
theorem Gs.put {d : Bd} {i c k : Nat} {b x : List UInt8} (h : Gs d i c b) (hk : k ≠ 0) (hr : ∀ j, j < rowsN b → k ≠ d.place i j) : Gs (d.put k x) i c b := by
  have hp : ∀ j, j ≠ k → (d.put k x).pend j = d.pend j := fun j hj => by unfold Bd.put; simp only; rw [if_neg hj]
  exact ⟨h.in2, h.big, h.cnt, h.none, h.blocks, h.m, by rw [hp 0 (Ne.symm hk)]; exact h.m0, h.row, fun j hj => by
    show (d.put k x).pend (d.place i j) = []
    rw [hp _ (Ne.symm (hr j hj))]; exact h.row0 j hj⟩
end Go.Proofs.Ytogjbhkhdccahaa
namespace Go.Proofs.Ytogjbhkhdccahaa
theorem Bd.write_cases {d : Bd} {k : Nat} {x : List UInt8} (hx : x.length = 64) (hk : k < d.good.length) : (d.offN = true ∧ d.write k x = d.begin ∧ d.writeC k x = 10) ∨ (d.offN = false ∧ d.write k x = d.begin.put k x ∧ d.writeC k x = 0) := by
  have hn : ¬ ((k : Int) < 0 ∨ (d.good.length : Int) ≤ k ∨ x.length ≠ 64) := by omega
  unfold Bd.write Bd.writeC
  rw [if_neg hn, if_neg hn]
  by_cases h : d.offN = true
  · rw [if_pos h, if_pos h]; exact .inl ⟨h, rfl, rfl⟩
  · rw [if_neg h, if_neg h]; exact .inr ⟨by simpa using h, rfl, rfl⟩
theorem Bd.flush_cases (d : Bd) : (d.offN = true ∧ d.flush = d.begin ∧ d.flushC = 10) ∨ (d.offN = false ∧ d.flush = d.begin.flushed ∧ d.flushC = 0) := by
  unfold Bd.flush Bd.flushC
  by_cases h : d.offN = true
  · rw [if_pos h, if_pos h]; exact .inl ⟨h, rfl, rfl⟩
  · rw [if_neg h, if_neg h]; exact .inr ⟨by simpa using h, rfl, rfl⟩
/-- What an op may change besides the blocks. -/
structure Bd.Near (d d' : Bd) (n : Nat) : Prop where
  len : d'.good.length = d.good.length
  ops : d'.ops ≤ d.ops + n
  cut : d'.cut = d.cut
  left : d.left ≤ 9223372036854775807 → d'.left ≤ 9223372036854775807
  on : d.cut = false → d.off = false → d'.off = false
  ok : d.Ok → d'.Ok
theorem Bd.Near.trans {d e f : Bd} {n m : Nat} (h : d.Near e n) (h' : e.Near f m) : d.Near f (n + m) := ⟨h'.len.trans h.len, by have := h.ops; have := h'.ops; omega, h'.cut.trans h.cut, fun x => h'.left (h.left x), fun a b => h'.on (h.cut.trans a) (h.on a b), fun x => h'.ok (h.ok x)⟩
theorem Bd.Near.more {d e : Bd} {n m : Nat} (h : d.Near e n) (hm : n ≤ m) : d.Near e m := ⟨h.len, Nat.le_trans h.ops (by omega), h.cut, h.left, h.on, h.ok⟩
theorem Bd.begin_near (d : Bd) : d.Near d.begin 1 := ⟨rfl, Nat.le_refl _, rfl, fun h => by unfold Bd.begin; simp only; split; exact h; split <;> omega, fun a b => by unfold Bd.begin Bd.offN; simp [a, b], Bd.begin_ok⟩
theorem Bd.write_near {d : Bd} {k : Nat} {x : List UInt8} (hx : x.length = 64) (hk : k < d.good.length) : d.Near (d.write k x) 1 := by
  have hb := d.begin_near
  have ho : d.Ok → (d.write k x).Ok := fun h => Bd.write_ok h _ _
  rcases Bd.write_cases hx hk with ⟨_, e, _⟩ | ⟨_, e, _⟩
  · rw [e]; exact hb
  · rw [e] at ho ⊢; exact ⟨hb.len, hb.ops, hb.cut, hb.left, hb.on, ho⟩
theorem Bd.flush_near (d : Bd) : d.Near d.flush 1 := by
  have hb := d.begin_near
  have ho : d.Ok → d.flush.Ok := Bd.flush_ok
  rcases d.flush_cases with ⟨_, e, _⟩ | ⟨_, e, _⟩
  · rw [e]; exact hb
  · rw [e] at ho ⊢; exact ⟨by simp [Bd.flushed, Bd.begin], hb.ops, hb.cut, hb.left, hb.on, ho⟩
theorem Bd.offN_on {d : Bd} (hc : d.cut = false) (ho : d.off = false) : d.offN = false := by unfold Bd.offN; simp [hc, ho]
theorem take64 {x : List UInt8} {n : Nat} (h : x.length = 64 * (n + 1)) : (x.take 64).length = 64 ∧ (x.drop 64).length = 64 * n := by
  rw [List.length_take, List.length_drop]; omega
theorem Bd.wr_near : ∀ (n : Nat) (d : Bd) (k : Nat) (x : List UInt8), x.length = 64 * n → k + n ≤ d.good.length → d.Near (Bd.wr n d k x).1 (n + 1)
  | 0, d, _, _, _, _ => d.flush_near
  | n + 1, d, k, x, hx, hk => by
    have h := take64 hx
    have hw := Bd.write_near (d := d) (k := k) h.1 (by omega)
    unfold Bd.wr
    split
    · exact (hw.trans (Bd.wr_near n _ (k + 1) _ h.2 (by rw [hw.len]; omega))).more (by omega)
    · exact hw.more (by omega)
theorem Bd.wr_code : ∀ (n : Nat) (d : Bd) (k : Nat) (x : List UInt8), x.length = 64 * n → k + n ≤ d.good.length → ((Bd.wr n d k x).2 = 0 ∨ (Bd.wr n d k x).2 = 10) ∧ (d.cut = false → d.off = false → (Bd.wr n d k x).2 = 0)
  | 0, d, _, _, _, _ => by
    show (d.flushC = 0 ∨ d.flushC = 10) ∧ _
    rcases d.flush_cases with ⟨ho, _, e⟩ | ⟨_, _, e⟩
    · exact ⟨.inr e, fun a b => by rw [Bd.offN_on a b] at ho; cases ho⟩
    · exact ⟨.inl e, fun _ _ => e⟩
  | n + 1, d, k, x, hx, hk => by
    have h := take64 hx
    have hw := Bd.write_near (d := d) (k := k) h.1 (by omega)
    have hr := Bd.wr_code n (d.write k (x.take 64)) (k + 1) _ h.2 (by rw [hw.len]; omega)
    rcases Bd.write_cases (d := d) (k := k) h.1 (by omega) with ⟨ho, _, e⟩ | ⟨_, _, e⟩
    · unfold Bd.wr
      rw [if_neg (by rw [e]; omega), e]
      exact ⟨.inr rfl, fun a b => by rw [Bd.offN_on a b] at ho; cases ho⟩
    · unfold Bd.wr
      rw [if_pos e]
      exact ⟨hr.1, fun a b => hr.2 (hw.cut.trans a) (hw.on a b)⟩
/-- Writing elsewhere leaves what is for good alone. -/
theorem Gs.wr {i c : Nat} {b : List UInt8} : ∀ (n : Nat) (d : Bd) (k : Nat) (x : List UInt8), x.length = 64 * n → k + n ≤ d.good.length → Gs d i c b → (∀ j, j < n → k + j ≠ 0 ∧ ∀ r, r < rowsN b → k + j ≠ d.place i r) → Gs (Bd.wr n d k x).1 i c b
  | 0, d, _, _, _, _, h, _ => h.flush
  | n + 1, d, k, x, hx, hk, h, ha => by
    have ht := take64 hx
    have h0 := ha 0 (by omega)
    have hw : Gs (d.write k (x.take 64)) i c b := by
      rcases Bd.write_cases (d := d) (k := k) ht.1 (by omega) with ⟨_, e, _⟩ | ⟨_, e, _⟩
      · rw [e]; exact h.begin
      · rw [e]; exact h.begin.put h0.1 h0.2
    have hn := Bd.write_near (d := d) (k := k) ht.1 (by omega)
    unfold Bd.wr
    split
    · refine Gs.wr n _ (k + 1) _ ht.2 (by rw [hn.len]; omega) hw (fun j hj => ?_)
      have h1 := ha (j + 1) (by omega)
      have hp : ∀ r, (d.write k (x.take 64)).place i r = d.place i r := fun r => by unfold Bd.place Bd.half; rw [hn.len]
      exact ⟨by omega, fun r hr => by rw [hp]; have := h1.2 r hr; omega⟩
    · exact hw
theorem Bd.put_last {d : Bd} {k j : Nat} {x : List UInt8} : (d.put k x).last j = if j = k then x else d.last j := by
  unfold Bd.last Bd.at Bd.put
  by_cases h : j = k
  · subst h; simp
  · simp [h]
theorem Bd.begin_last (d : Bd) (j : Nat) : d.begin.last j = d.last j := rfl
/-- What was written and flushed. -/
theorem Bd.wr_done : ∀ (n : Nat) (d : Bd) (k : Nat) (x : List UInt8), x.length = 64 * n → k + n ≤ d.good.length → (Bd.wr n d k x).2 = 0 →
    (Bd.wr n d k x).1.pend = (fun _ => []) ∧ ∀ j, j < d.good.length → (Bd.wr n d k x).1.good.getD j [] = if k ≤ j ∧ j < k + n then rowAt x (j - k) else d.last j
  | 0, d, k, _, _, _, h => by
    have h : d.flushC = 0 := h
    rcases d.flush_cases with ⟨_, _, e⟩ | ⟨_, e, _⟩
    · rw [e] at h; cases h
    · show d.flush.pend = _ ∧ ∀ j, _ → d.flush.good.getD j [] = _
      rw [e]
      refine ⟨rfl, fun j hj => ?_⟩
      rw [if_neg (by omega)]
      exact Bd.flushed_at hj
  | n + 1, d, k, x, hx, hk, h => by
    have ht := take64 hx
    have hn := Bd.write_near (d := d) (k := k) ht.1 (by omega)
    unfold Bd.wr at h ⊢
    rcases Bd.write_cases (d := d) (k := k) ht.1 (by omega) with ⟨_, _, e⟩ | ⟨_, ew, e⟩
    · rw [if_neg (by rw [e]; omega)] at h; rw [e] at h; cases h
    · rw [if_pos e] at h ⊢
      have hr := Bd.wr_done n _ (k + 1) _ ht.2 (by rw [hn.len]; omega) h
      refine ⟨hr.1, fun j hj => ?_⟩
      rw [hr.2 j (by rw [hn.len]; exact hj), ew, Bd.put_last, Bd.begin_last]
      by_cases h1 : j = k
      · subst h1
        rw [if_neg (by omega), if_pos rfl, if_pos (by omega)]
        simp [rowAt]
      · by_cases h2 : k ≤ j ∧ j < k + (n + 1)
        · rw [if_pos (by omega), if_pos h2]
          unfold rowAt
          rw [List.drop_drop]
          congr 2
          omega
        · rw [if_neg (by omega), if_neg h1, if_neg h2]
/-- The mark's write. -/
theorem mark_pad (i c n : Nat) : pad64 (markL i (c + 1) n) = mark i (c + 1) n ∧ rowsN (markL i (c + 1) n) = 1 := by
  unfold pad64 rowsN mark
  rw [markL_len, if_neg (by omega)]
  exact ⟨rfl, rfl⟩
/-- Behind the bytes' write, and the mark's. -/
theorem mark_write {d : Bd} {i c i' c' : Nat} {b b' : List UInt8} (hd : d.Ok) (h : Gs d i c b) (hp : d.pend = fun _ => []) (h2 : i' < 2) (hb : b'.length ≤ 20 * d.good.length) (hc : c' + 1 < 1000000)
    (hr : ∀ k, k < rowsN b' → d.good.getD (d.place i' k) [] = rowAt (pad64 b') k) :
    ((d.bw 0 (markL i' (c' + 1) b'.length)).2 = 0 ∧ Gs (d.bw 0 (markL i' (c' + 1) b'.length)).1 i' (c' + 1) b') ∨
    ((d.bw 0 (markL i' (c' + 1) b'.length)).2 = 10 ∧ ∀ picks, Gs ((d.bw 0 (markL i' (c' + 1) b'.length)).1.crash picks) i c b ∨ Gs ((d.bw 0 (markL i' (c' + 1) b'.length)).1.crash picks) i' (c' + 1) b') := by
  have hm := mark_pad i' c' b'.length
  have hbl := h.blocks
  have hl : (mark i' (c' + 1) b'.length).length = 64 := mark_len _ _ _
  have hone : d.bw 0 (markL i' (c' + 1) b'.length) = Bd.wr 1 d 0 (mark i' (c' + 1) b'.length) := by unfold Bd.bw; rw [hm.1, hm.2]
  rw [hone]
  generalize hM : mark i' (c' + 1) b'.length = M at *
  have htk : M.take 64 = M := List.take_of_length_le (by omega)
  have hrow : ∀ k, k < rowsN b' → d.place i' k < d.good.length ∧ d.place i' k ≠ 0 := fun k hk => by
    have h1 := rows_fit hb h.blocks
    unfold Bd.place
    have : i' = 0 ∨ i' = 1 := by omega
    unfold Bd.half at *
    rcases this with rfl | rfl <;> omega
  have hwr : Bd.wr 1 d 0 M = if d.writeC 0 M = 0 then ((d.write 0 M).flush, (d.write 0 M).flushC) else (d.write 0 M, d.writeC 0 M) := by
    show (if d.writeC ((0 : Nat) : Int) (M.take 64) = 0 then _ else _) = _
    rw [htk]; rfl
  rw [hwr]
  have hcs : (d.offN = true ∧ d.write 0 M = d.begin ∧ d.writeC 0 M = 10) ∨ (d.offN = false ∧ d.write 0 M = d.begin.put 0 M ∧ d.writeC 0 M = 0) := Bd.write_cases (d := d) (k := 0) (x := M) hl (by omega)
  rcases hcs with ⟨_, e, ec⟩ | ⟨_, e, ec⟩
  · rw [if_neg (by rw [ec]; omega), e, ec]
    exact .inr ⟨rfl, fun picks => .inl (h.begin.crash picks)⟩
  · rw [if_pos ec, e]
    rcases (d.begin.put 0 M).flush_cases with ⟨_, e, ec⟩ | ⟨_, e, ec⟩
    · rw [e, ec]
      refine .inr ⟨rfl, fun picks => ?_⟩
      generalize hE : (d.begin.put 0 M).begin = E
      have eg : E.good = d.good := by rw [← hE]; rfl
      have ep : ∀ j, E.pend j = if j = 0 then [M] else [] := fun j => by
        rw [← hE]
        show (if j = 0 then d.pend 0 ++ [M] else d.pend j) = _
        rw [hp]; rfl
      have el : (E.crash picks).good.length = d.good.length := by rw [Bd.crash_len, eg]
      have hpl : ∀ i k, (E.crash picks).place i k = d.place i k := fun i k => by unfold Bd.place Bd.half; rw [el]
      have hother : ∀ j, j < d.good.length → j ≠ 0 → (E.crash picks).good.getD j [] = d.good.getD j [] := fun j hj h0 => by
        rw [Bd.crash_at (by rw [eg]; exact hj), Bd.crashAt_nil (by rw [ep, if_neg h0]), eg]
      have h0 : (E.crash picks).good.getD 0 [] = d.good.getD 0 [] ∨ (E.crash picks).good.getD 0 [] = M := by
        rw [Bd.crash_at (by rw [eg]; omega)]
        unfold Bd.crashAt
        split
        · rw [eg]; exact .inl rfl
        · have hlt := pickOf_lt picks (E.before 0) (E.pend 0).length
          generalize pickOf picks (E.before 0) (E.pend 0).length = p at hlt
          have e0 : E.pend 0 = [M] := by rw [ep]; rfl
          rw [e0] at hlt
          have hp3 : p = 0 ∨ p = 1 ∨ p = 2 := by simp at hlt; omega
          unfold Bd.crashRow Bd.at
          rw [e0, eg]
          rcases hp3 with rfl | rfl | rfl
          · exact .inl rfl
          · refine .inr ?_
            show M.take 32 ++ (d.good.getD 0 []).drop 32 = M
            rw [h.m, ← hM]
            exact mark_torn _ _ _ _ _ _
          · exact .inr rfl
      rcases h0 with h0 | h0
      · exact .inl ⟨h.in2, by rw [el]; exact h.big, h.cnt, h.none, by rw [el]; exact h.blocks, h0.trans h.m, rfl, fun k hk => by
          rw [hpl, hother _ (h.place_lt hk) (by unfold Bd.place; omega)]; exact h.row k hk, fun k hk => rfl⟩
      · exact .inr ⟨h2, by rw [el]; exact hb, hc, fun h => absurd h (by omega), by rw [el]; exact h.blocks, h0.trans hM.symm, rfl, fun k hk => by
          rw [hpl, hother _ (hrow k hk).1 (hrow k hk).2]; exact hr k hk, fun k hk => rfl⟩
    · rw [e, ec]
      refine .inl ⟨rfl, ?_⟩
      generalize hE : (d.begin.put 0 M).begin.flushed = E
      have el : E.good.length = d.good.length := by rw [← hE]; simp [Bd.flushed, Bd.begin, Bd.put]
      have ep : E.pend = fun _ => [] := by rw [← hE]; rfl
      have hat : ∀ j, j < d.good.length → E.good.getD j [] = if j = 0 then M else d.good.getD j [] := fun j hj => by
        rw [← hE, Bd.flushed_at (d := (d.begin.put 0 M).begin) hj, Bd.begin_last, Bd.put_last, Bd.begin_last, Bd.last_nil0 (by rw [hp])]
      have hpl : ∀ i k, E.place i k = d.place i k := fun i k => by unfold Bd.place Bd.half; rw [el]
      exact ⟨h2, by rw [el]; exact hb, hc, fun h => absurd h (by omega), by rw [el]; exact h.blocks, by rw [hat 0 (by omega), if_pos rfl, hM], by rw [ep], fun k hk => by
        rw [hpl, hat _ (hrow k hk).1, if_neg (hrow k hk).2]; exact hr k hk, fun k hk => by rw [ep]⟩
/-- Saving: done, or cut off. -/
theorem save_law {d : Bd} {s : Bs} {b : List UInt8} (hd : d.Ok) (h : Gs d s.inn s.cnt s.data) (ho : s.off = false) (hb : b.length ≤ 20 * d.good.length) (hc : s.cnt + 1 < 1000000) :
    (((saveP d s b).2.2 = 0 ∧ (saveP d s b).2.1 = ⟨1 - s.inn, s.cnt + 1, b, false⟩ ∧ Gs (saveP d s b).1 (1 - s.inn) (s.cnt + 1) b) ∨
    ((saveP d s b).2.2 = 10 ∧ (saveP d s b).2.1 = { s with off := true } ∧ ∀ picks, Gs ((saveP d s b).1.crash picks) s.inn s.cnt s.data ∨ Gs ((saveP d s b).1.crash picks) (1 - s.inn) (s.cnt + 1) b)) ∧
    d.Near (saveP d s b).1 (rowsN b + 3) ∧ (d.cut = false → d.off = false → (saveP d s b).2.2 = 0) := by
  have hf := rows_fit hb h.blocks
  have hf0 := rows_fit h.big h.blocks
  have hin := h.in2
  have hbl := h.blocks
  have hpl : d.place (1 - s.inn) 0 + rowsN b ≤ d.good.length := by
    unfold Bd.place Bd.half at *
    have : s.inn = 0 ∨ s.inn = 1 := by omega
    rcases this with e | e <;> rw [e] <;> omega
  have hx := pad64_len b
  have hn := Bd.wr_near (rowsN b) d (d.place (1 - s.inn) 0) (pad64 b) hx hpl
  have hcode := Bd.wr_code (rowsN b) d (d.place (1 - s.inn) 0) (pad64 b) hx hpl
  have hG := Gs.wr (rowsN b) d (d.place (1 - s.inn) 0) (pad64 b) hx hpl h (fun j hj => ⟨by unfold Bd.place; omega, fun r hr => by
    unfold Bd.place Bd.half at *
    have : s.inn = 0 ∨ s.inn = 1 := by omega
    rcases this with e | e <;> rw [e] <;> omega⟩)
  have hdone := Bd.wr_done (rowsN b) d (d.place (1 - s.inn) 0) (pad64 b) hx hpl
  unfold saveP
  rw [if_neg (by omega), if_neg (by rw [ho]; simp)]
  have e1 : d.bw (d.place (1 - s.inn) 0) b = Bd.wr (rowsN b) d (d.place (1 - s.inn) 0) (pad64 b) := rfl
  rw [e1]
  generalize Bd.wr (rowsN b) d (d.place (1 - s.inn) 0) (pad64 b) = R at *
  obtain ⟨d1, c1⟩ := R
  simp only at *
  by_cases h0 : c1 = 0
  · subst h0
    rw [if_pos rfl]
    obtain ⟨hp, hrow⟩ := hdone rfl
    have hpl1 : ∀ i k, d1.place i k = d.place i k := fun i k => by unfold Bd.place Bd.half; rw [hn.len]
    have hm := mark_write (i' := 1 - s.inn) (c' := s.cnt) (b' := b) (hn.ok hd) hG hp (by omega) (by rw [hn.len]; exact hb) hc (fun k hk => by
      have h1 : d.place (1 - s.inn) k = d.place (1 - s.inn) 0 + k := by unfold Bd.place; omega
      rw [hpl1, hrow _ (by omega), if_pos (by omega)]
      congr 1
      omega)
    have hmk := mark_pad (1 - s.inn) s.cnt b.length
    have e2 : d1.bw 0 (markL (1 - s.inn) (s.cnt + 1) b.length) = Bd.wr 1 d1 0 (mark (1 - s.inn) (s.cnt + 1) b.length) := by unfold Bd.bw; rw [hmk.1, hmk.2]
    have hn2 := Bd.wr_near 1 d1 0 (mark (1 - s.inn) (s.cnt + 1) b.length) (mark_len _ _ _) (by rw [hn.len]; omega)
    have hc2 := Bd.wr_code 1 d1 0 (mark (1 - s.inn) (s.cnt + 1) b.length) (mark_len _ _ _) (by rw [hn.len]; omega)
    rw [← e2] at hn2 hc2
    have hnn := hn.trans hn2
    rcases hm with ⟨hz, hg⟩ | ⟨hz, hg⟩
    · rw [if_pos hz]
      exact ⟨.inl ⟨rfl, rfl, hg⟩, hnn.more (by omega), fun _ _ => rfl⟩
    · rw [if_neg (by rw [hz]; omega)]
      exact ⟨.inr ⟨hz, rfl, hg⟩, hnn.more (by omega), fun a b => hc2.2 (hn.cut.trans a) (hn.on a b)⟩
  · rw [if_neg h0]
    exact ⟨.inr ⟨hcode.1.resolve_left h0, rfl, fun picks => .inl (hG.crash picks)⟩, hn.more (by omega), hcode.2⟩
end Go.Proofs.Ytogjbhkhdccahaa
namespace Go.Proofs.Ytogjbhkhdccahaa
open Go Go.RowKit
/-- w' is w but for the blocks of F and new ones. -/
structure Fr (F : Nat → Prop) (w w' : World) : Prop where
  os : w'.os = w.os
  tape : w'.tape = w.tape
  output : w'.output = w.output
  size : w.heap.size ≤ w'.heap.size
  block : ∀ b, b < w.heap.size → ¬ F b → w'.heap[b]? = w.heap[b]?
theorem Fr.refl (F : Nat → Prop) (w : World) : Fr F w w := ⟨rfl, rfl, rfl, Nat.le_refl _, fun _ _ _ => rfl⟩
theorem Fr.trans {F F' : Nat → Prop} {a b c : World} (h : Fr F a b) (k : Fr F' b c) (hF : ∀ x, F' x → F x ∨ a.heap.size ≤ x) : Fr F a c :=
  ⟨k.os.trans h.os, k.tape.trans h.tape, k.output.trans h.output, Nat.le_trans h.size k.size, fun x hx hn => (k.block x (Nat.lt_of_lt_of_le hx h.size) (fun hf => by rcases hF x hf with h1 | h1; exact hn h1; omega)).trans (h.block x hx hn)⟩
theorem Fr.mono {F F' : Nat → Prop} {a b : World} (h : Fr F a b) (hF : ∀ x, F x → F' x ∨ a.heap.size ≤ x) : Fr F' a b :=
  ⟨h.os, h.tape, h.output, h.size, fun x hx hn => h.block x hx (fun hf => by rcases hF x hf with h1 | h1; exact hn h1; omega)⟩
theorem Fr.of_below {F : Nat → Prop} {w w' : World} (h : Below w.heap.size w w') : Fr F w w' := ⟨h.os, h.tape, h.output, h.size, fun b hb _ => h.block b hb⟩
theorem Fr.below {F : Nat → Prop} {w w' : World} {B : Nat} (h : Fr F w w') (hB : B ≤ w.heap.size) (hF : ∀ x, F x → B ≤ x) : Below B w w' :=
  ⟨h.os, h.tape, h.output, h.size, fun b hb => h.block b (by omega) (fun hf => by have := hF b hf; omega)⟩
theorem Fr.call {F : Nat → Prop} {a w w' : World} (h : Fr F a w) (hb : Below w.heap.size w w') : Fr F a w' := h.trans (F' := fun _ => False) (.of_below hb) (fun _ hf => hf.elim)
theorem Fr.alloc {F : Nat → Prop} {a w : World} (h : Fr F a w) (o : Obj) : Fr F a (w.alloc o) := h.call ((Below.refl _ _).alloc (Nat.le_refl _) o)
theorem Fr.drew {F : Nat → Prop} {a w : World} (h : Fr F a w) : Fr F a w.drew := h.call (Below.refl _ _).drew
theorem Fr.setCell {F : Nat → Prop} {a w : World} {g o : Nat} (h : Fr F a w) (hg : F g ∨ a.heap.size ≤ g) (v : Value) : Fr F a (w.setCell ⟨g, o, none⟩ v) :=
  h.trans (F' := fun x => x = g) ⟨rfl, rfl, rfl, by simp, fun b _ hn => Below.heap_setCell w ⟨g, o, none⟩ v b hn⟩ (fun x hx => by cases hx; exact hg)
theorem Fr.grown {F : Nat → Prop} {a w w' : World} {row : Option Nat} (h : Fr F a w) (hg : w.grownBy w' row) (hr : ∀ k, row = some k → F k ∨ a.heap.size ≤ k) : Fr F a w' :=
  h.trans (F' := fun x => row = some x) ⟨hg.os, hg.tape, hg.output, hg.size, fun b hb hn => hg.block b hb (fun e => hn e.symm)⟩ (fun x hx => hr x hx)
theorem Fr.cell {F : Nat → Prop} {w w' : World} (h : Fr F w w') {p : Addr} (hp : p.block < w.heap.size) (hF : ¬ F p.block) : w'.cell? p = w.cell? p := World.cell?_of_block (w := w) (h.block p.block hp hF)
theorem Fr.frozen {F : Nat → Prop} {w w' : World} (h : Fr F w w') {p : Addr} (hp : p.block < w.heap.size) (hF : ¬ F p.block) : w'.frozen? p = w.frozen? p := World.frozen?_of_block (w := w) (h.block p.block hp hF)
theorem Fr.blk {F : Nat → Prop} {w w' : World} (h : Fr F w w') {g E : Nat} {cs : List Value} (hb : Blk w g cs E) (hF : ¬ F g) : Blk w' g cs E := by
  have hl := hb.lt
  unfold Blk at *
  rw [h.block g hl hF]; exact hb
theorem Fr.rd {F : Nat → Prop} {w w' : World} (h : Fr F w w') {a : Option Addr} {n cap : Nat} {l : List UInt8} (hr : RdB w a n cap l) (hF : ∀ p, a = some p → ¬ F p.block) : RdB w' a n cap l :=
  ⟨hr.hlen, hr.hcap, hr.hmax, fun i hi => by
    obtain ⟨b, o, e, hc⟩ := hr.get i hi
    exact ⟨b, o, e, (h.cell (p := ⟨b, o + i, none⟩) (cell_lt hc) (hF ⟨b, o, none⟩ e)).trans hc⟩, hr.hnil⟩
end Go.Proofs.Ytogjbhkhdccahaa
namespace Go.Proofs.Ytogjbhkhdccahaa
open Go.RowKit
theorem infoU8 : (Try.prog.info? 5).map (fun i => (i.zero, i.size, i.bytes)) = some (some (.int .u8 0), 1, 1) := by kernel_rfl
structure Cy (x : Int) : Prop where
  lo : 0 ≤ x
  hi : x ≤ 1
theorem Cy.zero : Cy 0 := ⟨by omega, by omega⟩
/-- An append of bytes to a slice of the call's own. -/
theorem app_bytes (w : World) {ops : Array Oper} {rest : List Oper} {o : Oper} {a : Act} {Q : Exit → Act → World → Prop} (hgd : o.guard = none) (s x : Operand)
    (ho : o.op = .call { callee := .builtin .append, args := #[s, x], argTypes := #[28, 28] }) (base : Nat) (v : Value) (n : Nat) (l : List UInt8) (hs : a.eval s = v) (hown : w.ownsRow base 5 1 v n (l.map bV))
    (sa : Option Addr) (m sc : Nat) (r : List UInt8) (hx : a.eval x = .slice sa m sc) (hr : RdB w sa m sc r) (hlen : n + m ≤ 70368744177664) (hbase : base ≤ w.heap.size) (w0 : World) (hb0 : Below base w0 w)
    (h : ∀ v' w', w'.ownsRow base 5 1 v' (n + m) ((l ++ r).map bV) → Below base w0 w' → wpList Try.prog ops Q rest (a.put o.dst v') w') : wpList Try.prog ops Q (o :: rest) a w := by
  obtain ⟨i0, hi, hz0, hz1, hz2⟩ := info_parts (show (Try.prog.info? 5).map (fun i => (i.zero, i.size, i.bytes)) = some (some (.int .u8 0), 1, 1) from by kernel_rfl)
  cases sa with
  | none =>
    obtain rfl := hr.hnil rfl
    obtain rfl : m = 0 := by have := hr.hcap; omega
    obtain rfl : r = [] := List.eq_nil_of_length_eq_zero hr.hlen
    refine wpList_append_own_none hgd s x 28 ho base 5 i0 1 Try.underlying28 hi v n (l.map bV) hs hown hx ?_
    exact h v w (by simpa using hown) hb0
  | some ad =>
    refine wpList_append_own w hgd s x 28 ho base 5 i0 (.int .u8 0) 1 1 Try.underlying28 hi hz0 hz1 hz2 rfl (by decide) v n (l.map bV) hs hown ad m sc (r.map bV) hx (by simp [hr.hlen]) ?_ ?_ (by unfold maxLen; omega) (by omega) hbase ?_
    · intro j u hu
      obtain ⟨hj, hv⟩ := List.getElem?_eq_some_iff.1 hu
      simp at hj
      obtain ⟨b, q, hab, hc⟩ := hr.get j hj
      simp at hab
      subst hab
      rw [show Addr.add ⟨b, q, none⟩ j = ⟨b, q + j, none⟩ from by unfold Addr.add; split <;> simp_all, hc, ← hv]
      simp
    · intro u hu
      simp at hu
      obtain ⟨c, _, rfl⟩ := hu
      rfl
    · intro v' w' hown' hgr _
      rw [← List.map_append] at hown'
      refine h v' w' hown' (hb0.grown hgr hbase fun q hq => ?_)
      rcases hown.2 with ⟨h, _⟩ | ⟨g, cap, cur, hv, hg, _⟩
      · rw [h] at hq; simp [Value.ownBlock] at hq
      · rw [hv] at hq; simp [Value.ownBlock] at hq; omega
/-- So many bytes, with noughts for those that are wanting. -/
def first (l : List UInt8) (k : Nat) : List UInt8 := l.take k ++ List.replicate (k - l.length) 0
theorem first_len (l : List UInt8) (k : Nat) : (first l k).length = k := by unfold first; simp; omega
theorem addr_add (b o j : Nat) : Addr.add ⟨b, o, none⟩ j = ⟨b, o + j, none⟩ := by
  unfold Addr.add; split
  · rename_i h; subst h; rfl
  · rfl
theorem make8 (w : World) : (Instr.makeSlice 28 (.int .i64 8) (.int .i64 8)).run Try.prog w = .ok (.slice (some ⟨w.heap.size, 0, none⟩) 8 8) (w.alloc (.cells #[.int .u8 0, .int .u8 0, .int .u8 0, .int .u8 0, .int .u8 0, .int .u8 0, .int .u8 0, .int .u8 0] 5)) := by kernel_rfl
theorem le64_cells (n : Nat) (hn : n < 18446744073709551616) : (leB 8 n).map bV = [.int .u8 ((n : Int) % 256), .int .u8 ((n : Int) / 256 % 256), .int .u8 ((n : Int) / 65536 % 256), .int .u8 ((n : Int) / 16777216 % 256), .int .u8 ((n : Int) / 4294967296 % 256),
    .int .u8 ((n : Int) / 1099511627776 % 256), .int .u8 ((n : Int) / 281474976710656 % 256), .int .u8 ((n : Int) / 72057594037927936)] := by
  have h : n / 72057594037927936 % 256 = n / 72057594037927936 := by omega
  simp [leB, bV, List.range, List.range.loop]
  omega
set_option maxRecDepth 100000 in
set_option maxHeartbeats 400000 in
theorem little_any {n : Nat} (hn : n < 18446744073709551616) (w : World) :
    Calls Try.prog 36 #[.int .u64 n] w fun e w' => e = .returned (.slice (some ⟨w.heap.size, 0, none⟩) 8 8) ∧ Blk w' w.heap.size ((leB 8 n).map bV) 5 ∧ Below w.heap.size w w' := by
  have hn0 : (0 : Int) ≤ (n : Int) := by omega
  have hn1 : (n : Int) < 18446744073709551616 := by omega
  have hmk := make8
  go_enter Try.func36, Try.ntmps36
  go_wp2
  refine wp_loop_rounds 9 ?_
  iterate 9 (rw [rounds_succ]; go_wp2)
  go_ret
  refine ⟨rfl, ?_, (Below.refl _ _).alloc (Nat.le_refl _) _⟩
  rw [le64_cells n hn]
  exact Blk.new w _ _
end Go.Proofs.Ytogjbhkhdccahaa
namespace Go.Proofs.Ytogjbhkhdccahaa
open Go.RowKit
theorem Blk.row {w : World} {g E : Nat} {old : List Value} (h : Blk w g old E) (cs : List Value) : Blk (w.setRow g cs.toArray) g cs E := setRow_heap w g _ cs.toArray E _ h
theorem Blk.range {w : World} {g E : Nat} {cs : List Value} (h : Blk w g cs E) : w.rangeAt g 0 cs := fun j v hv => by rw [Nat.zero_add, h.cell]; exact hv
end Go.Proofs.Ytogjbhkhdccahaa
namespace Go.Proofs.Ytogjbhkhdccahaa
open Go Go.RowKit
/-- A new empty slice of the call's own. -/
theorem own_none (w : World) (E : TypeId) (base : Nat) (hb : base ≤ w.heap.size) : (w.alloc (.cells #[] E)).ownsRow base E 1 (.slice (some ⟨w.heap.size, 0, none⟩) 0 0) 0 [] :=
  ⟨rfl, .inr ⟨w.heap.size, 0, #[], rfl, hb, (by show (w.heap.push _)[w.heap.size]? = _; simp), by omega, by simp, rfl, rfl⟩⟩
theorem run_eqIn_nilB (w : World) (d : Nat) (a : Option Addr) (l c : Nat) : (Op.equalIn (d + 1) 28 (.slice a l c) (.slice none 0 0)).run Try.prog w = .ok a.isNone w := by
  cases a <;> simp [Op.equalIn, run_underlying Try.underlying28]
theorem run_eq_nilB (w : World) (a : Option Addr) (l c : Nat) : (Op.equal 28 (.slice a l c) (.slice none 0 0)).run Try.prog w = .ok a.isNone w := run_eqIn_nilB w 9999 a l c
theorem run_eql_nilB (a : Option Addr) (l c : Nat) (w : World) : (binOp .eql 28 (.slice a l c) (.slice none 0 0)).run Try.prog w = .ok (.bool a.isNone) w := by
  simp [binOp, run_eq_nilB w a l c]
end Go.Proofs.Ytogjbhkhdccahaa
namespace Go.Proofs.Ytogjbhkhdccahaa
open Go Go.RowKit Go.Maps
/-- The cells of rows of bytes. -/
def rowsV (l : List (List UInt8)) : List Value := l.flatten.map bV
/-- A map's element is itself: a slice. -/
def hR (v : Value) : Option (DataW Value × List MemPlace) := match v with
  | .slice _ _ _ => some (.held v, [])
  | _ => none
def nilS : Value := .slice none 0 0
/-- The writes that are pending, in the map's slices. -/
structure PendR (w : World) (pend : Nat → List (List UInt8)) (D : DataW Value) (F : Nat → Prop) : Prop where
  keys : ∀ kl, has D kl = true → ∃ k : Nat, kl = .int .i64 k
  no : ∀ k : Nat, pend k = [] → has D (.int .i64 k) = false
  yes : ∀ k : Nat, pend k ≠ [] → has D (.int .i64 k) = true
  row : ∀ k : Nat, pend k ≠ [] → ∃ b c r, D.atKey (.int .i64 k) (.held nilS) = .held (.slice (some ⟨b, 0, none⟩) (pend k).length c) ∧ Blk w b (rowsV (pend k) ++ r) 67 ∧ (rowsV (pend k) ++ r).length = c * 64 ∧ (pend k).length ≤ c ∧ c ≤ maxLen ∧ F b
  apart : ∀ j k : Nat, ∀ b n c n' c', D.atKey (.int .i64 j) (.held nilS) = .held (.slice (some ⟨b, 0, none⟩) n c) → D.atKey (.int .i64 k) (.held nilS) = .held (.slice (some ⟨b, 0, none⟩) n' c') → j = k
/-- What a device's variable leads to: the blocks' cells, the map. -/
structure DvRest (w : World) (g gb c mb : Nat) (good : List (List UInt8)) (pend : Nat → List (List UInt8)) (ops : Nat) (F : Nat → Prop) : Prop where
  ex : ∃ m r D G, Blk w gb (rowsV good ++ r) 67 ∧ good.length ≤ c ∧ c ≤ maxLen ∧ w.ownsMap Try.prog 3 hR mb m D ∧ m ≤ ops ∧ PendR w pend D G ∧
    g ≠ gb ∧ g ≠ mb ∧ gb ≠ mb ∧ (∀ x, F x ↔ x = g ∨ x = gb ∨ x = mb ∨ G x) ∧ ¬ G g ∧ ¬ G gb ∧ ¬ G mb ∧ (∀ x, G x → x < w.heap.size)
/-- The cells of a device's variable. -/
def dvS (gb c mb : Nat) (d : Bd) : List Value := [.slice (some ⟨gb, 0, none⟩) d.good.length c, .map (some mb), .int .i64 (d.ops : Nat), .int .i64 d.left, .bool d.cut, .bool d.off]
/-- The device at block g is d; F: the blocks that are its own. -/
structure Dv (w : World) (g : Nat) (d : Bd) (F : Nat → Prop) : Prop where
  ok : d.Ok
  ex : ∃ gb c mb, Blk w g (dvS gb c mb d) 61 ∧ DvRest w g gb c mb d.good d.pend d.ops F
theorem rowsV_len {l : List (List UInt8)} (h : ∀ r ∈ l, r.length = 64) : (rowsV l).length = 64 * l.length := by
  unfold rowsV
  rw [List.length_map]
  induction l with
  | nil => rfl
  | cons a l ih =>
    rw [List.flatten_cons, List.length_append, ih (fun r hr => h r (List.mem_cons_of_mem _ hr)), h a List.mem_cons_self, List.length_cons]
    omega
theorem ownsMap_frame {F : Nat → Prop} {w w' : World} (h : Fr F w w') {mb m : Nat} {D : DataW Value} (ho : w.ownsMap Try.prog 3 hR mb m D) (hF : ¬ F mb) : w'.ownsMap Try.prog 3 hR mb m D := by
  have hlt := ho.lt
  obtain ⟨es, clock, hb, Ft, hs, hD⟩ := ho
  exact ⟨es, clock, (h.block mb hlt hF).trans hb, Ft, hs, hD⟩
theorem PendR.frame {F : Nat → Prop} {w w' : World} {pend : Nat → List (List UInt8)} {D : DataW Value} {G : Nat → Prop} (h : PendR w pend D G) (hf : Fr F w w') (hF : ∀ x, G x → ¬ F x) : PendR w' pend D G :=
  ⟨h.keys, h.no, h.yes, fun k hk => by
    obtain ⟨b, c, r, e, hb, h1, h2, h3, h4⟩ := h.row k hk
    exact ⟨b, c, r, e, hf.blk hb (hF b h4), h1, h2, h3, h4⟩, h.apart⟩
theorem DvRest.frame {w w' : World} {g gb c mb ops : Nat} {good : List (List UInt8)} {pend : Nat → List (List UInt8)} {F F' : Nat → Prop} (h : DvRest w g gb c mb good pend ops F) (hf : Fr F' w w') (hF : ∀ x, F x → x ≠ g → ¬ F' x) : DvRest w' g gb c mb good pend ops F := by
  obtain ⟨m, r, D, G, h2, h3, h4, h5, h6, h7, n1, n2, n3, hx, n4, n5, n6, h8⟩ := h.ex
  have fgb := hF gb ((hx gb).2 (.inr (.inl rfl))) (Ne.symm n1)
  have fmb := hF mb ((hx mb).2 (.inr (.inr (.inl rfl)))) (Ne.symm n2)
  exact ⟨m, r, D, G, hf.blk h2 fgb, h3, h4, ownsMap_frame hf h5 fmb, h6, h7.frame hf (fun x hg => hF x ((hx x).2 (.inr (.inr (.inr hg)))) (fun e => n4 (e ▸ hg))), n1, n2, n3, hx, n4, n5, n6, fun x hg => Nat.lt_of_lt_of_le (h8 x hg) hf.size⟩
theorem DvRest.ops {w : World} {g gb c mb ops ops' : Nat} {good : List (List UInt8)} {pend : Nat → List (List UInt8)} {F : Nat → Prop} (h : DvRest w g gb c mb good pend ops F) (ho : ops ≤ ops') : DvRest w g gb c mb good pend ops' F := by
  obtain ⟨m, r, D, G, h2, h3, h4, h5, h6, h7⟩ := h.ex
  exact ⟨m, r, D, G, h2, h3, h4, h5, by omega, h7⟩
theorem DvRest.own {w : World} {g gb c mb ops : Nat} {good : List (List UInt8)} {pend : Nat → List (List UInt8)} {F : Nat → Prop} (h : DvRest w g gb c mb good pend ops F) : F g := by
  obtain ⟨m, r, D, G, h2, h3, h4, h5, h6, h7, n1, n2, n3, hx, _⟩ := h.ex
  exact (hx g).2 (.inl rfl)
/-- What happens elsewhere leaves a device alone. -/
theorem Dv.frame {w w' : World} {g : Nat} {d : Bd} {F F' : Nat → Prop} (h : Dv w g d F) (hf : Fr F' w w') (hF : ∀ x, F x → ¬ F' x) : Dv w' g d F := by
  refine ⟨h.ok, ?_⟩
  obtain ⟨gb, c, mb, h1, hR⟩ := h.ex
  exact ⟨gb, c, mb, hf.blk h1 (hF g hR.own), hR.frame hf (fun x hx _ => hF x hx)⟩
theorem Dv.later {w w' : World} {g : Nat} {d : Bd} {F : Nat → Prop} (h : Dv w g d F) (hb : Below w.heap.size w w') : Dv w' g d F := h.frame (F' := fun _ => False) (.of_below hb) (fun _ _ hf => hf)
theorem Dv.lt {w : World} {g : Nat} {d : Bd} {F : Nat → Prop} (h : Dv w g d F) : ∀ x, F x → x < w.heap.size := by
  obtain ⟨gb, c, mb, h1, hR⟩ := h.ex
  obtain ⟨m, r, D, G, h2, h3, h4, h5, h6, h7, n1, n2, n3, hx, n4, n5, n6, h8⟩ := hR.ex
  intro x hF
  rcases (hx x).1 hF with rfl | rfl | rfl | hg
  · exact h1.lt
  · exact h2.lt
  · exact h5.lt
  · exact h8 x hg
/-- The variable is turned alone. -/
theorem Dv.turn {w w' : World} {g : Nat} {d d' : Bd} {F : Nat → Prop} (h : Dv w g d F) (hf : Fr (fun x => x = g) w w') (hok : d'.Ok) (hg : d'.good = d.good) (hp : d'.pend = d.pend) (ho : d.ops ≤ d'.ops)
    (hB : ∀ gb c mb, Blk w g (dvS gb c mb d) 61 → Blk w' g (dvS gb c mb d') 61) : Dv w' g d' F := by
  refine ⟨hok, ?_⟩
  obtain ⟨gb, c, mb, h1, hR⟩ := h.ex
  rw [hg, hp]
  exact ⟨gb, c, mb, hB gb c mb h1, (hR.frame hf (fun x _ hne e => hne e)).ops ho⟩
theorem Fr.one {w0 w : World} {g o : Nat} (h : Fr (fun x => x = g) w0 w) (v : Value) : Fr (fun x => x = g) w0 (w.setCell ⟨g, o, none⟩ v) := h.setCell (.inl rfl) v
/-- The device's own variable. -/
structure DvC (w : World) (g : Nat) (d : Bd) : Prop where
  fr : ∀ i, w.frozen? ⟨g, i, none⟩ = false
  c2 : w.cell? ⟨g, 2, none⟩ = some (.int .i64 (d.ops : Nat))
  c3 : w.cell? ⟨g, 3, none⟩ = some (.int .i64 d.left)
  c4 : w.cell? ⟨g, 4, none⟩ = some (.bool d.cut)
  c5 : w.cell? ⟨g, 5, none⟩ = some (.bool d.off)
  c0 : ∃ gb c, w.cell? ⟨g, 0, none⟩ = some (.slice (some ⟨gb, 0, none⟩) d.good.length c)
theorem Dv.cells {w : World} {g : Nat} {d : Bd} {F : Nat → Prop} (h : Dv w g d F) : DvC w g d := by
  obtain ⟨gb, c, mb, h1, _⟩ := h.ex
  exact ⟨h1.frozen, h1.cell 2, h1.cell 3, h1.cell 4, h1.cell 5, gb, c, h1.cell 0⟩
set_option maxRecDepth 100000 in
set_option maxHeartbeats 400000 in
theorem bLen_any {w : World} {g : Nat} {d : Bd} {F : Nat → Prop} (h : Dv w g d F) : Calls Try.prog 23 #[.pointer (some ⟨g, 0, none⟩)] w fun e w' => e = .returned (.int .i64 (d.good.length : Nat)) ∧ w = w' := by
  obtain ⟨gb, c, c0⟩ := h.cells.c0
  clear h
  go_enter Try.func23, Try.ntmps23
  go_wp2
  go_ret
  exact ⟨rfl, rfl⟩
set_option maxRecDepth 100000 in
set_option maxHeartbeats 400000 in
theorem bLen_nil (w : World) : Calls Try.prog 23 #[.pointer none] w fun e w' => e = .returned (.int .i64 0) ∧ w = w' := by
  go_enter Try.func23, Try.ntmps23
  go_wp2
  go_ret
  exact ⟨rfl, rfl⟩
set_option maxRecDepth 100000 in
set_option maxHeartbeats 400000 in
theorem bCut_any {w : World} {g : Nat} {d : Bd} {n : Int} {F : Nat → Prop} (h : Dv w g d F) : Calls Try.prog 22 #[.pointer (some ⟨g, 0, none⟩), .int .i64 n] w fun e w' => e = .returned (.tuple #[]) ∧ Dv w' g (d.cutAt n) F ∧ Fr (fun x => x = g) w w' := by
  have c3 := h.cells.c3
  have c4 := h.cells.c4
  have hf := h.cells.fr
  have HD := Lib.hid h
  have hmx : (if n < 0 then (0 : Int) else n) = max n 0 := by split <;> omega
  clear h
  go_enter Try.func22, Try.ntmps22
  go_wp2
  exact bodyPost_end (results_none Try.results22 _ _ _) rfl ⟨rfl, HD.out.turn ((Fr.refl _ _).one _ |>.one _) (Bd.cutAt_ok HD.out.ok n) rfl rfl (Nat.le_refl _) (fun gb c mb hB => (hB.set 3 (.int .i64 (max n 0))).set 4 (.bool true)), (Fr.refl _ _).one _ |>.one _⟩
theorem begin_off {d : Bd} (h : d.off = true) : d.offN = true ∧ d.begin = { d with ops := d.ops + 1, off := true } := by
  have e : d.offN = true := by unfold Bd.offN; rw [h]; rfl
  exact ⟨e, by unfold Bd.begin; rw [e]; simp⟩
theorem begin_uncut {d : Bd} (h : d.off = false) (hc : d.cut = false) : d.offN = false ∧ d.begin = { d with ops := d.ops + 1, off := false } := by
  have e : d.offN = false := by unfold Bd.offN; rw [h, hc]; rfl
  exact ⟨e, by unfold Bd.begin; rw [e, hc]; simp⟩
theorem begin_none {d : Bd} (h : d.off = false) (hc : d.cut = true) (hl : d.left < 1) : d.offN = true ∧ d.begin = { d with ops := d.ops + 1, off := true } := by
  have e : d.offN = true := by unfold Bd.offN; rw [h, hc]; simpa using hl
  exact ⟨e, by unfold Bd.begin; rw [e]; simp⟩
theorem begin_some {d : Bd} (h : d.off = false) (hc : d.cut = true) (hl : ¬ d.left < 1) : d.offN = false ∧ d.begin = { d with ops := d.ops + 1, off := false, left := d.left - 1 } := by
  have e : d.offN = false := by unfold Bd.offN; rw [h, hc]; simpa using Int.not_lt.1 hl
  exact ⟨e, by unfold Bd.begin; rw [e, hc]; simp⟩
set_option maxRecDepth 100000 in
set_option maxHeartbeats 1000000 in
theorem bBegin_any {w : World} {g : Nat} {d : Bd} {F : Nat → Prop} (h : Dv w g d F) (ho : d.ops < 1000000) (hl2 : d.left ≤ 9223372036854775807) : Calls Try.prog 39 #[.pointer (some ⟨g, 0, none⟩)] w fun e w' => e = .returned (.bool (!d.offN)) ∧ Dv w' g d.begin F ∧ Fr (fun x => x = g) w w' ∧ (∀ gb c mb, Blk w g (dvS gb c mb d) 61 → Blk w' g (dvS gb c mb d.begin) 61) := by
  have c2 := h.cells.c2
  have c3 := h.cells.c3
  have c4 := h.cells.c4
  have c5 := h.cells.c5
  have hf := h.cells.fr
  have HD := Lib.hid h
  have hl0 := h.ok.left
  have hops : (d.ops : Int) < 1000000 := by omega
  have hop0 : (0 : Int) ≤ (d.ops : Int) := by omega
  have hw : IntKind.i64.wrap ((d.ops : Int) + 1) = ((d.ops + 1 : Nat) : Int) := by rw [IntKind.wrap_i64]; omega
  clear h ho
  by_cases h5 : d.off = true
  · have HB := Lib.hid (begin_off h5)
    rw [h5] at c5
    clear h5 hl2 hl0
    go_enter Try.func39, Try.ntmps39
    go_wp2
    go_ret
    exact ⟨by rw [HB.out.1]; rfl, by rw [HB.out.2]; exact HD.out.turn ((Fr.refl _ _).one _ |>.one _) (by rw [← HB.out.2]; exact Bd.begin_ok HD.out.ok) rfl rfl (Nat.le_succ _) (fun gb c mb hB => (hB.set 2 (.int .i64 ((d.ops : Int) + 1))).set 5 (.bool true)), (Fr.refl _ _).one _ |>.one _, fun gb c mb hB => by rw [HB.out.2]; exact (hB.set 2 (.int .i64 ((d.ops : Int) + 1))).set 5 (.bool true)⟩
  · have h5 : d.off = false := by simpa using h5
    rw [h5] at c5
    by_cases h4 : d.cut = true
    · rw [h4] at c4
      by_cases h3 : d.left < 1
      · have HB := Lib.hid (begin_none h5 h4 h3)
        have hd : decide (d.left < 1) = true := decide_eq_true h3
        have HE := Lib.hid h4
        clear h5 h4 hl2 hl0 h3
        go_enter Try.func39, Try.ntmps39
        go_wp2
        go_ret
        exact ⟨by rw [HB.out.1]; rfl, by rw [HB.out.2]; exact HD.out.turn ((Fr.refl _ _).one _ |>.one _) (by rw [← HB.out.2]; exact Bd.begin_ok HD.out.ok) rfl rfl (Nat.le_succ _) (fun gb c mb hB => (hB.set 2 (.int .i64 ((d.ops : Int) + 1))).set 5 (.bool true)), (Fr.refl _ _).one _ |>.one _, fun gb c mb hB => by rw [HB.out.2]; exact (hB.set 2 (.int .i64 ((d.ops : Int) + 1))).set 5 (.bool true)⟩
      · have HB := Lib.hid (begin_some h5 h4 h3)
        have hd : decide (d.left < 1) = false := decide_eq_false h3
        have hw3 : IntKind.i64.wrap (d.left - 1) = d.left - 1 := by rw [IntKind.wrap_i64]; omega
        clear h5 h4 hl2 hl0 h3
        go_enter Try.func39, Try.ntmps39
        go_wp2
        go_ret
        exact ⟨by rw [HB.out.1]; rfl, by rw [HB.out.2]; exact HD.out.turn ((Fr.refl _ _).one _ |>.one _ |>.one _) (by rw [← HB.out.2]; exact Bd.begin_ok HD.out.ok) rfl rfl (Nat.le_succ _) (fun gb c mb hB => ((hB.set 2 (.int .i64 ((d.ops : Int) + 1))).set 5 (.bool false)).set 3 (.int .i64 (d.left - 1))), (Fr.refl _ _).one _ |>.one _ |>.one _, fun gb c mb hB => by rw [HB.out.2]; exact ((hB.set 2 (.int .i64 ((d.ops : Int) + 1))).set 5 (.bool false)).set 3 (.int .i64 (d.left - 1))⟩
    · have h4 : d.cut = false := by simpa using h4
      rw [h4] at c4
      have HB := Lib.hid (begin_uncut h5 h4)
      clear h5 h4 hl2 hl0
      go_enter Try.func39, Try.ntmps39
      go_wp2
      go_ret
      exact ⟨by rw [HB.out.1]; rfl, by rw [HB.out.2]; exact HD.out.turn ((Fr.refl _ _).one _ |>.one _) (by rw [← HB.out.2]; exact Bd.begin_ok HD.out.ok) rfl rfl (Nat.le_succ _) (fun gb c mb hB => (hB.set 2 (.int .i64 ((d.ops : Int) + 1))).set 5 (.bool false)), (Fr.refl _ _).one _ |>.one _, fun gb c mb hB => by rw [HB.out.2]; exact (hB.set 2 (.int .i64 ((d.ops : Int) + 1))).set 5 (.bool false)⟩
end Go.Proofs.Ytogjbhkhdccahaa
namespace Go.Proofs.Ytogjbhkhdccahaa
open Go Go.RowKit
section
variable {P : Program} {ops : Array Oper} {Q : Exit → Act → World → Prop} {md : Region.Mode}
/-- Each operation waits only for earlier ones. -/
def earlier (md : Region.Mode) (ops : Array Oper) : Bool :=
  (List.range ops.size).all fun i => ((ops[i]?).map fun o => o.after.all fun e => !Region.binds md e || decide (e.on < i)).getD true
theorem earlier_spec (h : earlier md ops = true) {i : Nat} {o : Oper} (ho : ops[i]? = some o) {e : Edge} (he : e ∈ o.after) (hb : Region.binds md e = true) : e.on < i := by
  have hlt : i < ops.size := (Array.getElem?_eq_some_iff.1 ho).1
  unfold earlier at h
  rw [List.all_eq_true] at h
  have h1 := h i (by simpa using hlt)
  simp only [ho, Option.map_some, Option.getD_some, Array.all_eq_true_iff_forall_mem, Bool.or_eq_true, Bool.not_eq_true', decide_eq_true_eq] at h1
  rcases h1 e he with h2 | h2
  · rw [h2] at hb; cases hb
  · exact h2
/-- Operation i has come up, too. -/
def putL (L : Nat → Bool) (i : Nat) : Nat → Bool := fun j => if j = i then true else L j
theorem putL_same (L : Nat → Bool) (i : Nat) : putL L i i = true := by simp [putL]
theorem putL_ne {L : Nat → Bool} {i j : Nat} (h : j ≠ i) : putL L i j = L j := by simp [putL, h]
theorem putL_old {L : Nat → Bool} {i j : Nat} (h : L j = true) : putL L i j = true := by unfold putL; split <;> simp [h]
def lsL (listed : Array Bool) : Nat → Bool := fun j => listed.getD j false
theorem lsL_none (n : Nat) : lsL (Array.replicate n false) = fun _ => false := by
  funext j
  unfold lsL
  rw [Array.getD_eq_getD_getElem?]
  by_cases h : j < n
  · simp [h]
  · rw [Array.getElem?_eq_none (by simpa using h)]; rfl
theorem lsL_up {listed : Array Bool} {i : Nat} (hi : i < listed.size) : lsL (listed.setIfInBounds i true) = putL (lsL listed) i := by
  funext j
  unfold lsL putL
  by_cases h : j = i
  · subst h; simp [hi]
  · rw [if_neg h]; exact getD_set_ne false (Ne.symm h)
theorem ready_least (he : earlier md ops = true) {listed : Array Bool} (hs : listed.size = ops.size) (hr : Region.ready md ops listed = []) :
    ∀ i, i < ops.size → lsL listed i = true := by
  intro i
  induction i using Nat.strongRecOn with
  | _ i ih =>
    intro hi
    cases h : lsL listed i with
    | true => rfl
    | false =>
      have : i ∈ Region.ready md ops listed := by
        rw [mem_ready]
        refine ⟨?_, ops[i], by simp [hi], fun e he' hb => ?_⟩
        · unfold lsL at h; simpa [show i < listed.size by omega] using h
        · have := earlier_spec he (i := i) (o := ops[i]) (by simp [hi]) he' hb
          exact ih _ this (by omega)
      rw [hr] at this; cases this
/-- The invariant I holds at the beginning, each operation keeps it, and what follows is shown from it: whatever the order. -/
theorem wpAny_inv (he : earlier md ops = true) (I : (Nat → Bool) → Act → World → Prop)
    (hstep : ∀ i o, ops[i]? = some o → ∀ L a w, I L a w → L i = false → (∀ e ∈ o.after, Region.binds md e = true → L e.on = true) → wpOp P ops Q i (fun a' w' => I (putL L i) a' w') a w)
    (hdone : ∀ L a w, (∀ i, i < ops.size → L i = true) → I L a w → Q .normal a w) :
    ∀ fuel (listed : Array Bool) a w, listed.size = ops.size → listed.count false ≤ fuel → I (lsL listed) a w → wpAny P md ops Q fuel listed a w := by
  intro fuel
  induction fuel with
  | zero =>
    intro listed a w hs hc hI
    have hall : ∀ i, i < ops.size → lsL listed i = true := fun i hi => by
      have h0 : listed.count false = 0 := by omega
      have hn : false ∉ listed := Array.count_eq_zero.1 h0
      have hlt : i < listed.size := by omega
      unfold lsL
      cases hb : listed.getD i false with
      | true => rfl
      | false =>
        exfalso; apply hn
        simp [hlt] at hb
        exact hb ▸ Array.getElem_mem hlt
    refine ⟨?_, hdone _ _ _ hall hI⟩
    apply List.eq_nil_iff_forall_not_mem.2
    intro i hi
    obtain ⟨h0, o, ho, _⟩ := mem_ready.1 hi
    have hlt : i < ops.size := (Array.getElem?_eq_some_iff.1 ho).1
    have h1 := hall i hlt
    unfold lsL at h1
    simp [show i < listed.size by omega] at h0 h1
    rw [h0] at h1; cases h1
  | succ fuel ih =>
    intro listed a w hs hc hI
    refine ⟨fun hr => hdone _ _ _ (ready_least he hs hr) hI, fun i hi => ?_⟩
    obtain ⟨h0, o, ho, hdep⟩ := mem_ready.1 hi
    have hlt : i < ops.size := (Array.getElem?_eq_some_iff.1 ho).1
    have hltL : i < listed.size := by omega
    have hb : listed[i] = false := by simpa [hltL] using h0
    refine wpOp_mono (fun a' w' h => ih _ a' w' (by simpa using hs) ?_ (by rw [lsL_up hltL]; exact h)) (hstep i o ho (lsL listed) a w hI (by unfold lsL; simpa [hltL] using hb) hdep)
    have e : (listed.setIfInBounds i true).count false + 1 = listed.count false := by
      have hset : listed.setIfInBounds i true = listed.set i true hltL := by simp [Array.setIfInBounds, hltL]
      rw [hset, Array.count_set]
      have hpos : 0 < listed.count false := Array.count_pos_iff.2 (hb ▸ Array.getElem_mem hltL)
      simp [hb]; omega
    omega
/-- The operation k yielded u k. -/
def putV (u : Nat → Value) (i : Nat) (v : Value) : Nat → Value := fun j => if j = i then v else u j
theorem putV_same (u : Nat → Value) (i : Nat) (v : Value) : putV u i v i = v := by simp [putV]
theorem putV_ne {u : Nat → Value} {i j : Nat} {v : Value} (h : j ≠ i) : putV u i v j = u j := by simp [putV, h]
/-- Operation o waits for operation d. -/
def waitsFor (md : Region.Mode) (o : Oper) (d : Nat) : Bool := o.after.any fun e => Region.binds md e && (e.on == d)
def waitsOn (md : Region.Mode) (ops : Array Oper) (k d : Nat) : Bool := ((ops[k]?).map fun o => waitsFor md o d).getD false
theorem waitsFor_spec {o : Oper} {d : Nat} (h : waitsFor md o d = true) : ∃ e ∈ o.after, Region.binds md e = true ∧ e.on = d := by
  unfold waitsFor at h
  rw [Array.any_eq_true] at h
  obtain ⟨j, hj, h⟩ := h
  simp only [Bool.and_eq_true, beq_iff_eq] at h
  exact ⟨o.after[j], Array.getElem_mem hj, h.1, h.2⟩
/-- The state in the midst of a statement: G k: what is known of operation k's value once it has come up; J: what else is known; wt k d: k waits for d. -/
structure Mid (wt : Nat → Nat → Bool) (fr : (Nat → Value) → Array Value) (df : List Deferred) (G : Nat → (Nat → Bool) → (Nat → Value) → World → Prop) (J : (Nat → Bool) → (Nat → Value) → World → Prop)
    (L : Nat → Bool) (a : Act) (w : World) : Prop where
  closed : ∀ k d, L k = true → wt k d = true → L d = true
  ex : ∃ u, a = ⟨fr u, df⟩ ∧ J L u w ∧ ∀ k, L k = true → G k L u w
/-- One operation's step, for every state in which it may come up. -/
def StepAt (P : Program) (ops : Array Oper) (wt : Nat → Nat → Bool) (Q : Exit → Act → World → Prop) (fr : (Nat → Value) → Array Value) (df : List Deferred)
    (G : Nat → (Nat → Bool) → (Nat → Value) → World → Prop) (J : (Nat → Bool) → (Nat → Value) → World → Prop) (i : Nat) (o : Oper) : Prop :=
  ∀ L u w, (∀ k d, L k = true → wt k d = true → L d = true) → J L u w → (∀ k, L k = true → G k L u w) → L i = false → (∀ d, wt i d = true → L d = true) →
    ∀ K : Act → World → Prop, Shut (∀ v w', J (putL L i) (putV u i v) w' → (∀ k, L k = true → k ≠ i → wt k i = false → G k L u w → G k (putL L i) (putV u i v) w') → G i (putL L i) (putV u i v) w' → K ((⟨fr u, df⟩ : Act).put o.dst v) w') →
      if Region.wanted o (yielded ops (fr u)) = true then Oper.wp P o ⟨fr u, df⟩ w K Q else K ((⟨fr u, df⟩ : Act).put o.dst undef) w
/-- What the facts G rest on: the values of k itself and of those that k waits for; they stay in later worlds. -/
structure Soft (wt : Nat → Nat → Bool) (G : Nat → (Nat → Bool) → (Nat → Value) → World → Prop) : Prop where
  sup : ∀ k L u i v w, k ≠ i → wt k i = false → G k L u w → G k (putL L i) (putV u i v) w
  later : ∀ k L u w w', Below w.heap.size w w' → G k L u w → G k L u w'
theorem putL_false {L : Nat → Bool} {i j : Nat} (h : putL L i j = false) : L j = false := by
  unfold putL at h; split at h
  · cases h
  · exact h
section steps
variable {wt : Nat → Nat → Bool} {fr : (Nat → Value) → Array Value} {df : List Deferred} {G : Nat → (Nat → Bool) → (Nat → Value) → World → Prop} {J : (Nat → Bool) → (Nat → Value) → World → Prop} {i : Nat} {o : Oper}
/-- Operation i is wanted in every state in which it may come up. -/
def Wants (ops : Array Oper) (wt : Nat → Nat → Bool) (fr : (Nat → Value) → Array Value) (G : Nat → (Nat → Bool) → (Nat → Value) → World → Prop) (i : Nat) (o : Oper) (b : Bool) : Prop :=
  ∀ L u w, (∀ k, L k = true → G k L u w) → (∀ d, wt i d = true → L d = true) → Region.wanted o (yielded ops (fr u)) = b
theorem StepAt.soft (hs : Soft wt G) (hg : Wants ops wt fr G i o true)
    (h : ∀ L u w, (∀ k d, L k = true → wt k d = true → L d = true) → J L u w → (∀ k, L k = true → G k L u w) → L i = false → (∀ d, wt i d = true → L d = true) →
      ∀ K : Act → World → Prop, Shut (∀ v w', Below w.heap.size w w' → J (putL L i) (putV u i v) w' → G i (putL L i) (putV u i v) w' → K ((⟨fr u, df⟩ : Act).put o.dst v) w') → Oper.wp P o ⟨fr u, df⟩ w K Q) :
    StepAt P ops wt Q fr df G J i o := fun L u w hcl hJ hG hL hdep K hK => by
  rw [if_pos (hg L u w hG hdep)]
  exact h L u w hcl hJ hG hL hdep K (fun v w' hb hj hg => hK.out v w' hj (fun _ _ hki hw hgk => hs.later _ _ _ _ _ hb (hs.sup _ _ _ _ _ _ hki hw hgk)) hg)
/-- A step that is shut out by its guard. -/
theorem StepAt.out (hs : Soft wt G) (hg : Wants ops wt fr G i o false)
    (h : ∀ L u w, J L u w → (∀ k, L k = true → G k L u w) → (∀ d, wt i d = true → L d = true) → J (putL L i) (putV u i undef) w ∧ G i (putL L i) (putV u i undef) w) :
    StepAt P ops wt Q fr df G J i o := fun L u w hcl hJ hG hL hdep K hK => by
  rw [if_neg (by rw [hg L u w hG hdep]; simp)]
  obtain ⟨h1, h2⟩ := h L u w hJ hG hdep
  exact hK.out undef w h1 (fun _ _ hki hw hgk => hs.sup _ _ _ _ _ _ hki hw hgk) h2
end steps
def AllSteps (P : Program) (ops : Array Oper) (wt : Nat → Nat → Bool) (Q : Exit → Act → World → Prop) (fr : (Nat → Value) → Array Value) (df : List Deferred)
    (G : Nat → (Nat → Bool) → (Nat → Value) → World → Prop) (J : (Nat → Bool) → (Nat → Value) → World → Prop) : Nat → List Oper → Prop
  | _, [] => True
  | i, o :: l => StepAt P ops wt Q fr df G J i o ∧ AllSteps P ops wt Q fr df G J (i + 1) l
theorem AllSteps.at {wt : Nat → Nat → Bool} {fr : (Nat → Value) → Array Value} {df : List Deferred} {G : Nat → (Nat → Bool) → (Nat → Value) → World → Prop} {J : (Nat → Bool) → (Nat → Value) → World → Prop} :
    ∀ (l : List Oper) (i : Nat), AllSteps P ops wt Q fr df G J i l → ∀ k o, l[k]? = some o → StepAt P ops wt Q fr df G J (i + k) o
  | [], _, _, k, o, h => by simp at h
  | x :: l, i, h, 0, o, hk => by simp at hk; subst hk; exact h.1
  | x :: l, i, h, k + 1, o, hk => by
    have := AllSteps.at l (i + 1) h.2 k o (by simpa using hk)
    rw [show i + (k + 1) = i + 1 + k by omega]; exact this
section regions
variable {id : Nat} {a : Act} {w : World} (fr : (Nat → Value) → Array Value) (G : Nat → (Nat → Bool) → (Nat → Value) → World → Prop) (J : (Nat → Bool) → (Nat → Value) → World → Prop) (u0 : Nat → Value)
/-- One step of the invariant. -/
theorem Mid.step {wt : Nat → Nat → Bool} {df : List Deferred} {fr : (Nat → Value) → Array Value} {G : Nat → (Nat → Bool) → (Nat → Value) → World → Prop} {J : (Nat → Bool) → (Nat → Value) → World → Prop}
    (hfr : ∀ u i v, i < ops.size → (⟨fr u, df⟩ : Act).put ((ops[i]?).bind (·.dst)) v = ⟨fr (putV u i v), df⟩)
    {i : Nat} {o : Oper} (ho : ops[i]? = some o) (hs : StepAt P ops wt Q fr df G J i o) {L : Nat → Bool} {a : Act} {w : World} (h : Mid wt fr df G J L a w) (hL : L i = false) (hdep : ∀ d, wt i d = true → L d = true)
    (K : Act → World → Prop) (hK : ∀ a w, Mid wt fr df G J (putL L i) a w → K a w) :
    if Region.wanted o (yielded ops a.tmps) = true then Oper.wp P o a w K Q else K (a.put o.dst undef) w := by
  obtain ⟨hcl, u, rfl, hJ, hG⟩ := h
  have hlt : i < ops.size := (Array.getElem?_eq_some_iff.1 ho).1
  refine hs L u w hcl hJ hG hL hdep K (fun v w2 hJ2 hG2 hi => hK _ _ ⟨fun k d hk hd => ?_, putV u i v, ?_, hJ2, fun k hk => ?_⟩)
  · by_cases hki : k = i
    · subst hki
      exact putL_old (hdep d hd)
    · rw [putL_ne hki] at hk
      exact putL_old (hcl k d hk hd)
  · have := hfr u i v hlt
    rw [ho] at this
    exact this
  · by_cases hki : k = i
    · subst hki; exact hi
    · rw [putL_ne hki] at hk
      refine hG2 k hk hki ?_ (hG k hk)
      cases hw : wt k i with
      | false => rfl
      | true => rw [hcl k i hk hw] at hL; cases hL
/-- A statement that draws its order. -/
theorem wp_region_mid (hm : P.follows .mixedOrders = true) (he : earlier .any ops = true)
    (hfr : ∀ u i v, i < ops.size → (⟨fr u, a.defers⟩ : Act).put ((ops[i]?).bind (·.dst)) v = ⟨fr (putV u i v), a.defers⟩)
    (ha : a.tmps = fr u0) (hJ : J (fun _ => false) u0 w.drew)
    (hsoft : Soft (waitsOn .any ops) G) (hsteps : Soft (waitsOn .any ops) G → AllSteps P ops (waitsOn .any ops) Q fr a.defers G J 0 ops.toList)
    (hdone : ∀ L u W, (∀ i, i < ops.size → L i = true) → J L u W → (∀ k, k < ops.size → G k L u W) → Q .normal ⟨fr u, a.defers⟩ W) : (Code.region id ops true).wp P Q a w := by
  refine wp_region_any hm (wpAny_inv he (Mid (waitsOn .any ops) fr a.defers G J) ?_ ?_ _ _ _ _ (by simp) (by simp) ?_)
  · intro i o ho L a' w' hM hL hdep
    have hs := AllSteps.at _ _ (hsteps hsoft) i o (by simpa using ho)
    rw [Nat.zero_add] at hs
    refine wpOp_step ho (fun K hK => Mid.step hfr ho hs hM hL (fun d hd => ?_) K hK)
    rw [waitsOn, ho] at hd
    obtain ⟨e, he', hb, rfl⟩ := waitsFor_spec hd
    exact hdep e he' hb
  · rintro L a' w' hall ⟨_, u, rfl, hJ, hG⟩
    exact hdone L u w' hall hJ (fun k hk => hG k (hall k hk))
  · rw [lsL_none]
    refine ⟨(fun k d hk => by cases hk), u0, ?_, hJ, (fun k hk => by cases hk)⟩
    cases a; simp_all
end regions
end
end Go.Proofs.Ytogjbhkhdccahaa
namespace Go.Proofs.Ytogjbhkhdccahaa
structure Pr (p : Nat) : Prop where
  two : 2 ≤ p
  div : ∀ m, m ∣ p → m = 1 ∨ m = p
theorem Pr.cop {p a : Nat} (h : Pr p) (ha : ¬ p ∣ a) : Nat.Coprime p a := by
  rcases h.div (Nat.gcd p a) (Nat.gcd_dvd_left p a) with h1 | h1
  · exact h1
  · exact absurd (h1 ▸ Nat.gcd_dvd_right p a) ha
theorem Pr.mul {p a b : Nat} (h : Pr p) (hd : p ∣ a * b) : p ∣ a ∨ p ∣ b := by
  by_cases ha : p ∣ a
  · exact .inl ha
  · exact .inr ((h.cop ha).dvd_of_dvd_mul_left hd)
/-- Each number from 2 on has a prime in it. -/
theorem has_prime : ∀ n, 2 ≤ n → ∃ p, Pr p ∧ p ∣ n := by
  intro n
  induction n using Nat.strongRecOn with
  | _ n ih =>
    intro hn
    by_cases h : ∃ m, m ∣ n ∧ m ≠ 1 ∧ m ≠ n
    · obtain ⟨m, hd, h1, h2⟩ := h
      have hle := Nat.le_of_dvd (by omega) hd
      have h0 : m ≠ 0 := by rintro rfl; have := Nat.eq_zero_of_zero_dvd hd; omega
      obtain ⟨p, hp, hpm⟩ := ih m (by omega) (by omega)
      exact ⟨p, hp, Nat.dvd_trans hpm hd⟩
    · refine ⟨n, ⟨hn, fun m hm => ?_⟩, Nat.dvd_refl n⟩
      by_cases h1 : m = 1
      · exact .inl h1
      · by_cases h2 : m = n
        · exact .inr h2
        · exact absurd ⟨m, hm, h1, h2⟩ h
def choose : Nat → Nat → Nat
  | _, 0 => 1
  | 0, _ + 1 => 0
  | n + 1, k + 1 => choose n k + choose n (k + 1)
theorem choose_high : ∀ n k, n < k → choose n k = 0
  | 0, k + 1, _ => rfl
  | n + 1, k + 1, h => by rw [choose, choose_high n k (by omega), choose_high n (k + 1) (by omega)]
theorem choose_self : ∀ n, choose n n = 1
  | 0 => rfl
  | n + 1 => by rw [choose, choose_self n, choose_high n (n + 1) (by omega)]
theorem choose_zero (n : Nat) : choose n 0 = 1 := by cases n <;> rfl
theorem choose_mul : ∀ n k, (k + 1) * choose (n + 1) (k + 1) = (n + 1) * choose n k
  | 0, 0 => rfl
  | 0, k + 1 => by simp [choose]
  | n + 1, 0 => by
    have h := choose_mul n 0
    rw [choose_zero] at h
    have e : choose (n + 1 + 1) (0 + 1) = choose (n + 1) 0 + choose (n + 1) (0 + 1) := rfl
    rw [e, choose_zero]
    omega
  | n + 1, k + 1 => by
    have h1 := choose_mul n k
    have h2 := choose_mul n (k + 1)
    have e1 : choose (n + 1 + 1) (k + 1 + 1) = choose (n + 1) (k + 1) + choose (n + 1) (k + 1 + 1) := rfl
    have e2 : choose (n + 1) (k + 1) = choose n k + choose n (k + 1) := rfl
    generalize hA : choose (n + 1) (k + 1) = A at *
    generalize choose (n + 1) (k + 1 + 1) = B at *
    generalize choose (n + 1 + 1) (k + 1 + 1) = C at *
    generalize choose n k = a at *
    generalize choose n (k + 1) = b at *
    subst e1 e2
    grind
/-- The sum of the first so many terms of (x + 1)^n. -/
def binSum (n x : Nat) : Nat → Nat
  | 0 => 0
  | k + 1 => binSum n x k + choose n k * x ^ k
theorem binSum_step (n x : Nat) : ∀ k, binSum (n + 1) x (k + 1) = binSum n x (k + 1) + x * binSum n x k
  | 0 => by simp [binSum, choose_zero]
  | k + 1 => by
    have h := binSum_step n x k
    rw [binSum, h]
    simp only [binSum, choose, Nat.pow_succ]
    grind
theorem binom (n x : Nat) : (x + 1) ^ n = binSum n x (n + 1) := by
  induction n with
  | zero => simp [binSum, choose]
  | succ n ih =>
    have e : binSum n x (n + 1 + 1) = binSum n x (n + 1) := by
      show binSum n x (n + 1) + choose n (n + 1) * x ^ (n + 1) = _
      rw [choose_high n (n + 1) (by omega)]; omega
    rw [binSum_step, Nat.pow_succ, ih, e, Nat.mul_add, Nat.mul_one, Nat.mul_comm x]; omega
theorem Pr.choose {p : Nat} (hp : Pr p) (k : Nat) (h0 : 0 < k) (h1 : k < p) : p ∣ choose p k := by
  obtain ⟨n, rfl⟩ : ∃ n, p = n + 1 := ⟨p - 1, by have := hp.two; omega⟩
  obtain ⟨j, rfl⟩ : ∃ j, k = j + 1 := ⟨k - 1, by omega⟩
  have h := choose_mul n j
  have hd : n + 1 ∣ (j + 1) * Go.Proofs.Ytogjbhkhdccahaa.choose (n + 1) (j + 1) := ⟨_, h⟩
  rcases hp.mul hd with h2 | h2
  · exact absurd (Nat.le_of_dvd (by omega) h2) (by omega)
  · exact h2
theorem binSum_mod {p x : Nat} (hp : Pr p) : ∀ k, 1 ≤ k → k ≤ p → binSum p x k % p = 1 % p := by
  intro k
  induction k with
  | zero => omega
  | succ k ih =>
    intro _ h2
    by_cases hk : k = 0
    · subst hk; simp [binSum, choose_zero]
    · rw [binSum, Nat.add_mod, ih (by omega) (by omega), Nat.mul_mod, Nat.mod_eq_zero_of_dvd (hp.choose k (by omega) (by omega)), Nat.zero_mul, Nat.zero_mod, Nat.add_zero, Nat.mod_mod]
theorem fermat' {p : Nat} (hp : Pr p) (x : Nat) : x ^ p % p = x % p := by
  induction x with
  | zero => rw [Nat.zero_pow (by have := hp.two; omega)]
  | succ x ih =>
    rw [binom, binSum, choose_self, Nat.one_mul, Nat.add_mod, binSum_mod hp p (by have := hp.two; omega) (Nat.le_refl _), ih, ← Nat.add_mod, Nat.add_comm]
theorem fermat {p : Nat} (hp : Pr p) (x : Nat) (hx : ¬ p ∣ x) : x ^ (p - 1) % p = 1 := by
  have h := fermat' hp x
  have h2 := hp.two
  have hd : p ∣ x * (x ^ (p - 1) - 1) := by
    rw [Nat.mul_sub, Nat.mul_one, show x * x ^ (p - 1) = x ^ p from by rw [Nat.mul_comm, ← Nat.pow_succ]; congr 1; omega]
    exact Nat.dvd_of_mod_eq_zero (Nat.sub_mod_eq_zero_of_mod_eq h)
  have hx0 : 0 < x := Nat.pos_of_ne_zero (by rintro rfl; exact hx (Nat.dvd_zero p))
  have hp1 : 0 < x ^ (p - 1) := Nat.pow_pos hx0
  rcases hp.mul hd with h3 | h3
  · exact absurd h3 hx
  · have h4 := Nat.mod_eq_zero_of_dvd h3
    have h5 : x ^ (p - 1) = (x ^ (p - 1) - 1) + 1 := by omega
    rw [h5, Nat.add_mod, h4, Nat.zero_add, Nat.mod_mod, Nat.mod_eq_of_lt (by omega)]
/-- a^e mod n, digit by digit; 'f' is fuel. -/
def powMod (n : Nat) : Nat → Nat → Nat → Nat
  | 0, _, _ => 1 % n
  | f + 1, a, e => if e = 0 then 1 % n else let r := powMod n f (a * a % n) (e / 2); if e % 2 = 1 then r * a % n else r
theorem pow_mod' (a n e : Nat) : (a % n) ^ e % n = a ^ e % n := by
  induction e with
  | zero => rfl
  | succ e ih => rw [Nat.pow_succ, Nat.pow_succ, Nat.mul_mod, ih, Nat.mod_mod, ← Nat.mul_mod]
theorem powMod_spec (n : Nat) : ∀ f a e, e < 2 ^ f → powMod n f a e = a ^ e % n
  | 0, a, e, h => by
    obtain rfl : e = 0 := by simp at h; exact h
    rfl
  | f + 1, a, e, h => by
    unfold powMod
    by_cases h0 : e = 0
    · subst h0; simp
    · rw [if_neg h0]
      have hf : e / 2 < 2 ^ f := by rw [Nat.pow_succ] at h; omega
      have hr := powMod_spec n f (a * a % n) (e / 2) hf
      have h2 : (a * a % n) ^ (e / 2) % n = a ^ (2 * (e / 2)) % n := by
        rw [pow_mod', ← Nat.pow_two, ← Nat.pow_mul]
      simp only [hr, h2]
      by_cases h1 : e % 2 = 1
      · rw [if_pos h1, Nat.mul_mod, Nat.mod_mod, ← Nat.mul_mod, ← Nat.pow_succ]
        congr 2; omega
      · rw [if_neg h1]
        congr 2; omega
theorem pow_gcd (a r : Nat) : ∀ m n, a ^ m % r = 1 % r → a ^ n % r = 1 % r → a ^ (Nat.gcd m n) % r = 1 % r := by
  intro m n
  induction m, n using Nat.gcd.induction with
  | H0 n => intro _ h; rw [Nat.gcd_zero_left]; exact h
  | H1 m n hm ih =>
    intro h1 h2
    rw [Nat.gcd_rec]
    refine ih ?_ h1
    have e : a ^ n = (a ^ m) ^ (n / m) * a ^ (n % m) := by rw [← Nat.pow_mul, ← Nat.pow_add, Nat.div_add_mod]
    rw [e, Nat.mul_mod, ← pow_mod', h1, pow_mod', Nat.one_pow, ← Nat.mul_mod, Nat.one_mul] at h2
    exact h2
/-- Of a prime r of N: each q that the witness vouches for divides r - 1. -/
theorem pock_one {N a q r : Nat} (hN : 2 ≤ N) (hq : Pr q) (hqN : q ∣ N - 1) (h1 : a ^ (N - 1) % N = 1) (h2 : Nat.gcd (a ^ ((N - 1) / q) % N + (N - 1)) N = 1) (hr : Pr r) (hrN : r ∣ N) : q ∣ r - 1 := by
  have ha : ¬ r ∣ a := by
    intro hd
    have h3 : r ∣ a ^ (N - 1) := Nat.dvd_trans hd ⟨a ^ (N - 1 - 1), by rw [← Nat.pow_succ']; congr 1; omega⟩
    have h4 := Nat.div_add_mod (a ^ (N - 1)) N
    rw [h1] at h4
    have h5 : r ∣ N * (a ^ (N - 1) / N) := Nat.dvd_trans hrN (Nat.dvd_mul_right _ _)
    have h6 : r ∣ 1 := (Nat.dvd_add_right h5).1 (by rw [h4]; exact h3)
    have := Nat.le_of_dvd (by omega) h6
    have := hr.two; omega
  have hF := fermat hr a ha
  have hr1 : 1 % r = 1 := Nat.mod_eq_of_lt (by have := hr.two; omega)
  have hM : a ^ (N - 1) % r = 1 % r := by
    rw [← Nat.mod_mod_of_dvd (a ^ (N - 1)) hrN, h1]
  by_cases hd : q ∣ r - 1
  · exact hd
  · exfalso
    have hg : Nat.gcd (N - 1) (r - 1) ∣ (N - 1) / q := by
      obtain ⟨c, hc⟩ := hqN
      rw [hc, Nat.mul_div_cancel_left _ (by have := hq.two; omega)]
      have hcop : Nat.Coprime (Nat.gcd (q * c) (r - 1)) q := by
        refine Nat.Coprime.symm (hq.cop fun hx => hd (Nat.dvd_trans hx (Nat.gcd_dvd_right _ _)))
      exact hcop.dvd_of_dvd_mul_left (Nat.gcd_dvd_left _ _)
    have h3 := pow_gcd a r (N - 1) (r - 1) hM (by rw [hr1]; exact hF)
    obtain ⟨k, hk⟩ := hg
    have h4 : a ^ ((N - 1) / q) % r = 1 % r := by
      rw [hk, Nat.pow_mul, ← pow_mod', h3, pow_mod', Nat.one_pow]
    have h5 : r ∣ a ^ ((N - 1) / q) % N + (N - 1) := by
      apply Nat.dvd_of_mod_eq_zero
      rw [Nat.add_mod, Nat.mod_mod_of_dvd _ hrN, h4, hr1]
      obtain ⟨c, hc⟩ := hrN
      have hc0 : 0 < c := Nat.pos_of_ne_zero (by rintro rfl; omega)
      have : N - 1 = (r - 1) + r * (c - 1) := by rw [Nat.mul_sub, ← hc]; have := Nat.le_of_dvd (by omega) (show r ∣ N from ⟨c, hc⟩); have := hr.two; omega
      rw [this, Nat.add_mul_mod_self_left, Nat.mod_eq_of_lt (show r - 1 < r by have := hr.two; omega), show 1 + (r - 1) = r by have := hr.two; omega, Nat.mod_self]
    have h6 : r ∣ 1 := h2 ▸ Nat.dvd_gcd h5 hrN
    have := Nat.le_of_dvd (by omega) h6
    have := hr.two; omega
/-- A number whose primes all are above its root is one. -/
theorem prime_of {N : Nat} (hN : 2 ≤ N) (h : ∀ r, Pr r → r ∣ N → N < r * r) : Pr N := by
  refine ⟨hN, fun m hm => ?_⟩
  obtain ⟨c, hc⟩ := hm
  by_cases hm1 : m = 1
  · exact .inl hm1
  · by_cases hc1 : c = 1
    · subst hc1; exact .inr (by omega)
    · exfalso
      have hm0 : 2 ≤ m := by
        rcases Nat.lt_or_ge m 2 with h | h
        · have : m = 0 := by omega
          subst this; omega
        · exact h
      have hc0 : 2 ≤ c := by
        rcases Nat.lt_or_ge c 2 with h | h
        · have : c = 0 := by omega
          subst this; omega
        · exact h
      obtain ⟨r, hr, hrm⟩ := has_prime m hm0
      obtain ⟨s, hs, hsc⟩ := has_prime c hc0
      have h1 := h r hr (hc ▸ Nat.dvd_trans hrm (Nat.dvd_mul_right _ _))
      have h2 := h s hs (hc ▸ Nat.dvd_trans hsc (Nat.dvd_mul_left _ _))
      have h3 := Nat.le_of_dvd (by omega) hrm
      have h4 := Nat.le_of_dvd (by omega) hsc
      rw [hc] at h1 h2
      have h5 : m * c < m * m := Nat.lt_of_lt_of_le h1 (Nat.mul_le_mul h3 h3)
      have h6 : m * c < c * c := Nat.lt_of_lt_of_le h2 (Nat.mul_le_mul h4 h4)
      have h7 : c < m := Nat.lt_of_mul_lt_mul_left h5
      have h8 : m < c := Nat.lt_of_mul_lt_mul_right h6
      omega
/-- The test, of one great prime, or two. -/
theorem pock1 {N a q f : Nat} (hN : 2 ≤ N) (hq : Pr q) (hqN : (N - 1) % q = 0) (hf : N - 1 < 2 ^ f) (h1 : powMod N f a (N - 1) = 1) (h2 : Nat.gcd (powMod N f a ((N - 1) / q) + (N - 1)) N = 1) (hs : N < q * q) : Pr N := by
  rw [powMod_spec N f _ _ hf] at h1
  rw [powMod_spec N f _ _ (Nat.lt_of_le_of_lt (Nat.div_le_self _ _) hf)] at h2
  refine prime_of hN fun r hr hrN => ?_
  have h3 := pock_one hN hq (Nat.dvd_of_mod_eq_zero hqN) h1 h2 hr hrN
  have h4 := Nat.le_of_dvd (by have := hr.two; omega) h3
  exact Nat.lt_of_lt_of_le hs (Nat.mul_le_mul (by omega) (by omega))
theorem pock2 {N a q s f : Nat} (hN : 2 ≤ N) (hq : Pr q) (hs : Pr s) (hqs : Nat.gcd q s = 1) (hqN : (N - 1) % q = 0) (hsN : (N - 1) % s = 0) (hf : N - 1 < 2 ^ f) (h1 : powMod N f a (N - 1) = 1) (h2 : Nat.gcd (powMod N f a ((N - 1) / q) + (N - 1)) N = 1) (h3 : Nat.gcd (powMod N f a ((N - 1) / s) + (N - 1)) N = 1) (hb : N < q * s * (q * s)) : Pr N := by
  rw [powMod_spec N f _ _ hf] at h1
  rw [powMod_spec N f _ _ (Nat.lt_of_le_of_lt (Nat.div_le_self _ _) hf)] at h2 h3
  refine prime_of hN fun r hr hrN => ?_
  have h4 := pock_one hN hq (Nat.dvd_of_mod_eq_zero hqN) h1 h2 hr hrN
  have h5 := pock_one hN hs (Nat.dvd_of_mod_eq_zero hsN) h1 h3 hr hrN
  have h6 : q * s ∣ r - 1 := Nat.Coprime.mul_dvd_of_dvd_of_dvd hqs h4 h5
  have h7 := Nat.le_of_dvd (by have := hr.two; omega) h6
  exact Nat.lt_of_lt_of_le hb (Nat.mul_le_mul (by omega) (by omega))
/-- A small one, by trying. -/
def noDiv (n : Nat) : Nat → Nat → Bool
  | 0, _ => true
  | f + 1, d => if n % d = 0 then false else noDiv n f (d + 1)
theorem noDiv_spec (n : Nat) : ∀ f d, noDiv n f d = true → ∀ m, d ≤ m → m < d + f → n % m ≠ 0
  | 0, d, _, m, h1, h2 => by omega
  | f + 1, d, h, m, h1, h2 => by
    unfold noDiv at h
    by_cases h0 : n % d = 0
    · rw [if_pos h0] at h; cases h
    · rw [if_neg h0] at h
      by_cases hm : m = d
      · rw [hm]; exact h0
      · exact noDiv_spec n f (d + 1) h m (by omega) (by omega)
theorem small_prime {n f : Nat} (hn : 2 ≤ n) (h : noDiv n f 2 = true) (hf : n < (f + 2) * (f + 2)) : Pr n := by
  refine prime_of hn fun r hr hrn => ?_
  by_cases h1 : r < f + 2
  · exact absurd (Nat.mod_eq_zero_of_dvd hrn) (noDiv_spec n f 2 h r hr.two (by omega))
  · exact Nat.lt_of_lt_of_le hf (Nat.mul_le_mul (by omega) (by omega))
end Go.Proofs.Ytogjbhkhdccahaa
namespace Go.Proofs.Ytogjbhkhdccahaa
theorem pr_991 : Pr 991 := small_prime (f := 31) (by omega) (by decide +kernel) (by omega)
theorem pr_103 : Pr 103 := small_prime (f := 10) (by omega) (by decide +kernel) (by omega)
theorem pr_8574133 : Pr 8574133 := pock2 (a := 2) (q := 991) (s := 103) (f := 24) (by omega) pr_991 pr_103 (by decide +kernel) (by decide +kernel) (by decide +kernel) (by decide +kernel) (by decide +kernel) (by decide +kernel) (by decide +kernel) (by decide +kernel)
theorem pr_127 : Pr 127 := small_prime (f := 11) (by omega) (by decide +kernel) (by omega)
theorem pr_1919519569386763 : Pr 1919519569386763 := pock2 (a := 2) (q := 8574133) (s := 127) (f := 51) (by omega) pr_8574133 pr_127 (by decide +kernel) (by decide +kernel) (by decide +kernel) (by decide +kernel) (by decide +kernel) (by decide +kernel) (by decide +kernel) (by decide +kernel)
theorem pr_569003 : Pr 569003 := small_prime (f := 754) (by omega) (by decide +kernel) (by omega)
theorem pr_2773320623 : Pr 2773320623 := pock1 (a := 2) (q := 569003) (f := 32) (by omega) pr_569003 (by decide +kernel) (by decide +kernel) (by decide +kernel) (by decide +kernel) (by decide +kernel)
theorem pr_72106336199 : Pr 72106336199 := pock1 (a := 2) (q := 2773320623) (f := 37) (by omega) pr_2773320623 (by decide +kernel) (by decide +kernel) (by decide +kernel) (by decide +kernel) (by decide +kernel)
theorem pr_75445702479781427272750846543864801 : Pr 75445702479781427272750846543864801 := pock2 (a := 2) (q := 1919519569386763) (s := 72106336199) (f := 116) (by omega) pr_1919519569386763 pr_72106336199 (by decide +kernel) (by decide +kernel) (by decide +kernel) (by decide +kernel) (by decide +kernel) (by decide +kernel) (by decide +kernel) (by decide +kernel)
theorem pr_430751 : Pr 430751 := small_prime (f := 656) (by omega) (by decide +kernel) (by omega)
theorem pr_4153 : Pr 4153 := small_prime (f := 64) (by omega) (by decide +kernel) (by omega)
theorem pr_31757755568855353 : Pr 31757755568855353 := pock2 (a := 2) (q := 430751) (s := 4153) (f := 55) (by omega) pr_430751 pr_4153 (by decide +kernel) (by decide +kernel) (by decide +kernel) (by decide +kernel) (by decide +kernel) (by decide +kernel) (by decide +kernel) (by decide +kernel)
theorem pr_74058212732561358302231226437062788676166966415465897661863160754340907 : Pr 74058212732561358302231226437062788676166966415465897661863160754340907 := pock2 (a := 2) (q := 75445702479781427272750846543864801) (s := 31757755568855353) (f := 236) (by omega) pr_75445702479781427272750846543864801 pr_31757755568855353 (by decide +kernel) (by decide +kernel) (by decide +kernel) (by decide +kernel) (by decide +kernel) (by decide +kernel) (by decide +kernel) (by decide +kernel)
theorem pr_57896044618658097711785492504343953926634992332820282019728792003956564819949 : Pr 57896044618658097711785492504343953926634992332820282019728792003956564819949 := pock1 (a := 2) (q := 74058212732561358302231226437062788676166966415465897661863160754340907) (f := 255) (by omega) pr_74058212732561358302231226437062788676166966415465897661863160754340907 (by decide +kernel) (by decide +kernel) (by decide +kernel) (by decide +kernel) (by decide +kernel)
end Go.Proofs.Ytogjbhkhdccahaa
namespace Go.Proofs.Ytogjbhkhdccahaa
def Pq : Nat := 57896044618658097711785492504343953926634992332820282019728792003956564819949
def expInv : Nat := 57896044618658097711785492504343953926634992332820282019728792003956564819947
theorem Pq_pos : 0 < Pq := by unfold Pq; omega
/-- The carries of a row of limbs, c0 coming in; the limbs then. -/
def cr (f : Nat → Nat) (c0 : Nat) : Nat → Nat
  | 0 => c0
  | i + 1 => (f i + cr f c0 i) / 2251799813685248
/-- The number that five limbs mean. -/
def val (f : Nat → Nat) : Nat := f 0 + 2251799813685248 * (f 1 + 2251799813685248 * (f 2 + 2251799813685248 * (f 3 + 2251799813685248 * f 4)))
end Go.Proofs.Ytogjbhkhdccahaa
namespace Go.Proofs.Ytogjbhkhdccahaa
theorem prP : Pr Pq := pr_57896044618658097711785492504343953926634992332820282019728792003956564819949
instance : NeZero Pq := ⟨by unfold Pq; omega⟩
/-- The numbers mod p. -/
abbrev F := Fin Pq
/-- A number mod p. -/
def fn (n : Nat) : F := ⟨n % Pq, Nat.mod_lt _ Pq_pos⟩
def fpow (x : F) (n : Nat) : F := ⟨x.val ^ n % Pq, Nat.mod_lt _ Pq_pos⟩
def finv (x : F) : F := fpow x expInv
theorem fpow_val (x : F) (n : Nat) : (fpow x n).val = x.val ^ n % Pq := rfl
theorem F.ext' {x y : F} (h : x.val = y.val) : x = y := Fin.ext h
theorem F.mul_val (x y : F) : (x * y).val = x.val * y.val % Pq := rfl
theorem fpow_add (x : F) (m n : Nat) : fpow x (m + n) = fpow x m * fpow x n := by
  apply F.ext'
  rw [F.mul_val, fpow_val, fpow_val, fpow_val, Nat.pow_add, Nat.mul_mod]
theorem fpow_one (x : F) : fpow x 1 = x := by
  apply F.ext'; rw [fpow_val, Nat.pow_one, Nat.mod_eq_of_lt x.isLt]
theorem fpow_zero (x : F) : fpow x 0 = 1 := by
  apply F.ext'; rw [fpow_val, Nat.pow_zero]; rfl
theorem fpow_nought (n : Nat) (h : 0 < n) : fpow 0 n = 0 := by
  apply F.ext'; rw [fpow_val, show (0 : F).val = 0 from rfl, Nat.zero_pow h]; rfl
theorem F.val_ne {x : F} (h : x ≠ 0) : ¬ Pq ∣ x.val := by
  intro hd
  apply h
  apply F.ext'
  show x.val = 0
  rw [← Nat.mod_eq_of_lt x.isLt]; exact Nat.mod_eq_zero_of_dvd hd
theorem fermatF {x : F} (h : x ≠ 0) : fpow x (Pq - 1) = 1 := by
  apply F.ext'; rw [fpow_val, fermat prP _ (F.val_ne h)]; rfl
theorem finv_mul {x : F} (h : x ≠ 0) : x * finv x = 1 := by
  have h1 := fermatF h
  rw [show Pq - 1 = 1 + expInv from by unfold Pq expInv; omega, fpow_add, fpow_one] at h1
  exact h1
instance : Inv F := ⟨finv⟩
instance : Div F := ⟨fun a b => a * finv b⟩
theorem finv_zero : finv 0 = 0 := fpow_nought _ (by unfold expInv; omega)
theorem finv_finv (x : F) : finv (finv x) = x := by
  by_cases h : x = 0
  · subst h; rw [finv_zero, finv_zero]
  · have h1 := finv_mul h
    have h2 : finv x ≠ 0 := by
      intro e
      have h3 := congrArg Fin.val h1
      rw [e, F.mul_val, show (0 : F).val = 0 from rfl, Nat.mul_zero] at h3
      exact absurd h3 (by decide)
    have h4 := finv_mul h2
    calc finv (finv x) = 1 * finv (finv x) := by grind
      _ = (x * finv x) * finv (finv x) := by rw [h1]
      _ = x * (finv x * finv (finv x)) := by grind
      _ = x := by rw [h4]; grind
theorem finv_one : finv 1 = 1 := by
  have h := finv_mul (x := 1) (by intro h; have := congrArg Fin.val h; exact absurd this (by decide))
  grind
instance fieldPow : HPow F Int F := ⟨fun x n => match n with | .ofNat n => fpow x n | .negSucc n => finv (fpow x (n + 1))⟩
instance fieldF : Lean.Grind.Field F where
  zpow := fieldPow
  div_eq_mul_inv := fun _ _ => rfl
  zero_ne_one := by intro h; have := congrArg Fin.val h; exact absurd this (by decide)
  inv_zero := finv_zero
  mul_inv_cancel := finv_mul
  zpow_zero := fun a => fpow_zero a
  zpow_succ := fun a n => by
    show fpow a (n + 1) = fpow a n * a
    rw [fpow_add, fpow_one]
  zpow_neg := fun a n => by
    cases n with
    | ofNat n =>
      cases n with
      | zero =>
        show fpow a 0 = finv (fpow a 0)
        rw [fpow_zero, finv_one]
      | succ n => rfl
    | negSucc n =>
      show fpow a (n + 1) = finv (finv (fpow a (n + 1)))
      rw [finv_finv]
end Go.Proofs.Ytogjbhkhdccahaa
namespace Go.Proofs.Ytogjbhkhdccahaa
open Go Go.RowKit
/-- A way to lay a number out in cells. -/
structure Rp (α : Type) where
  n : Nat
  rep : α → List Value → Prop
  pos : 0 < n
  len : ∀ (x : α) cs, rep x cs → cs.length = n
  one : ∀ (x : α) cs, rep x cs → ∀ v ∈ cs, v.oneCell' = true
variable {α : Type} {R : Rp α}
/-- The cells are the numbers xs, in turn. -/
def Lims {α : Type} (R : Rp α) : List α → List Value → Prop
  | [], cs => cs = []
  | x :: xs, cs => ∃ h r, R.rep x h ∧ cs = h ++ r ∧ Lims R xs r
theorem Lims.len : ∀ {xs : List α} {cs : List Value}, Lims R xs cs → cs.length = R.n * xs.length
  | [], _, h => by cases h; simp
  | x :: xs, cs, h => by
    obtain ⟨h, r, hx, rfl, hr⟩ := h
    have := R.len _ _ hx
    have := Lims.len hr
    simp [List.length_append, Nat.mul_add]; omega
theorem Lims.one : ∀ {xs : List α} {cs : List Value}, Lims R xs cs → ∀ v ∈ cs, v.oneCell' = true
  | [], _, h, v, hv => by cases h; simp at hv
  | x :: xs, cs, h, v, hv => by
    obtain ⟨h, r, hx, rfl, hr⟩ := h
    rcases List.mem_append.1 hv with hv | hv
    · exact R.one _ _ hx v hv
    · exact Lims.one hr v hv
theorem Lims.drop : ∀ (k : Nat) {xs : List α} {cs : List Value}, Lims R xs cs → Lims R (xs.drop k) (cs.drop (R.n * k))
  | 0, _, _, h => by simpa using h
  | k + 1, [], _, h => by cases h; simp [Lims]
  | k + 1, x :: xs, cs, h => by
    obtain ⟨h, r, hx, rfl, hr⟩ := h
    have e := R.len _ _ hx
    have := Lims.drop k hr
    have e2 : (h ++ r).drop (R.n * (k + 1)) = r.drop (R.n * k) := by
      rw [show R.n * (k + 1) = h.length + R.n * k by rw [e, Nat.mul_add]; omega, List.drop_append]; simp
    rw [List.drop_succ_cons, e2]
    exact this
theorem Lims.take : ∀ (k : Nat) {xs : List α} {cs : List Value}, Lims R xs cs → Lims R (xs.take k) (cs.take (R.n * k))
  | 0, _, _, h => by simp [Lims]
  | k + 1, [], _, h => by cases h; simp [Lims]
  | k + 1, x :: xs, cs, h => by
    obtain ⟨h, r, hx, rfl, hr⟩ := h
    have e := R.len _ _ hx
    rw [List.take_succ_cons]
    refine ⟨h, r.take (R.n * k), hx, ?_, Lims.take k hr⟩
    rw [List.take_append, List.take_of_length_le (by rw [e, Nat.mul_add]; omega), e, Nat.mul_add, Nat.mul_one, Nat.add_sub_cancel]
theorem Lims.single {x : α} {cs : List Value} (h : R.rep x cs) : Lims R [x] cs := ⟨cs, [], h, by simp, rfl⟩
theorem Lims.of_single {x : α} {cs : List Value} (h : Lims R [x] cs) : R.rep x cs := by
  obtain ⟨h, r, hx, rfl, hr⟩ := h
  obtain rfl : r = [] := hr
  simpa using hx
/-- The value is the numbers xs. -/
def IsFs {α : Type} (R : Rp α) (v : Value) (xs : List α) : Prop := ∃ cs : List Value, v = .agg cs.toArray ∧ Lims R xs cs
/-- They lie there. -/
def HasFs {α : Type} (R : Rp α) (w : World) (g o : Nat) (xs : List α) : Prop := ∃ cs, Lims R xs cs ∧ w.rangeAt g o cs
theorem range_later {w w' : World} {g o : Nat} {cs : List Value} (h : w.rangeAt g o cs) (hb : Below w.heap.size w w') : w'.rangeAt g o cs := fun j v hv => by
  have := h j v hv
  rw [hb.cell (cell_lt this)]; exact this
theorem HasFs.later {w w' : World} {g o : Nat} {xs : List α} (h : HasFs R w g o xs) (hb : Below w.heap.size w w') : HasFs R w' g o xs := by
  obtain ⟨cs, h1, h2⟩ := h; exact ⟨cs, h1, range_later h2 hb⟩
/-- The block stays as it was. -/
theorem HasFs.blk {w w' : World} {g o : Nat} {xs : List α} (h : HasFs R w g o xs) (e : w'.heap[g]? = w.heap[g]?) : HasFs R w' g o xs := by
  obtain ⟨cs, h1, h2⟩ := h
  exact ⟨cs, h1, fun j v hv => by rw [World.cell?_of_block (w := w) e]; exact h2 j v hv⟩
theorem there_lt {w : World} {g o n : Nat} (h : w.there g o n) (hn : 0 < n) : g < w.heap.size := by
  obtain ⟨v, hv⟩ := Option.isSome_iff_exists.1 (h 0 hn).1
  exact cell_lt hv
theorem HasFs.lt {w : World} {g o : Nat} {x : α} {xs : List α} (h : HasFs R w g o (x :: xs)) : g < w.heap.size := by
  obtain ⟨cs, h1, h2⟩ := h
  have hl := h1.len
  have hp := R.pos
  have h0 : 0 < cs.length := by rw [hl]; exact Nat.mul_pos hp (by simp)
  exact cell_lt (h2 0 _ (List.getElem?_eq_getElem h0))
theorem heap_setCells (b : Nat) : ∀ (vs : List Value) (o : Nat) (w : World) (k : Nat), k ≠ b → (w.setCells b o vs).heap[k]? = w.heap[k]?
  | [], _, _, _, _ => rfl
  | v :: r, o, w, k, h => by rw [World.setCells, heap_setCells b r _ _ k h, Below.heap_setCell _ _ _ _ h]
theorem below_setCells {B b : Nat} {w0 : World} (hb : B ≤ b) : ∀ (vs : List Value) (o : Nat) (w : World), Below B w0 w → Below B w0 (w.setCells b o vs)
  | [], _, _, h => h
  | v :: r, o, w, h => by rw [World.setCells]; exact below_setCells hb r _ _ (h.setCell hb v)
/-- What a value is in a world, for good. -/
structure WP where
  P : Value → World → Prop
  st : ∀ v w w', P v w → Below w.heap.size w w' → P v w'
/-- Till the operation comes up (if any). -/
def till (L : Nat → Bool) (v : Option Nat) : Prop := ∀ k, v = some k → L k = false
inductive Fact where
  | any
  /-- the numbers xs -/
  | val {α : Type} (R : Rp α) (xs : List α)
  /-- where something lies -/
  | ptr (g o : Nat)
  /-- a new variable of n cells -/
  | new (n : Nat)
  /-- a new variable that holds xs -/
  | box {α : Type} (R : Rp α) (xs : List α)
  /-- operation a's new variable holds xs -/
  | st (a : Nat) {α : Type} (R : Rp α) (xs : List α)
  /-- the old variable g holds xs -/
  | sto (g : Nat) {α : Type} (R : Rp α) (xs : List α)
  /-- one cell of the old block g is now v, the rest of it as it was -/
  | cst (g o : Nat) (v : Value)
  /-- a value that is known otherwise -/
  | oth (φ : Value → Prop)
  /-- a new slice of these cells, till operation v comes up -/
  | tmp (n : Nat) (cs : List Value) (v : Nat)
  /-- a new slice of these bytes -/
  | rd (l : List UInt8)
  /-- a new slice of these bytes, till operation v comes up -/
  | rdt (l : List UInt8) (v : Nat)
  /-- these bytes, alone in a new block, till operation v comes up -/
  | own (l : List UInt8) (v : Nat)
  /-- a value that is so, till operation v comes up -/
  | wld (φ : WP) (v : Option Nat)
def Fact.isNew : Fact → Bool
  | .new _ => true | .box _ _ => true | .own _ _ => true | _ => false
def Fact.tgt : Fact → Option Nat
  | .sto g _ _ => some g | .cst g _ _ => some g | _ => none
def Fact.isSto (f : Fact) : Bool := f.tgt.isSome
def factAt (l : List Fact) (k : Nat) : Fact := (l[k]?).getD .any
def Holds (l : List Fact) (W0 : World) (k : Nat) (L : Nat → Bool) (u : Nat → Value) (w : World) : Prop :=
  match factAt l k with
  | .any => True
  | .val R xs => IsFs R (u k) xs
  | .ptr g o => u k = .pointer (some ⟨g, o, none⟩)
  | .new n => ∃ g, u k = .pointer (some ⟨g, 0, none⟩) ∧ W0.heap.size ≤ g ∧ 0 < n ∧ w.there g 0 n
  | .box R xs => ∃ g, u k = .pointer (some ⟨g, 0, none⟩) ∧ (W0.heap.size ≤ g ∧ g < w.heap.size) ∧ w.there g 0 (R.n * xs.length) ∧ HasFs R w g 0 xs
  | .st a R xs => ∃ g, u a = .pointer (some ⟨g, 0, none⟩) ∧ W0.heap.size ≤ g ∧ HasFs R w g 0 xs
  | .sto g R xs => g < W0.heap.size ∧ w.there g 0 (R.n * xs.length) ∧ HasFs R w g 0 xs
  | .cst g o v => g < W0.heap.size ∧ w.heap[g]? = (W0.setCell ⟨g, o, none⟩ v).heap[g]?
  | .oth φ => φ (u k)
  | .tmp n cs v => ∃ g, u k = .slice (some ⟨g, 0, none⟩) n n ∧ (L v = false → Blk w g cs 5)
  | .rd l => ∃ g n cap r, u k = .slice (some ⟨g, 0, none⟩) n cap ∧ W0.heap.size ≤ g ∧ Blk w g (l.map bV ++ r) 5 ∧ l.length = n ∧ n ≤ cap ∧ cap ≤ maxLen
  | .rdt l v => ∃ g n cap r, u k = .slice (some ⟨g, 0, none⟩) n cap ∧ W0.heap.size ≤ g ∧ l.length = n ∧ n ≤ cap ∧ cap ≤ maxLen ∧ (L v = false → Blk w g (l.map bV ++ r) 5)
  | .own l v => ∃ g cap, u k = .slice (some ⟨g, 0, none⟩) l.length cap ∧ W0.heap.size ≤ g ∧ g < w.heap.size ∧ (L v = false → w.ownsRow W0.heap.size 5 1 (.slice (some ⟨g, 0, none⟩) l.length cap) l.length (l.map bV))
  | .wld φ v => till L v → φ.P (u k) w
/-- What else is known: what was there is as it was, but for the old variables that have been written; the new ones are apart. -/
structure Keep (l : List Fact) (W0 : World) (L : Nat → Bool) (u : Nat → Value) (w : World) : Prop where
  os : w.os = W0.os
  tape : w.tape = W0.tape
  output : w.output = W0.output
  size : W0.heap.size ≤ w.heap.size
  block : ∀ b, b < W0.heap.size → (∀ k, (factAt l k).tgt = some b → L k = false) → w.heap[b]? = W0.heap[b]?
  apart : ∀ k k' g, k ≠ k' → L k = true → L k' = true → (factAt l k).isNew = true → (factAt l k').isNew = true → u k = .pointer (some ⟨g, 0, none⟩) → u k' ≠ .pointer (some ⟨g, 0, none⟩)
  own : ∀ k k' g n c n' c' l1 v1 l2 v2, k ≠ k' → factAt l k = .own l1 v1 → factAt l k' = .own l2 v2 → L k = true → L k' = true → L v1 = false → L v2 = false → u k = .slice (some ⟨g, 0, none⟩) n c → u k' ≠ .slice (some ⟨g, 0, none⟩) n' c'
theorem factAt_len {l : List Fact} {k : Nat} (h : l.length ≤ k) : factAt l k = .any := by simp [factAt, List.getElem?_eq_none h]
theorem Keep.drew {l : List Fact} {W0 : World} {u : Nat → Value} : Keep l W0 (fun _ => false) u W0.drew :=
  ⟨rfl, rfl, rfl, Nat.le_refl _, fun _ _ _ => rfl, fun _ _ _ _ h => (by cases h), fun _ _ _ _ _ _ _ _ _ _ _ _ _ _ h => by cases h⟩
/-- Behind an operation that makes no variable and writes to none. -/
theorem Keep.later {l : List Fact} {W0 w w' : World} {L : Nat → Bool} {u : Nat → Value} {i : Nat} {v : Value} (h : Keep l W0 L u w) (hb : Below w.heap.size w w') (hn : (factAt l i).isNew = false) : Keep l W0 (putL L i) (putV u i v) w' := by
  refine ⟨hb.os.trans h.os, hb.tape.trans h.tape, hb.output.trans h.output, Nat.le_trans h.size hb.size, fun b hlt hs => ?_, fun k k' g hne hk hk' n1 n2 e => ?_, fun k k' g n c n' c' l1 v1 l2 v2 hne hf hf' hk hk' hv hv' e => ?_⟩
  · have := h.size
    rw [hb.block b (by omega)]
    exact h.block b hlt (fun k hf => putL_false (hs k hf))
  · have h1 : k ≠ i := by rintro rfl; rw [n1] at hn; cases hn
    have h2 : k' ≠ i := by rintro rfl; rw [n2] at hn; cases hn
    rw [putL_ne h1] at hk
    rw [putL_ne h2] at hk'
    rw [putV_ne h1] at e
    rw [putV_ne h2]
    exact h.apart k k' g hne hk hk' n1 n2 e
  · have h1 : k ≠ i := by rintro rfl; rw [hf] at hn; cases hn
    have h2 : k' ≠ i := by rintro rfl; rw [hf'] at hn; cases hn
    rw [putL_ne h1] at hk
    rw [putL_ne h2] at hk'
    rw [putV_ne h1] at e
    rw [putV_ne h2]
    exact h.own k k' g n c n' c' l1 v1 l2 v2 hne hf hf' hk hk' (putL_false hv) (putL_false hv') e
theorem Holds.newlt {l : List Fact} {W0 w : World} {L : Nat → Bool} {u : Nat → Value} {k g : Nat} (h : Holds l W0 k L u w) (hn : (factAt l k).isNew = true) (e : u k = .pointer (some ⟨g, 0, none⟩)) : W0.heap.size ≤ g ∧ g < w.heap.size := by
  unfold Holds at h
  cases hf : factAt l k with
  | new n => simp only [hf] at h; obtain ⟨g', h1, h2, h3, h4⟩ := h; rw [e] at h1; simp at h1; subst h1; exact ⟨h2, there_lt h4 h3⟩
  | box R xs => simp only [hf] at h; obtain ⟨g', h1, h2, h3, h4⟩ := h; rw [e] at h1; simp at h1; subst h1; exact h2
  | own l' v' => simp only [hf] at h; obtain ⟨g', cap, h1, _⟩ := h; rw [e] at h1; cases h1
  | _ => rw [hf] at hn; cases hn
/-- Behind one that makes a new variable. -/
theorem Keep.new {l : List Fact} {W0 w w' : World} {L : Nat → Bool} {u : Nat → Value} {i : Nat} (h : Keep l W0 L u w) (hb : Below w.heap.size w w') (hH : ∀ k, L k = true → Holds l W0 k L u w) :
    Keep l W0 (putL L i) (putV u i (.pointer (some ⟨w.heap.size, 0, none⟩))) w' := by
  refine ⟨hb.os.trans h.os, hb.tape.trans h.tape, hb.output.trans h.output, Nat.le_trans h.size hb.size, fun b hlt hs => ?_, fun k k' g hne hk hk' n1 n2 e => ?_, fun k k' g n c n' c' l1 v1 l2 v2 hne hf hf' hk hk' hv hv' e => ?_⟩
  · have := h.size
    rw [hb.block b (by omega)]
    exact h.block b hlt (fun k hf => putL_false (hs k hf))
  rotate_left
  · by_cases h1 : k = i
    · subst h1; rw [putV_same] at e; cases e
    · by_cases h2 : k' = i
      · subst h2; rw [putV_same]; intro e2; cases e2
      · rw [putL_ne h1] at hk
        rw [putL_ne h2] at hk'
        rw [putV_ne h1] at e
        rw [putV_ne h2]
        exact h.own k k' g n c n' c' l1 v1 l2 v2 hne hf hf' hk hk' (putL_false hv) (putL_false hv') e
  · by_cases h1 : k = i
    · subst h1
      have h2 : k' ≠ k := fun e => hne e.symm
      rw [putV_same] at e
      simp at e
      rw [putL_ne h2] at hk'
      rw [putV_ne h2]
      intro e2
      have := (hH k' hk').newlt n2 e2
      omega
    · rw [putL_ne h1] at hk
      rw [putV_ne h1] at e
      by_cases h2 : k' = i
      · subst h2
        rw [putV_same]
        intro e2
        simp at e2
        have := (hH k hk).newlt n1 e
        omega
      · rw [putL_ne h2] at hk'
        rw [putV_ne h2]
        exact h.apart k k' g hne hk hk' n1 n2 e
/-- A store into operation a's new variable: what else is known stays. -/
theorem Keep.st {l : List Fact} {W0 w : World} {L : Nat → Bool} {u : Nat → Value} {i g : Nat} {v : Value} {cs : List Value} (h : Keep l W0 L u w) (hg : W0.heap.size ≤ g) (hn : (factAt l i).isNew = false) :
    Keep l W0 (putL L i) (putV u i v) (w.setCells g 0 cs) := by
  have hb : Below W0.heap.size w (w.setCells g 0 cs) := below_setCells hg _ _ _ (Below.refl _ _)
  have h0 := h.later (i := i) (v := v) (Below.refl _ _) hn
  exact ⟨hb.os.trans h0.os, hb.tape.trans h0.tape, hb.output.trans h0.output, Nat.le_trans h0.size hb.size, fun b hlt hs => by rw [hb.block b hlt]; exact h0.block b hlt hs, h0.apart, h0.own⟩
/-- A change of one old block. -/
theorem Keep.upd {l : List Fact} {W0 w w' : World} {L : Nat → Bool} {u : Nat → Value} {i g : Nat} {v : Value} (h : Keep l W0 L u w) (hf : (factAt l i).tgt = some g) (hn : (factAt l i).isNew = false)
    (ho : w'.os = w.os) (ht : w'.tape = w.tape) (hu : w'.output = w.output) (hz : w.heap.size ≤ w'.heap.size) (hw : ∀ x, x ≠ g → w'.heap[x]? = w.heap[x]?) : Keep l W0 (putL L i) (putV u i v) w' := by
  have h0 := h.later (i := i) (v := v) (Below.refl _ _) hn
  refine ⟨ho.trans h0.os, ht.trans h0.tape, hu.trans h0.output, Nat.le_trans h0.size hz, fun b hlt hs => ?_, h0.apart, h0.own⟩
  have hne : b ≠ g := by
    rintro rfl
    have := hs i hf
    rw [putL_same] at this; cases this
  rw [hw _ hne]
  exact h0.block b hlt hs
/-- A store into an old variable. -/
theorem Keep.sto {l : List Fact} {W0 w : World} {L : Nat → Bool} {u : Nat → Value} {i g : Nat} {v : Value} {cs : List Value} {xs : List α} (h : Keep l W0 L u w) (hf : factAt l i = .sto g R xs) :
    Keep l W0 (putL L i) (putV u i v) (w.setCells g 0 cs) := by
  have hb : Below 0 w (w.setCells g 0 cs) := below_setCells (Nat.zero_le _) _ _ _ (Below.refl _ _)
  exact h.upd (by rw [hf]; rfl) (by rw [hf]; rfl) hb.os hb.tape hb.output hb.size (fun x hx => heap_setCells _ _ _ _ _ hx)
/-- Behind the whole statement. -/
theorem Keep.below {l : List Fact} {W0 w : World} {L : Nat → Bool} {u : Nat → Value} (h : Keep l W0 L u w) {B : Nat} (hB : B ≤ W0.heap.size) (hs : ∀ k b, (factAt l k).tgt = some b → B ≤ b) : Below B W0 w :=
  ⟨h.os, h.tape, h.output, h.size, fun b hb => h.block b (by omega) (fun k hf => by have := hs k b hf; omega)⟩
theorem Keep.all {l : List Fact} {W0 w : World} {L : Nat → Bool} {u : Nat → Value} (h : Keep l W0 L u w) (hs : (l.any Fact.isSto) = false) : Below W0.heap.size W0 w :=
  h.below (Nat.le_refl _) (fun k b hf => by
    have hlt : k < l.length := by
      rcases Nat.lt_or_ge k l.length with h | h
      · exact h
      · rw [factAt_len h] at hf; cases hf
    rw [List.any_eq_false] at hs
    have hk : l[k]? = some l[k] := by simp [hlt]
    have h2 := hs l[k] (List.getElem_mem hlt)
    unfold factAt at hf
    rw [hk] at hf
    simp only [Option.getD_some] at hf
    unfold Fact.isSto at h2
    rw [hf] at h2
    exact absurd rfl h2)
end Go.Proofs.Ytogjbhkhdccahaa
namespace Go.Proofs.Ytogjbhkhdccahaa
open Go Go.RowKit
/-- A type of so many numbers. -/
structure TyOk {α : Type} (R : Rp α) (ty : TypeId) (m : Nat) : Prop where
  row : ∃ d, Try.prog.underlying ty = some d ∧ d.isRow = true
  size : (Try.prog.info? ty).map (·.size) = some (R.n * m)
section
variable {α : Type} {R : Rp α} {ops : Array Oper} {wt : Nat → Nat → Bool} {Q : Exit → Act → World → Prop} {fr : (Nat → Value) → Array Value} {df : List Deferred} {l : List Fact} {W0 : World} {i : Nat} {o : Oper}
/-- What an operand gives. -/
def Gives {α : Type} (R : Rp α) (wt : Nat → Nat → Bool) (fr : (Nat → Value) → Array Value) (df : List Deferred) (l : List Fact) (W0 : World) (i : Nat) (x : Operand) (xs : List α) : Prop :=
  ∀ L u w, (∀ k, L k = true → Holds l W0 k L u w) → (∀ d, wt i d = true → L d = true) → IsFs R ((⟨fr u, df⟩ : Act).eval x) xs
theorem Gives.h {x : Operand} {xs : List α} (h : Gives R wt fr df l W0 i x xs) {L : Nat → Bool} {u : Nat → Value} {w : World} (hG : ∀ k, L k = true → Holds l W0 k L u w) (hd : ∀ d, wt i d = true → L d = true) : IsFs R ((⟨fr u, df⟩ : Act).eval x) xs := h L u w hG hd
end
theorem results_cell1 {α : Type} {R : Rp α} {fn : Func} {p : Tmp} {ty : TypeId} (h : fn.results = #[.cell p ty]) (tmps : Array Value) (w : World) {g : Nat} {xs : List α}
    (hp : tmps.getD p undef = .pointer (some ⟨g, 0, none⟩)) (hx : HasFs R w g 0 xs) (hT : TyOk R ty xs.length) :
    ∃ r, (results fn tmps).run Try.prog w = .ok r w ∧ IsFs R r xs := by
  obtain ⟨cs, hc, hr⟩ := hx
  obtain ⟨d, h1, h2⟩ := hT.row
  have hp' : tmps[p]?.getD undef = .pointer (some ⟨g, 0, none⟩) := by simpa using hp
  have e1 := run_loadVar_mid (P := Try.prog) w g 0 ty cs d hr h1 h2 (by rw [hT.size, hc.len])
  exact ⟨.agg cs.toArray, by simp [results, h, hp', asAddr, e1], ⟨cs, rfl, hc⟩⟩
theorem ret_cell1 {α : Type} {R : Rp α} {fn : Func} {RR : Ending → World → Prop} {a : Act} {p : Tmp} {ty : TypeId} {w : World} {g : Nat} {xs : List α} (h : fn.results = #[.cell p ty])
    (hp : a.tmps.getD p undef = .pointer (some ⟨g, 0, none⟩)) (hx : HasFs R w g 0 xs) (hT : TyOk R ty xs.length)
    (hd : a.defers = []) (hR : ∀ r, IsFs R r xs → RR (.returned r) w) : bodyPost Try.prog fn RR .ret a w := by
  obtain ⟨r, e, i1⟩ := results_cell1 h a.tmps w hp hx hT
  exact bodyPost_ret e hd (hR r i1)
end Go.Proofs.Ytogjbhkhdccahaa
namespace Go.Proofs.Ytogjbhkhdccahaa
open Go Go.RowKit Go.Maps
theorem Fr.cellsS {w0 : World} {g : Nat} : ∀ (vs : List Value) (o : Nat) (w : World), Fr (fun x => x = g) w0 w → Fr (fun x => x = g) w0 (w.setCells g o vs)
  | [], _, _, h => h
  | v :: vs, o, w, h => by rw [World.setCells]; exact Fr.cellsS vs _ _ (h.one v)
/-- A row as a value. -/
def rowV (r : List UInt8) : Value := .agg (r.map bV).toArray
def rB64 : Rp (List UInt8) where
  n := 64
  rep := fun l cs => l.length = 64 ∧ cs = l.map bV
  pos := by omega
  len := fun l _ ⟨h, e⟩ => by rw [e, List.length_map, h]
  one := fun l _ ⟨_, e⟩ v hv => by
    rw [e, List.mem_map] at hv
    obtain ⟨c, _, rfl⟩ := hv
    rfl
theorem tyrow : TyOk rB64 67 1 := ⟨⟨_, Try.underlying67, rfl⟩, by kernel_rfl⟩
theorem allocrow (w : World) : (Instr.alloc 67 true (.tuple #[])).run Try.prog w = .ok (.pointer (some ⟨w.heap.size, 0, none⟩)) (w.alloc (.cells ((zero64.map bV).toArray) 67)) := by kernel_rfl
theorem hR_held {v x : Value} {ps : List MemPlace} (h : hR v = some (.held x, ps)) : v = x := by
  unfold hR at h
  split at h
  · cases h; rfl
  · cases h
theorem intK : Keyed Try.prog 3 := int_keyed Try.underlying3
theorem keyI (k : Nat) (hk : k ≤ 1000000) : keyOf Try.prog 3 (.int .i64 (k : Int)) = some (.int .i64 (k : Int)) := keyOf_int_mk Try.underlying3 (WalkArith.wf_i64 (by omega))
theorem zeroS (w : World) : (zeroValue 58).run Try.prog w = .ok nilS w := by kernel_rfl
/-- What a look-up finds. -/
theorem pend_look {w : World} {mb m k : Nat} {pend : Nat → List (List UInt8)} {D : DataW Value} {G : Nat → Prop} (ho : w.ownsMap Try.prog 3 hR mb m D) (hp : PendR w pend D G) (hk : k ≤ 1000000) :
    ∃ v, (Instr.lookup 59 (.map (some mb)) (.int .i64 (k : Int)) false).run Try.prog w = .ok v w ∧ D.atKey (.int .i64 k) (.held nilS) = .held v ∧ (pend k = [] → v = nilS) := by
  obtain ⟨v, ps, hr, hv⟩ := ho.lookup intK Try.underlying59 (zeroS w) (zd := .held nilS) (zp := []) rfl (keyI k hk)
  by_cases h0 : pend k = []
  · rw [atKey_of_not_has (hp.no k h0)] at hv ⊢
    obtain rfl := hR_held hv
    exact ⟨_, hr, rfl, fun _ => rfl⟩
  · obtain ⟨b, c, r, e, _⟩ := hp.row k h0
    rw [e] at hv
    obtain rfl := hR_held hv
    exact ⟨_, hr, e, fun h => absurd h h0⟩
theorem rowsV_app (l l' : List (List UInt8)) : rowsV (l ++ l') = rowsV l ++ rowsV l' := by unfold rowsV; rw [List.flatten_append, List.map_append]
theorem rows_at {w : World} {g E k : Nat} {l : List (List UInt8)} {r : List Value} (h : Blk w g (rowsV l ++ r) E) (hl : ∀ x ∈ l, x.length = 64) (hk : k < l.length) : w.rangeAt g (64 * k) ((l.getD k []).map bV) := by
  have e0 : l = l.take k ++ (l[k] :: l.drop (k + 1)) := by rw [← List.drop_eq_getElem_cons hk, List.take_append_drop]
  have e1 : rowsV (l[k] :: l.drop (k + 1)) = l[k].map bV ++ rowsV (l.drop (k + 1)) := by unfold rowsV; rw [List.flatten_cons, List.map_append]
  have e : rowsV l ++ r = rowsV (l.take k) ++ ((l.getD k []).map bV ++ (rowsV (l.drop (k + 1)) ++ r)) := by
    rw [List.getD_eq_getElem?_getD, List.getElem?_eq_getElem hk, Option.getD_some, ← List.append_assoc, ← List.append_assoc, List.append_assoc (rowsV (l.take k)), ← e1, ← rowsV_app, ← e0]
  have hlen : (rowsV (l.take k)).length = 64 * k := by rw [rowsV_len (fun x hx => hl x (List.mem_of_mem_take hx)), List.length_take, Nat.min_eq_left (Nat.le_of_lt hk)]
  rw [e] at h
  intro j v hv
  rw [h.cell, List.getElem?_append_right (by omega), hlen, Nat.add_sub_cancel_left, List.getElem?_append_left (List.getElem?_eq_some_iff.1 hv).1]
  exact hv
theorem ret_row {r : Value} {x : List UInt8} (h : IsFs rB64 r [x]) : r = rowV x := by
  obtain ⟨cs, rfl, hc⟩ := h
  obtain ⟨_, rfl⟩ := Lims.of_single hc
  rfl
theorem Bd.last_nil {d : Bd} {k : Nat} (h : d.pend k = []) : d.last k = d.good.getD k [] := by unfold Bd.last Bd.at; rw [h]; rfl
theorem Bd.last_cons {d : Bd} {k : Nat} (h : d.pend k ≠ []) : d.last k = (d.pend k).getD ((d.pend k).length - 1) [] := by
  unfold Bd.last Bd.at
  rw [if_neg (fun e => h (List.eq_nil_of_length_eq_zero e))]
theorem there_blk64 {w : World} {g E : Nat} (h : Blk w g (zero64.map bV) E) : w.there g 0 64 := fun j hj => ⟨by rw [h.cell, List.getElem?_eq_getElem (by rw [List.length_map, zero64_len]; omega)]; rfl, h.frozen _⟩
theorem there_row {w : World} {g : Nat} {x : List UInt8} (h : w.there g 0 64) (hx : x.length = 64) : w.there g 0 (x.map bV).toArray.size := by simpa [hx] using h
theorem inforow {x : List UInt8} (hx : x.length = 64) : (Try.prog.info? 67).map (·.size) = some (x.map bV).length := by rw [tyrow.size, List.length_map, hx]; rfl
theorem inforow' {x : List UInt8} (hx : x.length = 64) : (Try.prog.info? 67).map (·.size) = some (x.map bV).toArray.size := by rw [tyrow.size]; simp [hx, rB64]
theorem oneRow (x : List UInt8) : (x.map bV).toArray.all (·.oneCell') = true := all_oneCell_toArray fun v hv => by rw [List.mem_map] at hv; obtain ⟨c, _, rfl⟩ := hv; rfl
theorem row_stored {w : World} {g E : Nat} {x : List UInt8} (h : Blk w g (zero64.map bV) E) (hx : x.length = 64) : HasFs rB64 (w.setCells g 0 (x.map bV)) g 0 [x] :=
  ⟨_, Lims.single (R := rB64) ⟨hx, rfl⟩, World.rangeAt_setCells_same w g 0 _ (by rw [List.length_map, hx]; exact there_blk64 h)⟩
set_option maxRecDepth 100000 in
set_option maxHeartbeats 1000000 in
theorem bLast_any {w : World} {g k : Nat} {d : Bd} {F : Nat → Prop} (h : Dv w g d F) (hk : k < d.good.length) (hN : d.good.length ≤ 100000) :
    Calls Try.prog 40 #[.pointer (some ⟨g, 0, none⟩), .int .i64 (k : Int)] w fun e w' => e = .returned (rowV (d.last k)) ∧ Below w.heap.size w w' := by
  have HD := Lib.hid h
  have HK := Lib.hid hk; have HN := Lib.hid hN
  have hal := allocrow
  have HLT := Lib.hid (Bd.at_len h.ok hk (Nat.le_refl (d.pend k).length))
  clear h hk hN
  go_enter Try.func40, Try.ntmps40
  go_upto_region 1 with fail
  clear hal
  refine wp_gen (fun W => Blk W w.heap.size (zero64.map bV) 67 ∧ Below w.heap.size w W) ⟨by have := Blk.new w (zero64.map bV).toArray 67; rw [List.toList_toArray] at this; exact this, (Below.refl _ _).alloc (Nat.le_refl _) _⟩ (fun w1 hW => ?_)
  obtain ⟨hZ, hbel⟩ := hW
  obtain ⟨gb, c, mb, h1, hR⟩ := (HD.out.later hbel).ex
  obtain ⟨m, r, D, G, h2, h3, h4, h5, h6, h7, _⟩ := hR.ex
  have c0 : w1.cell? ⟨g, 0, none⟩ = some (.slice (some ⟨gb, 0, none⟩) d.good.length c) := h1.cell 0
  have c1 : w1.cell? ⟨g, 1, none⟩ = some (.map (some mb)) := h1.cell 1
  obtain ⟨v, hlk, hat, hnil⟩ := pend_look h5 h7 (k := k) (by have := HK.out; have := HN.out; omega)
  have ht : w1.there w.heap.size 0 64 := there_blk64 hZ
  have HZ := Lib.hid hZ
  have k0 : (0 : Int) ≤ (k : Int) := by omega
  have k1 : (k : Int) < (d.good.length : Int) := by have := HK.out; omega
  have kk : k < d.good.length := HK.out
  by_cases hp : d.pend k = []
  · obtain rfl := hnil hp
    have hld := rows_at h2 HD.out.ok.rows HK.out
    rw [Nat.mul_comm 64 k, ← Bd.last_nil hp] at hld
    clear h1 hR h2 h3 h4 h5 h6 h7 hat hnil hp hZ
    unfold nilS at *
    go_wp2_with (first
      | (refine wpList_load_mid rfl 67 (.tmp 26) rfl gb (k * 64) rfl ((d.last k).map bV) _ hld Try.underlying67 rfl (inforow (HLT.out)) ?_)
      | (refine wpList_store_mid rfl 67 (.tmp 4) (.tmp 27) rfl w.heap.size 0 ((d.last k).map bV).toArray rfl rfl (there_row ht HLT.out) (inforow' HLT.out) (oneRow _) ?_))
    exact ret_cell1 (R := rB64) Try.results40 rfl (row_stored HZ.out HLT.out) tyrow rfl (fun r hr => ⟨by rw [ret_row hr], hbel.trans ((Fr.cellsS _ _ _ (Fr.refl _ _)).below hbel.size (fun x e => by omega))⟩)
  · obtain ⟨b, c', r', hat2, hB, hrl, hc1, hc2, _⟩ := h7.row k hp
    rw [hat] at hat2
    cases hat2
    obtain ⟨i, hi⟩ : ∃ i, (d.pend k).length = i + 1 := ⟨(d.pend k).length - 1, by have : (d.pend k).length ≠ 0 := fun e => hp (List.eq_nil_of_length_eq_zero e); omega⟩
    have hld := rows_at hB (HD.out.ok.pend k) (k := i) (by omega)
    rw [Nat.mul_comm 64 i, show (d.pend k).getD i [] = d.last k by rw [Bd.last_cons hp, hi]; rfl] at hld
    rw [hi] at hlk
    have i0 : (0 : Int) ≤ (i : Int) := by omega
    have i1 : (i : Int) + 1 ≤ 9223372036854775807 := by unfold maxLen at hc2; omega
    have hw : IntKind.i64.wrap (i : Int) = (i : Int) := by rw [IntKind.wrap_i64]; omega
    have hw2 : IntKind.i64.wrap ((i : Int) + 1 - 1) = (i : Int) := by rw [IntKind.wrap_i64]; omega
    clear h1 hR h2 h3 h4 h5 h6 h7 hat hnil hp hZ hB hrl hc1 hc2 hi
    go_wp2_with (first
      | (refine wpList_load_mid rfl 67 (.tmp 19) rfl b (i * 64) rfl ((d.last k).map bV) _ hld Try.underlying67 rfl (inforow (HLT.out)) ?_)
      | (refine wpList_store_mid rfl 67 (.tmp 4) (.tmp 20) rfl w.heap.size 0 ((d.last k).map bV).toArray rfl rfl (there_row ht HLT.out) (inforow' HLT.out) (oneRow _) ?_))
    exact ret_cell1 (R := rB64) Try.results40 rfl (row_stored HZ.out HLT.out) tyrow rfl (fun r hr => ⟨by rw [ret_row hr], hbel.trans ((Fr.cellsS _ _ _ (Fr.refl _ _)).below hbel.size (fun x e => by omega))⟩)
end Go.Proofs.Ytogjbhkhdccahaa
namespace Go.Proofs.Ytogjbhkhdccahaa
open Go Go.RowKit Go.Maps
theorem infoRow : ∃ i, Try.prog.info? 67 = some i ∧ i.zero = some (rowV zero64) ∧ i.size = 64 ∧ i.bytes = 64 := by
  have h : (Try.prog.info? 67).map (fun i => (i.zero, i.size, i.bytes)) = some (some (rowV zero64), 64, 64) := by kernel_rfl
  obtain ⟨i, hi, e⟩ := Option.map_eq_some_iff.1 h
  simp only [Prod.mk.injEq] at e
  exact ⟨i, hi, e.1, e.2.1, e.2.2⟩
theorem zero_rows (n : Nat) : rowsV (List.replicate n zero64) = List.replicate (n * 64) (bV 0) := by
  induction n with
  | zero => rfl
  | succ n ih =>
    rw [List.replicate_succ]
    show rowsV ([zero64] ++ _) = _
    rw [rowsV_app, ih, Nat.succ_mul, Nat.add_comm, ← List.replicate_append_replicate]
    rfl
theorem zero_cells : (rowV zero64).cells = (List.replicate 64 (bV 0)).toArray := by kernel_rfl
theorem made_const {Z : Array Value} {v : Value} (hz : 0 < Z.size) (h : ∀ j, j < Z.size → Z[j]! = v) (m : Nat) : madeCells Z m = (List.replicate m v).toArray := by
  apply Array.ext
  · simp [madeCells]
  · intro i h1 h2
    simp only [madeCells, Array.getElem_map, Array.getElem_range, List.getElem_toArray, List.getElem_replicate]
    exact h _ (Nat.mod_lt _ hz)
theorem made_zero (m : Nat) : madeCells (List.replicate 64 (bV 0)).toArray m = (List.replicate m (bV 0)).toArray :=
  made_const (by rw [List.size_toArray, List.length_replicate]; omega) (fun j hj => by rw [getElem!_pos (List.replicate 64 (bV 0)).toArray j hj]; simp only [List.getElem_toArray, List.getElem_replicate]) m
theorem make_rows (n : Nat) (h : n ≤ 100000) (w : World) : (Instr.makeSlice 58 (.int .i64 (n : Int)) (.int .i64 (n : Int))).run Try.prog w = .ok (.slice (some ⟨w.heap.size, 0, none⟩) n n) (w.alloc (.cells (rowsV (List.replicate n zero64)).toArray 67)) := by
  obtain ⟨i, hi, hz, hs, hb⟩ := infoRow
  have hr := run_make (P := Try.prog) w 58 67 i _ Try.underlying58 hi hz .i64 .i64 n n (by omega) (Int.le_refl _) (by rw [hb]; omega) (by omega)
  simp only [Int.toNat_natCast, hs, zero_cells, made_zero, ← zero_rows] at hr
  exact hr
theorem pend_none (w : World) (G : Nat → Prop) : PendR w (fun _ => []) (.map []) G :=
  ⟨fun kl h => by rw [has_eq] at h; simp at h, fun k _ => rfl, fun k h => absurd rfl h, fun k h => absurd rfl h, fun j k b n c n' c' h _ => by
    rw [atKey_of_not_has rfl] at h
    simp [nilS] at h⟩
theorem new_dv {n : Nat} (w : World) (h0 : n ≤ 1000) : Dv (((w.alloc (.cells (rowsV (List.replicate n zero64)).toArray 67)).alloc (.map #[] 0)).alloc (.cells #[.slice (some ⟨w.heap.size, 0, none⟩) n n, .map (some (w.heap.size + 1)), .int .i64 0, .int .i64 0, .bool false, .bool false] 61))
    (w.heap.size + 1 + 1) (Bd.new n) (fun x => x = w.heap.size + 1 + 1 ∨ x = w.heap.size ∨ x = w.heap.size + 1 ∨ False) := by
  have e1 : (w.alloc (.cells (rowsV (List.replicate n zero64)).toArray 67)).heap.size = w.heap.size + 1 := by simp
  have e2 : ((w.alloc (.cells (rowsV (List.replicate n zero64)).toArray 67)).alloc (.map #[] 0)).heap.size = w.heap.size + 1 + 1 := by simp
  refine ⟨Bd.new_ok n, w.heap.size, n, w.heap.size + 1, ?_, 0, [], .map [], fun _ => False, ?_, ?_, ?_, ?_, Nat.le_refl _, pend_none _ _, by omega, by omega, by omega, fun x => Iff.rfl, fun h => h, fun h => h, fun h => h, fun _ h => h.elim⟩
  · have h := Blk.new ((w.alloc (.cells (rowsV (List.replicate n zero64)).toArray 67)).alloc (.map #[] 0)) #[.slice (some ⟨w.heap.size, 0, none⟩) n n, .map (some (w.heap.size + 1)), .int .i64 0, .int .i64 0, .bool false, .bool false] 61
    rw [e2] at h
    have e : (Bd.new n).good.length = n := List.length_replicate
    unfold dvS
    rw [e]
    exact h
  · have h := (Blk.new w (rowsV (List.replicate n zero64)).toArray 67)
    rw [List.toList_toArray] at h
    rw [List.append_nil]
    exact (h.alloc _).alloc _
  · show (List.replicate n zero64).length ≤ n
    rw [List.length_replicate]; omega
  · unfold maxLen; omega
  · have h := World.ownsMap_made (w.alloc (.cells (rowsV (List.replicate n zero64)).toArray 67)) Try.prog 3 hR
    rw [e1] at h
    exact h.alloc _
set_option maxRecDepth 100000 in
set_option maxHeartbeats 1000000 in
theorem bNew_any {n : Nat} {w : World} (h0 : 0 < n) (h1 : n ≤ 1000) : Calls Try.prog 20 #[.int .i64 (n : Int)] w fun e w' => ∃ g F, e = .returned (.tuple #[.pointer (some ⟨g, 0, none⟩), .int .i64 0]) ∧ Dv w' g (Bd.new n) F ∧ (∀ x, F x → w.heap.size ≤ x) ∧ Below w.heap.size w w' := by
  have hmk := make_rows n (by omega) w
  have hmm := @run_makeMap Try.prog
  have a1 : decide ((n : Int) < 1) = false := decide_eq_false (by omega)
  have a2 : decide ((65536 : Int) < (n : Int)) = false := decide_eq_false (by omega)
  have a3 : decide (n < 1) = false := decide_eq_false (by omega)
  have a4 : decide (65536 < n) = false := decide_eq_false (by omega)
  have H0 := Lib.hid h0; have H1 := Lib.hid h1
  clear h0 h1
  go_enter Try.func20, Try.ntmps20
  go_wp2
  go_ret2
  refine ⟨w.heap.size + 1 + 1, fun x => x = w.heap.size + 1 + 1 ∨ x = w.heap.size ∨ x = w.heap.size + 1 ∨ False, rfl, ?_, fun x hx => by rcases hx with rfl | rfl | rfl | h <;> first | omega | exact h.elim, ((((Below.refl _ _).alloc (Nat.le_refl _) _).alloc (by simp) _).alloc (by simp; omega) _)⟩
  exact new_dv w H1.out
theorem rd_range {w : World} {g : Nat} {l : List UInt8} (h : w.rangeAt g 0 (l.map bV)) (hl : l.length = 64) : RdB w (some ⟨g, 0, none⟩) 64 64 l :=
  ⟨hl, Nat.le_refl _, by unfold maxLen; omega, fun i hi => ⟨g, 0, rfl, h i (bV l[i]) (by rw [List.getElem?_map, List.getElem?_eq_getElem hi]; rfl)⟩, fun e => by cases e⟩
theorem there_new (w : World) : (w.alloc (.cells (zero64.map bV).toArray 67)).there w.heap.size 0 64 := there_blk64 (by have := Blk.new w (zero64.map bV).toArray 67; rw [List.toList_toArray] at this; exact this)
set_option maxRecDepth 100000 in
set_option maxHeartbeats 1000000 in
theorem bRead_any {w : World} {g k : Nat} {d : Bd} {F : Nat → Prop} (h : Dv w g d F) (hk : k < d.good.length) (hN : d.good.length ≤ 100000) :
    Calls Try.prog 45 #[.pointer (some ⟨g, 0, none⟩), .int .i64 (k : Int)] w fun e w' => ∃ q, e = .returned (.tuple #[.slice (some ⟨q, 0, none⟩) 64 64, .int .i64 0]) ∧ w.heap.size ≤ q ∧ RdB w' (some ⟨q, 0, none⟩) 64 64 (d.last k) ∧ Below w.heap.size w w' := by
  have HD := Lib.hid h
  have HK := Lib.hid hk; have HN := Lib.hid hN
  have hal := allocrow
  have HLT : Hid ((d.last k).length = 64) := Lib.hid (Bd.at_len h.ok hk (Nat.le_refl (d.pend k).length))
  have k0 : decide ((k : Int) < 0) = false := decide_eq_false (by omega)
  have k1 : decide ((d.good.length : Int) ≤ (k : Int)) = false := decide_eq_false (by omega)
  have k2 : decide (d.good.length ≤ k) = false := decide_eq_false (by omega)
  clear h hk hN
  go_enter Try.func45, Try.ntmps45
  go_wp2_with (first
    | (go_at_call 23; (with_reducible refine (bLen_any HD.out).mono ?_); rintro e wz ⟨rfl, rfl⟩)
    | (go_at_call 40; (with_reducible refine (bLast_any HD.out HK.out HN.out).mono ?_); rintro e w1 ⟨rfl, hb⟩; unfold rowV)
    | (refine wpList_store_mid rfl 67 (.tmp 6) (.tmp 17) rfl w1.heap.size 0 ((d.last k).map bV).toArray rfl rfl (there_row (there_new w1) HLT.out) (inforow' HLT.out) (oneRow _) ?_))
  go_ret2
  have hs := hb.size
  exact ⟨w1.heap.size, rfl, hb.size, rd_range (World.rangeAt_setCells_same _ _ 0 _ (by rw [List.length_map, HLT.out]; exact there_new w1)) HLT.out, (hb.alloc hb.size _).trans ((Fr.cellsS _ _ _ (Fr.refl _ _)).below (by simp; omega) (fun x e => by omega))⟩
end Go.Proofs.Ytogjbhkhdccahaa
namespace Go.Proofs.Ytogjbhkhdccahaa
open Go.RowKit
/-- Bytes as a string. -/
def bs (l : List UInt8) : ByteArray := ⟨l.toArray⟩
theorem conv_any {w : World} {a : Option Addr} {n cap : Nat} {l : List UInt8} (h : RdB w a n cap l) : (convert 28 9 (.slice a n cap)).run Try.prog w = .ok (.string (bs l)) w := by
  have hl := h.hlen
  rcases h.cases with ⟨rfl, rfl⟩ | ⟨b, o, hn, rfl, hc⟩
  · cases a with
    | none => rw [run_convert_bytes_string w 28 9 5 none 0 cap Try.underlying28 Try.underlying5 Try.underlying9]; rfl
    | some ad => exact run_convert_bytes_back w 28 9 5 ad cap [] Try.underlying28 Try.underlying5 Try.underlying9 (fun j hj => by simp at hj)
  · subst hl
    exact run_convert_bytes_back w 28 9 5 ⟨b, o, none⟩ cap l Try.underlying28 Try.underlying5 Try.underlying9 (fun j hj => by rw [addr_add]; exact hc j hj)
theorem bs_toList (l : List UInt8) : (bs l).toList = l := ByteArray.toList_mk l
theorem bs_eqT (l m : List UInt8) : ((bs l).toList == (bs m).toList) = decide (l = m) := by
  rw [bs_toList, bs_toList]
  by_cases h : l = m
  · subst h; simp
  · rw [decide_eq_false h, beq_eq_false_iff_ne]; exact h
end Go.Proofs.Ytogjbhkhdccahaa
namespace Go.Proofs.Ytogjbhkhdccahaa
open Go Go.RowKit
section
variable {α : Type} {R : Rp α} {ops : Array Oper} {wt : Nat → Nat → Bool} {Q : Exit → Act → World → Prop} {fr : (Nat → Value) → Array Value} {df : List Deferred} {l : List Fact} {W0 : World} {i : Nat} {o : Oper}
end
end Go.Proofs.Ytogjbhkhdccahaa
namespace Go.Proofs.Ytogjbhkhdccahaa
open Go Go.RowKit
/-- a waits for b, through others. -/
inductive Path (wt : Nat → Nat → Bool) : Nat → Nat → Prop
  | one {a b : Nat} : wt a b = true → Path wt a b
  | cons {a c b : Nat} : wt a c = true → Path wt c b → Path wt a b
theorem Path.listed {wt : Nat → Nat → Bool} {L : Nat → Bool} (hcl : ∀ k d, L k = true → wt k d = true → L d = true) {a b : Nat} (h : Path wt a b) (ha : L a = true) : L b = true := by
  induction h with
  | one h => exact hcl _ _ ha h
  | cons h _ ih => exact ih (hcl _ _ ha h)
theorem Path.first {wt : Nat → Nat → Bool} {L : Nat → Bool} {a b : Nat} (hcl : ∀ k d, L k = true → wt k d = true → L d = true) (hdep : ∀ d, wt a d = true → L d = true) (h : Path wt a b) : L b = true := by
  cases h with
  | one h => exact hdep _ h
  | cons h h2 => exact h2.listed hcl (hdep _ h)
theorem putL_false' {L : Nat → Bool} {i j : Nat} (h : putL L i j = false) : j ≠ i := by
  rintro rfl; rw [putL_same] at h; cases h
section
variable {α : Type} {R : Rp α} {ops : Array Oper} {wt : Nat → Nat → Bool} {Q : Exit → Act → World → Prop} {fr : (Nat → Value) → Array Value} {df : List Deferred} {l : List Fact} {W0 : World} {i : Nat} {o : Oper}
end
end Go.Proofs.Ytogjbhkhdccahaa
namespace Go.Proofs.Ytogjbhkhdccahaa
open Go Go.RowKit Go.Maps
theorem foldl_set : ∀ (vals pre post : List Value), post.length = vals.length → (vals.zipIdx pre.length).foldl (fun (cs : Array Value) (p : Value × Nat) => cs.setIfInBounds p.2 p.1) (pre ++ post).toArray = (pre ++ vals).toArray
  | [], pre, post, h => by rw [List.eq_nil_of_length_eq_zero h]; rfl
  | v :: vals, pre, post, h => by
    cases post with
    | nil => simp at h
    | cons p post =>
      rw [List.zipIdx_cons, List.foldl_cons]
      have e : (pre ++ p :: post).toArray.setIfInBounds pre.length v = ((pre ++ [v]) ++ post).toArray := by
        rw [List.setIfInBounds_toArray, List.set_append_right _ _ (Nat.le_refl _), Nat.sub_self, List.set_cons_zero]; simp
      show List.foldl _ ((pre ++ p :: post).toArray.setIfInBounds pre.length v) _ = _
      rw [e, show pre.length + 1 = (pre ++ [v]).length by simp, foldl_set vals (pre ++ [v]) post (by simpa using h)]
      simp
theorem cells_row (x : List UInt8) : (rowV x).cells = (x.map bV).toArray := rfl
set_option maxRecDepth 100000 in
theorem build_row {x : List UInt8} (hx : x.length = 64) (w : World) : (Instr.buildSlice 58 1 #[(0, rowV x)]).run Try.prog w = .ok (.slice (some ⟨w.heap.size, 0, none⟩) 1 1) (w.alloc (.cells (x.map bV).toArray 67)) := by
  obtain ⟨i, hi, hz, hs, hb⟩ := infoRow
  have hf : Instr.fill (fun i => some (i * 64, 64)) ((Array.range 64).map ((List.replicate 64 (bV 0)).toArray[· % (List.replicate 64 (bV 0)).toArray.size]!)) [(0, rowV x)] = some (x.map bV).toArray := by
    have e0 : (Array.range 64).map ((List.replicate 64 (bV 0)).toArray[· % (List.replicate 64 (bV 0)).toArray.size]!) = ([] ++ List.replicate 64 (bV 0)).toArray := made_zero 64
    rw [e0]
    have h1 := foldl_set (x.map bV) [] (List.replicate 64 (bV 0)) (by simp [hx])
    unfold Instr.fill
    simp only [cells_row, Nat.zero_mul, Nat.zero_add]
    rw [if_neg (by simp [hx])]
    unfold Instr.fill
    congr 1
    rw [← Array.foldl_toList]
    simpa using h1
  obtain ⟨Z, hZ⟩ : ∃ Z, Z = (List.replicate 64 (bV 0)).toArray := ⟨_, rfl⟩
  have hc : (rowV zero64).cells = Z := by rw [hZ]; exact zero_cells
  rw [← hZ] at hf
  clear hZ
  obtain ⟨A, hA⟩ : ∃ A, A = (Array.range 64).map (fun j => Z[j % Z.size]!) := ⟨_, rfl⟩
  rw [← hA] at hf
  simp [Instr.buildSlice, Sem.run_bind, run_underlying Try.underlying58, sizeOf, typeInfo, zeroValue, hi, hs, hz, hc, newRow]
  rw [← hA, hf]
  rfl
/-- What is known of the operations' values in the midst of Write's last statement: the first fourteen are X; then the new slice of one row; then the longer slice. -/
def GW (w1 : World) (x : List UInt8) (X : List Value) (P15 : Value → World → Prop) (i : Nat) (L : Nat → Bool) (u : Nat → Value) (W : World) : Prop :=
  if i < 14 then u i = X.getD i undef else if i = 14 then (∃ q, u 14 = .slice (some ⟨q, 0, none⟩) 1 1 ∧ w1.heap.size ≤ q ∧ (L 15 = false → Blk W q (x.map bV) 67)) else if i = 15 then (L 16 = false → P15 (u 15) W) else True
structure JW (w1 : World) (v : Value) (P16 : World → Prop) (L : Nat → Bool) (_u : Nat → Value) (W : World) : Prop where
  old : L 15 = false → Below w1.heap.size w1 W
  fr : L 16 = false → Fr (fun y => v.ownBlock = some y) w1 W
  done : L 16 = true → P16 W
theorem GW.keep {w1 W W' : World} {x : List UInt8} {X : List Value} {P15 : Value → World → Prop} (hP : ∀ v w w', P15 v w → Below w.heap.size w w' → P15 v w') {i k : Nat} {L : Nat → Bool} {u : Nat → Value} {z : Value} (hki : k ≠ i) (hb : Below W.heap.size W W') (h : GW w1 x X P15 k L u W) : GW w1 x X P15 k (putL L i) (putV u i z) W' := by
  unfold GW at *
  by_cases h1 : k < 14
  · rw [if_pos h1] at h ⊢
    rw [putV_ne hki]; exact h
  · rw [if_neg h1] at h ⊢
    by_cases h2 : k = 14
    · rw [if_pos h2] at h ⊢
      obtain ⟨q, e, hq, hB⟩ := h
      exact ⟨q, by rw [putV_ne (by omega)]; exact e, hq, fun hl => (hB (putL_false hl)).below hb (hB (putL_false hl)).lt⟩
    · rw [if_neg h2] at h ⊢
      by_cases h3 : k = 15
      · rw [if_pos h3] at h ⊢
        intro hl
        rw [putV_ne (by omega)]
        exact hP _ _ _ (h (putL_false hl)) hb
      · rw [if_neg h3]; trivial
section
variable {w1 : World} {x : List UInt8} {X : List Value} {v : Value} {P15 : Value → World → Prop} {P16 : World → Prop} {ops : Array Oper} {wt : Nat → Nat → Bool} {Q : Exit → Act → World → Prop} {fr : (Nat → Value) → Array Value} {df : List Deferred} {i : Nat} {o : Oper}
theorem soft_GW (hP : ∀ v w w', P15 v w → Below w.heap.size w w' → P15 v w') : Soft wt (GW w1 x X P15) :=
  ⟨fun k L u i v w hki _ h => GW.keep hP hki (Below.refl _ _) h, fun k L u w w' hb h => by
    unfold GW at *
    by_cases h1 : k < 14
    · rw [if_pos h1] at h ⊢; exact h
    · rw [if_neg h1] at h ⊢
      by_cases h2 : k = 14
      · rw [if_pos h2] at h ⊢
        obtain ⟨q, e, hq, hB⟩ := h
        exact ⟨q, e, hq, fun hl => (hB hl).below hb (hB hl).lt⟩
      · rw [if_neg h2] at h ⊢
        by_cases h3 : k = 15
        · rw [if_pos h3] at h ⊢
          exact fun hl => hP _ _ _ (h hl) hb
        · rw [if_neg h3]; trivial⟩
theorem not16 {L : Nat → Bool} {a : Nat} (hcl : ∀ k d, L k = true → wt k d = true → L d = true) (hp : Path wt a i) (hL : L i = false) : L a = false := by
  cases h : L a with
  | false => rfl
  | true => have := hp.listed hcl h; rw [hL] at this; cases this
theorem stepP (hP : ∀ v w w', P15 v w → Below w.heap.size w w' → P15 v w') (hi : i < 14) (hg : o.guard = none) (hp : Path wt 16 i)
    (hr : ∀ u W, Fr (fun y => v.ownBlock = some y) w1 W → (∀ j, wt i j = true → j < 14 → u j = X.getD j undef) → (execOp (⟨fr u, df⟩ : Act).eval o).run Try.prog W = .ok (.value (X.getD i undef)) W) :
    StepAt Try.prog ops wt Q fr df (GW w1 x X P15) (JW w1 v P16) i o := by
  intro L u W hcl hJ hG hL hdep K hK
  rw [if_pos (by simp [Region.wanted, hg])]
  have h16 := not16 hcl hp hL
  unfold Oper.wp
  rw [hr u W (hJ.fr h16) (fun j hw hj => by have := hG j (hdep j hw); unfold GW at this; rw [if_pos hj] at this; exact this)]
  refine hK.out _ W ⟨fun h => hJ.old (putL_false h), fun _ => hJ.fr h16, fun h => ?_⟩ (fun k hk hki hwk h => GW.keep hP hki (Below.refl _ _) h) ?_
  · rw [putL_ne (by omega)] at h; rw [h16] at h; cases h
  · unfold GW; rw [if_pos hi, putV_same]
theorem stepB (hP : ∀ v w w', P15 v w → Below w.heap.size w w' → P15 v w') (hg : o.guard = none) (hp : Path wt 15 14) (hp2 : Path wt 16 14) {y : Operand} (ho : o.op = .buildSlice 58 1 #[(0, y)]) (hx : x.length = 64)
    (hy : ∀ u, (∀ j, wt 14 j = true → j < 14 → u j = X.getD j undef) → (⟨fr u, df⟩ : Act).eval y = rowV x) : StepAt Try.prog ops wt Q fr df (GW w1 x X P15) (JW w1 v P16) 14 o := by
  intro L u W hcl hJ hG hL hdep K hK
  rw [if_pos (by simp [Region.wanted, hg])]
  have h15 := not16 hcl hp hL
  have h16 := not16 hcl hp2 hL
  have hyv := hy u (fun j hw hj => by have := hG j (hdep j hw); unfold GW at this; rw [if_pos hj] at this; exact this)
  have hrun : (execOp (⟨fr u, df⟩ : Act).eval o).run Try.prog W = .ok (.value (.slice (some ⟨W.heap.size, 0, none⟩) 1 1)) (W.alloc (.cells (x.map bV).toArray 67)) := by
    unfold execOp
    simp only [ho]
    simp [hyv, build_row hx W]
  unfold Oper.wp
  rw [hrun]
  have hb : Below W.heap.size W (W.alloc (.cells (x.map bV).toArray 67)) := (Below.refl _ _).alloc (Nat.le_refl _) _
  refine hK.out _ _ ⟨fun h => Below.call (hJ.old h15) hb, fun _ => (hJ.fr h16).call hb, fun h => ?_⟩ (fun k hk hki hwk h => GW.keep hP hki hb h) ?_
  · rw [putL_ne (by omega)] at h; rw [h16] at h; cases h
  · unfold GW
    rw [if_neg (by omega), if_pos rfl, putV_same]
    exact ⟨_, rfl, (hJ.fr h16).size, fun _ => by have := Blk.new W (x.map bV).toArray 67; rw [List.toList_toArray] at this; exact this⟩
/-- What the longer slice is. -/
def P15W (w1 : World) (v : Value) (n : Nat) (xs : List Value) (v' : Value) (W : World) : Prop :=
  W.ownsRow 0 67 64 v' (n + 1) xs ∧ (v'.ownBlock = v.ownBlock ∨ ∃ q, v'.ownBlock = some q ∧ w1.heap.size ≤ q)
theorem ownsRow_below {w w' : World} {E n s : Nat} {v : Value} {xs : List Value} (h : w.ownsRow 0 E s v n xs) (hb : Below w.heap.size w w') : w'.ownsRow 0 E s v n xs := by
  obtain ⟨h1, h2⟩ := h
  refine ⟨h1, ?_⟩
  rcases h2 with h2 | ⟨g, c, cur, hv, hg, hh, r⟩
  · exact .inl h2
  · refine .inr ⟨g, c, cur, hv, hg, ?_, r⟩
    rw [hb.block g (by
      rcases Nat.lt_or_ge g w.heap.size with h | h
      · exact h
      · rw [Array.getElem?_eq_none h] at hh; cases hh)]
    exact hh
theorem ownsRow_grown {w w' : World} {E n s : Nat} {v : Value} {xs : List Value} {row : Option Nat} (h : w.ownsRow 0 E s v n xs) (hg : w.grownBy w' row) (hne : v.ownBlock ≠ row) : w'.ownsRow 0 E s v n xs := by
  obtain ⟨h1, h2⟩ := h
  refine ⟨h1, ?_⟩
  rcases h2 with h2 | ⟨g, c, cur, hv, hg0, hh, r⟩
  · exact .inl h2
  · refine .inr ⟨g, c, cur, hv, hg0, ?_, r⟩
    rw [hg.block g (by
      rcases Nat.lt_or_ge g w.heap.size with h | h
      · exact h
      · rw [Array.getElem?_eq_none h] at hh; cases hh) (fun e => hne (by rw [hv]; exact e))]
    exact hh
theorem P15W_later {n : Nat} {xs : List Value} : ∀ v' w w', P15W w1 v n xs v' w → Below w.heap.size w w' → P15W w1 v n xs v' w' := fun _ _ _ h hb => ⟨ownsRow_below h.1 hb, h.2⟩
theorem stepA {n : Nat} {xs : List Value} (hg : o.guard = none) (hp : Path wt 16 15) {s y : Operand} (ho : o.op = .call { callee := .builtin .append, args := #[s, y], argTypes := #[58, 58] }) (hx : x.length = 64)
    (hw10 : wt 15 10 = true) (hw14 : wt 15 14 = true) (hX : X.getD 10 undef = v) (hs : ∀ u, (⟨fr u, df⟩ : Act).eval s = u 10) (hy : ∀ u, (⟨fr u, df⟩ : Act).eval y = u 14)
    (hown : w1.ownsRow 0 67 64 v n xs) (hn : n ≤ 1000000) : StepAt Try.prog ops wt Q fr df (GW w1 x X (P15W w1 v n (xs ++ x.map bV))) (JW w1 v P16) 15 o := by
  intro L u W hcl hJ hG hL hdep K hK
  rw [if_pos (by simp [Region.wanted, hg])]
  have h16 := not16 hcl hp hL
  have h10 := hG 10 (hdep 10 hw10)
  have h14 := hG 14 (hdep 14 hw14)
  unfold GW at h10 h14
  rw [if_pos (by omega)] at h10
  rw [if_neg (by omega), if_pos rfl] at h14
  rw [hX] at h10
  obtain ⟨q, e14, hq, hB⟩ := h14
  have hB := hB hL
  obtain ⟨i0, hi, hz, hsz, hby⟩ := infoRow
  obtain ⟨v', w', hrun, ho2, hgr, _, hloc⟩ := run_append_own_at (P := Try.prog) W 0 58 o.type 67 i0 _ 64 64 Try.underlying58 hi hz hsz hby (by rw [zero_cells]; simp) (by omega) v n xs (ownsRow_below hown (hJ.old hL)) ⟨q, 0, none⟩ 1 1 (x.map bV) (by simp [hx])
    (fun j z hz => by rw [Addr.add_mid, Nat.zero_add, hB.cell]; exact hz) (fun z hz => by rw [List.mem_map] at hz; obtain ⟨c, _, rfl⟩ := hz; rfl) (by unfold maxLen; omega) (by omega) (Nat.zero_le _)
  have hrun' : (execOp (⟨fr u, df⟩ : Act).eval o).run Try.prog W = .ok (.value v') w' := by
    unfold execOp
    simp only [ho, resolve, invoke, builtin, Sem.run_bind, Sem.run_pure, Result.andThen_ok, List.map_toArray, List.map_cons, List.map_nil, hs, hy, h10, e14, hrun]
  unfold Oper.wp
  rw [hrun']
  have hfr := hJ.fr h16
  refine hK.out _ _ ⟨fun h => ?_, fun _ => hfr.grown hgr (fun y hy => .inl hy), fun h => ?_⟩ (fun k hk hki hwk h => ?_) ?_
  · rw [putL_same] at h; cases h
  · rw [putL_ne (by omega)] at h; rw [h16] at h; cases h
  · unfold GW at h ⊢
    by_cases h1 : k < 14
    · rw [if_pos h1] at h ⊢; rw [putV_ne hki]; exact h
    · rw [if_neg h1] at h ⊢
      by_cases h2 : k = 14
      · rw [if_pos h2] at h ⊢
        obtain ⟨q, e, hq, _⟩ := h
        exact ⟨q, by rw [putV_ne (by omega)]; exact e, hq, fun hl => by rw [putL_same] at hl; cases hl⟩
      · rw [if_neg h2] at h ⊢
        rw [if_neg hki]; trivial
  · unfold GW
    rw [if_neg (by omega), if_neg (by omega), if_pos rfl, putV_same]
    intro _
    refine ⟨ho2, ?_⟩
    rcases hloc with h | h
    · exact .inl h
    · exact .inr ⟨_, h, hfr.size⟩
/-- Behind the whole statement. -/
def P16W (w1 : World) (v : Value) (mb m k n : Nat) (D : DataW Value) (xs : List Value) (W : World) : Prop :=
  ∃ v', P15W w1 v n xs v' W ∧ W.ownsMap Try.prog 3 hR mb (m + 1) (D.put (.int .i64 (k : Int)) (.held v')) ∧ Fr (fun y => v.ownBlock = some y ∨ y = mb) w1 W
theorem stepU {n mb m k : Nat} {xs : List Value} {D : DataW Value} (hg : o.guard = none) {a b c : Operand} (ho : o.op = .mapUpdate 59 a b c) (hw3 : wt 16 3 = true) (hw4 : wt 16 4 = true) (hw15 : wt 16 15 = true)
    (hX3 : X.getD 3 undef = .map (some mb)) (hX4 : X.getD 4 undef = .int .i64 (k : Int)) (ha : ∀ u, (⟨fr u, df⟩ : Act).eval a = u 3) (hb : ∀ u, (⟨fr u, df⟩ : Act).eval b = u 4) (hc : ∀ u, (⟨fr u, df⟩ : Act).eval c = u 15)
    (hmap : w1.ownsMap Try.prog 3 hR mb m D) (hm : m < 1000000) (hk : k ≤ 1000000) (hvm : v.ownBlock ≠ some mb) :
    StepAt Try.prog ops wt Q fr df (GW w1 x X (P15W w1 v n xs)) (JW w1 v (P16W w1 v mb m k n D xs)) 16 o := by
  intro L u W hcl hJ hG hL hdep K hK
  rw [if_pos (by simp [Region.wanted, hg])]
  have h3 := hG 3 (hdep 3 hw3)
  have h4 := hG 4 (hdep 4 hw4)
  have h15 := hG 15 (hdep 15 hw15)
  unfold GW at h3 h4 h15
  rw [if_pos (by omega), hX3] at h3
  rw [if_pos (by omega), hX4] at h4
  rw [if_neg (by omega), if_neg (by omega), if_pos rfl] at h15
  have h15 := h15 hL
  have hfr := hJ.fr hL
  have hmW := ownsMap_frame hfr hmap hvm
  obtain ⟨v', hv'⟩ : ∃ v', u 15 = v' := ⟨_, rfl⟩
  rw [hv'] at h15
  have hRv : hR v' = some (.held v', []) := by
    rcases h15.1.2 with ⟨rfl, _⟩ | ⟨g, c, cur, rfl, _⟩ <;> rfl
  obtain ⟨w', hrun, hown, hgr⟩ := hmW.update intK Try.underlying59 (by unfold maxLen; omega) (keyI k hk) hRv
  have hrun' : (execOp (⟨fr u, df⟩ : Act).eval o).run Try.prog W = .ok .skip w' := by
    unfold execOp
    simp only [ho]
    simp [ha, hb, hc, h3, h4, hv', hrun]
  have h15L := hdep 15 hw15
  unfold Oper.wp
  rw [hrun']
  have hmlt := hmap.lt
  refine hK.out undef _ ⟨fun h => ?_, fun h => ?_, fun _ => ⟨v', ⟨ownsRow_grown h15.1 hgr ?_, h15.2⟩, hown, ?_⟩⟩ (fun k hk hki hwk h => ?_) ?_
  · rw [putL_ne (by omega), h15L] at h; cases h
  · rw [putL_same] at h; cases h
  · rcases h15.2 with h | ⟨q, h, hq⟩
    · rw [h]; exact hvm
    · rw [h]; intro e; cases e; omega
  · exact (hfr.mono (F' := fun y => v.ownBlock = some y ∨ y = mb) (fun y hy => .inl (.inl hy))).grown hgr (fun y hy => .inl (.inr (by cases hy; rfl)))
  · unfold GW at h ⊢
    by_cases h1 : k < 14
    · rw [if_pos h1] at h ⊢; rw [putV_ne hki]; exact h
    · rw [if_neg h1] at h ⊢
      by_cases h2 : k = 14
      · rw [if_pos h2] at h ⊢
        obtain ⟨q, e, hq, _⟩ := h
        exact ⟨q, by rw [putV_ne (by omega)]; exact e, hq, fun hl => by rw [putL_ne (by omega), h15L] at hl; cases hl⟩
      · rw [if_neg h2] at h ⊢
        by_cases h3 : k = 15
        · rw [if_pos h3] at h ⊢
          intro hl
          rw [putL_same] at hl; cases hl
        · rw [if_neg h3]; trivial
  · unfold GW; rw [if_neg (by omega), if_neg (by omega), if_neg (by omega)]; trivial
end
theorem pend_own {w : World} {pend : Nat → List (List UInt8)} {D : DataW Value} {G : Nat → Prop} {k : Nat} {v : Value} (hok : ∀ k, ∀ r ∈ pend k, r.length = 64) (hp : PendR w pend D G) (hat : D.atKey (.int .i64 k) (.held nilS) = .held v) (hnil : pend k = [] → v = nilS) :
    w.ownsRow 0 67 64 v (pend k).length (rowsV (pend k)) ∧ (∀ y, v.ownBlock = some y → G y) ∧ (pend k ≠ [] → ∃ b c, v = .slice (some ⟨b, 0, none⟩) (pend k).length c) := by
  by_cases h0 : pend k = []
  · rw [hnil h0, h0]
    refine ⟨⟨rfl, .inl ⟨rfl, rfl⟩⟩, ?_, ?_⟩
    · intro y e; cases e
    · intro h; exact absurd rfl h
  · obtain ⟨b, c, r, e, hB, h1, h2, h3, h4⟩ := hp.row k h0
    rw [hat] at e
    cases e
    have hl : (rowsV (pend k)).length = (pend k).length * 64 := by rw [rowsV_len (hok k), Nat.mul_comm]
    refine ⟨⟨hl, .inr ⟨b, c, (rowsV (pend k) ++ r).toArray, rfl, Nat.zero_le _, hB, h2, h3, by simpa using h1, ?_⟩⟩, fun y e => by cases e; exact h4, fun _ => ⟨b, c, rfl⟩⟩
    rw [List.toList_toArray, ← hl, List.take_left' rfl]
theorem array_at (b q cap : Nat) (w : World) : (Instr.arrayAt 67 (.slice (some ⟨b, q, none⟩) 64 cap)).run Try.prog w = .ok (.pointer (some ⟨b, q, none⟩)) w := by
  simp [Instr.arrayAt, Sem.run_bind, run_underlying Try.underlying67]
theorem rd_range64 {w : World} {b q cap : Nat} {x : List UInt8} (h : RdB w (some ⟨b, q, none⟩) 64 cap x) (_hx : x.length = 64) : w.rangeAt b q (x.map bV) := fun j z hz => by
  rw [List.getElem?_map] at hz
  obtain ⟨y, hy, rfl⟩ := Option.map_eq_some_iff.1 hz
  obtain ⟨hj, rfl⟩ := List.getElem?_eq_some_iff.1 hy
  obtain ⟨b', q', e, hc⟩ := h.get j hj
  cases e
  exact hc
theorem run_load_row {ev : Operand → Value} {o : Oper} {a : Operand} {w : World} {b q : Nat} {x : List UInt8} (ho : o.op = .load 67 a) (ha : ev a = .pointer (some ⟨b, q, none⟩)) (hr : w.rangeAt b q (x.map bV)) (hx : x.length = 64) : (execOp ev o).run Try.prog w = .ok (.value (rowV x)) w := by
  obtain ⟨⟨d, hu, hd⟩, hi⟩ := tyrow
  unfold execOp
  simp only [ho, ha, Sem.run_bind, run_loadAt_mid w b q 67 _ d hr hu hd (inforow hx), Result.andThen_ok, Sem.run_pure]
  rfl
theorem keylit (k : Nat) : WideAt.IsKeyLit (.int .i64 (k : Int)) := by simp [WideAt.IsKeyLit]
/-- The device behind a write. -/
theorem write_dv {w1 W : World} {g gb c mb m k : Nat} {d : Bd} {r : List Value} {x : List UInt8} {D : DataW Value} {F G0 : Nat → Prop} {v : Value}
    (h1 : Blk w1 g (dvS gb c mb d.begin) 61) (hR : DvRest w1 g gb c mb d.good d.pend d.ops F) (h7 : PendR w1 d.pend D G0) (h2 : Blk w1 gb (rowsV d.good ++ r) 67) (h3 : d.good.length ≤ c) (h4 : c ≤ maxLen) (h6 : m ≤ d.ops)
    (n1 : g ≠ gb) (n2 : g ≠ mb) (n3 : gb ≠ mb) (hx : ∀ y, F y ↔ y = g ∨ y = gb ∨ y = mb ∨ G0 y) (n4 : ¬ G0 g) (n5 : ¬ G0 gb) (n6 : ¬ G0 mb) (h8 : ∀ y, G0 y → y < w1.heap.size)
    (hat : D.atKey (.int .i64 (k : Int)) (.held nilS) = .held v) (hnil : d.pend k = [] → v = nilS) (hvG : ∀ y, v.ownBlock = some y → G0 y)
    (h16 : P16W w1 v mb m k (d.pend k).length D (rowsV (d.pend k) ++ x.map bV) W) (hok : (d.begin.put k x).Ok) (hD : IsMap D) :
    ∃ F', Dv W g (d.begin.put k x) F' ∧ Fr F w1 W ∧ (∀ y, F' y → F y ∨ w1.heap.size ≤ y) := by
  obtain ⟨v', ⟨ho, hloc⟩, hmap, hfr⟩ := h16
  obtain ⟨q, cq, cur, rfl, hcur, hnc, hcm, hcs, htk⟩ : ∃ q cq cur, v' = .slice (some ⟨q, 0, none⟩) ((d.pend k).length + 1) cq ∧ W.heap[q]? = some (.cells cur 67 (0, 0)) ∧ (d.pend k).length + 1 ≤ cq ∧ cq ≤ maxLen ∧ cur.size = cq * 64 ∧ cur.toList.take (((d.pend k).length + 1) * 64) = rowsV (d.pend k) ++ x.map bV := by
    rcases ho.2 with ⟨_, h0⟩ | ⟨q, cq, cur, e, _, hh, a1, a2, a3, a4⟩
    · omega
    · exact ⟨q, cq, cur, e, hh, a1, a2, a3, a4⟩
  have hq : G0 q ∨ w1.heap.size ≤ q := by
    rcases hloc with h | ⟨q', h, hq'⟩
    · exact .inl (hvG q (by rw [← h]; rfl))
    · cases h; exact .inr hq'
  have hqn : ∀ y, y < w1.heap.size → ¬ G0 y → q ≠ y := fun y hy hn e => by
    subst e
    rcases hq with h | h
    · exact hn h
    · omega
  have hmlt : mb < w1.heap.size := by
    obtain ⟨_, _, _, _, _, _, _, h5, _⟩ := hR.ex
    exact h5.lt
  have hfF : Fr F w1 W := hfr.mono (fun y hy => .inl (by
    rcases hy with h | rfl
    · exact (hx y).2 (.inr (.inr (.inr (hvG y h))))
    · exact (hx y).2 (.inr (.inr (.inl rfl)))))
  have hpk : (d.begin.put k x).pend = fun j => if j = k then d.pend k ++ [x] else d.pend j := rfl
  have hrow : rowsV (d.pend k ++ [x]) = rowsV (d.pend k) ++ x.map bV := by rw [rowsV_app]; unfold rowsV; simp
  have hat2 : ∀ j : Nat, j ≠ k → (D.put (.int .i64 (k : Int)) (.held (.slice (some ⟨q, 0, none⟩) ((d.pend k).length + 1) cq))).atKey (.int .i64 (j : Int)) (.held nilS) = D.atKey (.int .i64 (j : Int)) (.held nilS) := fun j hj => atKey_put_other (fun e => hj (by cases e; rfl)) _ _
  have hat3 := atKey_put_same hD (keylit k) (.held (.slice (some ⟨q, 0, none⟩) ((d.pend k).length + 1) cq)) (.held nilS)
  have hold : ∀ (j : Nat) b n c, D.atKey (.int .i64 (j : Int)) (.held nilS) = .held (.slice (some ⟨b, 0, none⟩) n c) → G0 b := fun j b n c e => by
    by_cases hp : d.pend j = []
    · rw [atKey_of_not_has (h7.no j hp)] at e
      simp [nilS] at e
    · obtain ⟨b2, c2, r2, e2, _, _, _, _, h5⟩ := h7.row j hp
      rw [e] at e2
      cases e2
      exact h5
  refine ⟨fun y => y = g ∨ y = gb ∨ y = mb ∨ (G0 y ∨ y = q), ⟨hok, gb, c, mb, ?_, m + 1, r, _, fun y => G0 y ∨ y = q, ?_, h3, h4, hmap, Nat.succ_le_succ h6, ?_, n1, n2, n3, fun y => Iff.rfl, ?_, ?_, ?_, ?_⟩, hfF, ?_⟩
  · exact hfr.blk h1 (fun h => by rcases h with h | h; exact n4 (hvG g h); exact n2 h)
  · exact hfr.blk h2 (fun h => by rcases h with h | h; exact n5 (hvG gb h); exact n3 h)
  · rw [hpk]
    refine ⟨fun kl hkl => ?_, fun j hj => ?_, fun j hj => ?_, fun j hj => ?_, fun i j b n c n' c' e1 e2 => ?_⟩
    · by_cases e : kl = .int .i64 (k : Int)
      · exact ⟨k, e⟩
      · rw [has_put_other e] at hkl
        exact h7.keys kl hkl
    · by_cases e : j = k
      · rw [if_pos e] at hj; simp at hj
      · rw [if_neg e] at hj
        rw [has_put_other (fun h => e (by cases h; rfl))]
        exact h7.no j hj
    · by_cases e : j = k
      · subst e; exact has_put_same hD (keylit j) _
      · simp only [if_neg e] at hj
        rw [has_put_other (fun h => e (by cases h; rfl))]
        exact h7.yes j hj
    · by_cases e : j = k
      · subst e
        rw [if_pos rfl]
        refine ⟨q, cq, cur.toList.drop (((d.pend j).length + 1) * 64), by rw [hat3, List.length_append]; rfl, ?_, ?_, by rw [List.length_append]; exact hnc, hcm, .inr rfl⟩
        · unfold Blk
          rw [hrow, ← htk, List.take_append_drop]; exact hcur
        · rw [hrow, ← htk, List.take_append_drop, Array.length_toList]; exact hcs
      · simp only [if_neg e] at hj ⊢
        obtain ⟨b, c, r, e2, hB, a1, a2, a3, a4⟩ := h7.row j hj
        refine ⟨b, c, r, by rw [hat2 j e]; exact e2, hfr.blk hB (fun h => ?_), a1, a2, a3, .inl a4⟩
        rcases h with h | rfl
        · by_cases hp : d.pend k = []
          · rw [hnil hp] at h; cases h
          · obtain ⟨bk, ck, rk, ek, _, _, _, _, _⟩ := h7.row k hp
            rw [hat] at ek
            cases ek
            cases h
            exact e (h7.apart j k _ _ _ _ _ e2 hat)
        · exact n6 a4
    · by_cases ei : i = k
      · by_cases ej : j = k
        · rw [ei, ej]
        · rw [ei, hat3] at e1
          rw [hat2 j ej] at e2
          cases e1
          have hg := hold j _ _ _ e2
          have hlt := h8 _ hg
          rcases hloc with h | ⟨q', h, hq'⟩
          · by_cases hp : d.pend k = []
            · rw [hnil hp] at h; cases h
            · obtain ⟨bk, ck, rk, ek, _, _, _, _, _⟩ := h7.row k hp
              rw [hat] at ek
              cases ek
              cases h
              exact absurd (h7.apart j k _ _ _ _ _ e2 hat) ej
          · simp [Value.ownBlock] at h; omega
      · by_cases ej : j = k
        · rw [ej, hat3] at e2
          rw [hat2 i ei] at e1
          cases e2
          have hg := hold i _ _ _ e1
          have hlt := h8 _ hg
          rcases hloc with h | ⟨q', h, hq'⟩
          · by_cases hp : d.pend k = []
            · rw [hnil hp] at h; cases h
            · obtain ⟨bk, ck, rk, ek, _, _, _, _, _⟩ := h7.row k hp
              rw [hat] at ek
              cases ek
              cases h
              exact absurd (h7.apart i k _ _ _ _ _ e1 hat) ei
          · simp [Value.ownBlock] at h; omega
        · rw [hat2 i ei] at e1
          rw [hat2 j ej] at e2
          exact h7.apart i j _ _ _ _ _ e1 e2
  · rintro (h | h)
    · exact n4 h
    · exact hqn g h1.lt n4 h.symm
  · rintro (h | h)
    · exact n5 h
    · exact hqn gb h2.lt n5 h.symm
  · rintro (h | h)
    · exact n6 h
    · exact hqn mb hmlt n6 h.symm
  · rintro y (h | rfl)
    · exact Nat.lt_of_lt_of_le (h8 y h) hfr.size
    · exact (Array.getElem?_eq_some_iff.1 hcur).1
  · rintro y (h | h | h | h | rfl)
    · exact .inl ((hx y).2 (.inl h))
    · exact .inl ((hx y).2 (.inr (.inl h)))
    · exact .inl ((hx y).2 (.inr (.inr (.inl h))))
    · exact .inl ((hx y).2 (.inr (.inr (.inr h))))
    · rcases hq with h | h
      · exact .inl ((hx y).2 (.inr (.inr (.inr h))))
      · exact .inr h
set_option maxRecDepth 100000 in
set_option maxHeartbeats 2000000 in
theorem bWrite_ok {w : World} {g k cap bb qq : Nat} {x : List UInt8} {d : Bd} {F : Nat → Prop} (h : Dv w g d F) (hk : k < d.good.length) (hN : d.good.length ≤ 100000) (ho : d.ops < 1000000) (hl : d.left ≤ 9223372036854775807) (hoff : d.offN = false)
    (hb : RdB w (some ⟨bb, qq, none⟩) 64 cap x) (hbF : ¬ F bb) :
    Calls Try.prog 34 #[.pointer (some ⟨g, 0, none⟩), .int .i64 (k : Int), .slice (some ⟨bb, qq, none⟩) 64 cap] w fun e w' => e = .returned (.int .i64 0) ∧ ∃ F', Dv w' g (d.begin.put k x) F' ∧ Fr F w w' ∧ (∀ y, F' y → F y ∨ w.heap.size ≤ y) := by
  have HD := Lib.hid h
  have HK := Lib.hid hk; have HN := Lib.hid hN; have HO := Lib.hid ho; have HL := Lib.hid hl; have HB := Lib.hid hb; have HBF := Lib.hid hbF
  have k0 : decide ((k : Int) < 0) = false := decide_eq_false (by omega)
  have k1 : decide ((d.good.length : Int) ≤ (k : Int)) = false := decide_eq_false (by omega)
  have k2 : decide (d.good.length ≤ k) = false := decide_eq_false (by omega)
  have HOF := Lib.hid hoff
  clear h hk hN ho hl hb hbF hoff
  go_enter Try.func34, Try.ntmps34
  go_upto_region 5 with (first
    | (go_at_call 23; (with_reducible refine (bLen_any HD.out).mono ?_); rintro e wz ⟨rfl, rfl⟩)
    | (go_at_call 39; (with_reducible refine (bBegin_any HD.out HO.out HL.out).mono ?_); rintro e w1 ⟨rfl, hD1, hf1, hB1⟩; rw [HOF.out]))
  obtain ⟨gb, c, mb, h0, hR0⟩ := HD.out.ex
  have h1 := hB1 gb c mb h0
  have hR := hR0.frame hf1 (fun x _ hne e => hne e)
  obtain ⟨m, r, D, G0, h2, h3, h4, h5, h6, h7, n1, n2, n3, hx, n4, n5, n6, h8⟩ := hR.ex
  have c1 : w1.cell? ⟨g, 1, none⟩ = some (.map (some mb)) := h1.cell 1
  have hbr : RdB w1 (some ⟨bb, qq, none⟩) 64 cap x := hf1.rd HB.out (fun p hp => by cases hp; exact fun e => HBF.out (by rw [show bb = g from e]; exact hR.own))
  obtain ⟨v, hlk0, hat, hnil⟩ := pend_look h5 h7 (k := k) (by have := HK.out; have := HN.out; omega)
  obtain ⟨hown, hvG, hnS⟩ := pend_own HD.out.ok.pend h7 hat hnil
  have hgv : ¬ (fun y => v.ownBlock = some y) g := fun e => n4 (hvG g e)
  have hbv : ¬ (fun y => v.ownBlock = some y) bb := fun e => HBF.out ((hx bb).2 (.inr (.inr (.inr (hvG bb e)))))
  have hmv : v.ownBlock ≠ some mb := fun e => n6 (hvG mb e)
  have hlk : ∀ W, Fr (fun y => v.ownBlock = some y) w1 W → (Instr.lookup 59 (.map (some mb)) (.int .i64 (k : Int)) false).run Try.prog W = .ok v W := fun W hf => by
    obtain ⟨v2, ps, hl2, hv2⟩ := (ownsMap_frame hf h5 hmv).lookup intK Try.underlying59 (zeroS W) (zd := .held nilS) (zp := []) rfl (keyI k (by have := HK.out; have := HN.out; omega))
    rw [hat] at hv2
    obtain rfl := hR_held hv2
    exact hl2
  have HXL := Lib.hid HB.out.hlen
  have hP15 := P15W_later (w1 := w1) (v := v) (n := (d.pend k).length) (xs := rowsV (d.pend k) ++ x.map bV)
  refine wp_region_mid (fun u => #[.pointer (some ⟨g, 0, none⟩), .int .i64 (k : Int), .slice (some ⟨bb, qq, none⟩) 64 cap, undef, undef, undef, .int .i64 0, .bool false, .int .i64 (k : Int), .bool false, .bool false, .int .i64 (k : Int), .pointer (some ⟨g, 0, none⟩), .int .i64 (d.good.length : Int), .bool false, .bool false, .bool false, .slice (some ⟨bb, qq, none⟩) 64 cap, .int .i64 64, .bool false, .bool false, .bool false, .pointer (some ⟨g, 0, none⟩), .bool true, .bool false, u 0, u 1, u 2, u 3, u 4, u 5, u 6, u 7, u 8, u 9, u 10, u 11, u 12, u 13, u 14, u 15]) (GW w1 x [.pointer (some ⟨g, 0, none⟩), .pointer (some ⟨g, 0, none⟩), .pointer (some ⟨g, 1, none⟩), .map (some mb), .int .i64 (k : Int), .pointer (some ⟨g, 0, none⟩), .pointer (some ⟨g, 0, none⟩), .pointer (some ⟨g, 1, none⟩), .map (some mb), .int .i64 (k : Int), v, .slice (some ⟨bb, qq, none⟩) 64 cap, .pointer (some ⟨bb, qq, none⟩), rowV x] (P15W w1 v (d.pend k).length (rowsV (d.pend k) ++ x.map bV))) (JW w1 v (P16W w1 v mb m k (d.pend k).length D (rowsV (d.pend k) ++ x.map bV))) (fun _ => undef) (by kernel_rfl) (by kernel_rfl) ?_ (by rfl)
    ⟨fun _ => (Below.refl _ _).drew, fun _ => (Fr.refl _ _).drew, fun h => by cases h⟩ (soft_GW hP15) ?_ ?_
  · intro u i v h
    rcases i with _ | _ | _ | _ | _ | _ | _ | _ | _ | _ | _ | _ | _ | _ | _ | _ | _ | i
    all_goals first | (simp [Act.put, putV]; done) | (exfalso; simp at h; omega)
  · intro _
    refine ⟨?_, ?_, ?_, ?_, ?_, ?_, ?_, ?_, ?_, ?_, ?_, ?_, ?_, ?_, ?_, ?_, ?_, trivial⟩
    · refine stepP hP15 (by omega) rfl (.cons (c := 3) (by kernel_rfl) (.cons (c := 2) (by kernel_rfl) (.cons (c := 1) (by kernel_rfl) (.one (by kernel_rfl))))) fun u W hf hu => ?_
      go_simp
    · refine stepP hP15 (by omega) rfl (.cons (c := 3) (by kernel_rfl) (.cons (c := 2) (by kernel_rfl) (.one (by kernel_rfl)))) fun u W hf hu => ?_
      have e0 := hu 0 (by kernel_rfl) (by omega)
      simp only [List.getD_cons_zero] at e0
      go_simp
    · refine stepP hP15 (by omega) rfl (.cons (c := 3) (by kernel_rfl) (.one (by kernel_rfl))) fun u W hf hu => ?_
      have e1 := hu 1 (by kernel_rfl) (by omega)
      simp only [List.getD_cons_zero, List.getD_cons_succ] at e1
      go_simp
    · refine stepP hP15 (by omega) rfl (.one (by kernel_rfl)) fun u W hf hu => ?_
      have e2 := hu 2 (by kernel_rfl) (by omega)
      simp only [List.getD_cons_zero, List.getD_cons_succ] at e2
      have hc := (hf.cell (p := ⟨g, 1, none⟩) h1.lt hgv).trans c1
      go_simp
    · refine stepP hP15 (by omega) rfl (.one (by kernel_rfl)) fun u W hf hu => ?_
      go_simp
    · refine stepP hP15 (by omega) rfl (.cons (c := 15) (by kernel_rfl) (.cons (c := 10) (by kernel_rfl) (.cons (c := 8) (by kernel_rfl) (.cons (c := 7) (by kernel_rfl) (.cons (c := 6) (by kernel_rfl) (.one (by kernel_rfl))))))) fun u W hf hu => ?_
      go_simp
    · refine stepP hP15 (by omega) rfl (.cons (c := 15) (by kernel_rfl) (.cons (c := 10) (by kernel_rfl) (.cons (c := 8) (by kernel_rfl) (.cons (c := 7) (by kernel_rfl) (.one (by kernel_rfl)))))) fun u W hf hu => ?_
      have e5 := hu 5 (by kernel_rfl) (by omega)
      simp only [List.getD_cons_zero, List.getD_cons_succ] at e5
      go_simp
    · refine stepP hP15 (by omega) rfl (.cons (c := 15) (by kernel_rfl) (.cons (c := 10) (by kernel_rfl) (.cons (c := 8) (by kernel_rfl) (.one (by kernel_rfl))))) fun u W hf hu => ?_
      have e6 := hu 6 (by kernel_rfl) (by omega)
      simp only [List.getD_cons_zero, List.getD_cons_succ] at e6
      go_simp
    · refine stepP hP15 (by omega) rfl (.cons (c := 15) (by kernel_rfl) (.cons (c := 10) (by kernel_rfl) (.one (by kernel_rfl)))) fun u W hf hu => ?_
      have e7 := hu 7 (by kernel_rfl) (by omega)
      simp only [List.getD_cons_zero, List.getD_cons_succ] at e7
      have hc := (hf.cell (p := ⟨g, 1, none⟩) h1.lt hgv).trans c1
      go_simp
    · refine stepP hP15 (by omega) rfl (.cons (c := 15) (by kernel_rfl) (.cons (c := 10) (by kernel_rfl) (.one (by kernel_rfl)))) fun u W hf hu => ?_
      go_simp
    · refine stepP hP15 (by omega) rfl (.cons (c := 15) (by kernel_rfl) (.one (by kernel_rfl))) fun u W hf hu => ?_
      have e8 := hu 8 (by kernel_rfl) (by omega)
      have e9 := hu 9 (by kernel_rfl) (by omega)
      simp only [List.getD_cons_zero, List.getD_cons_succ] at e8 e9
      have hl := hlk W hf
      go_simp
    · refine stepP hP15 (by omega) rfl (.cons (c := 15) (by kernel_rfl) (.cons (c := 14) (by kernel_rfl) (.cons (c := 13) (by kernel_rfl) (.cons (c := 12) (by kernel_rfl) (.one (by kernel_rfl)))))) fun u W hf hu => ?_
      go_simp
    · refine stepP hP15 (by omega) rfl (.cons (c := 15) (by kernel_rfl) (.cons (c := 14) (by kernel_rfl) (.cons (c := 13) (by kernel_rfl) (.one (by kernel_rfl))))) fun u W hf hu => ?_
      have e11 := hu 11 (by kernel_rfl) (by omega)
      simp only [List.getD_cons_zero, List.getD_cons_succ] at e11
      have haa := array_at bb qq cap W
      go_simp
    · refine stepP hP15 (by omega) rfl (.cons (c := 15) (by kernel_rfl) (.cons (c := 14) (by kernel_rfl) (.one (by kernel_rfl)))) fun u W hf hu => ?_
      have e12 := hu 12 (by kernel_rfl) (by omega)
      simp only [List.getD_cons_zero, List.getD_cons_succ] at e12
      have hr := rd_range64 (hf.rd hbr (fun p hp => by cases hp; exact hbv)) HXL.out
      exact run_load_row rfl (by rw [show _ = u 12 from rfl]; exact e12) hr HXL.out
    · exact stepB hP15 rfl (.one (by kernel_rfl)) (.cons (c := 15) (by kernel_rfl) (.one (by kernel_rfl))) rfl HXL.out fun u hu => by have e13 := hu 13 (by kernel_rfl) (by omega); exact e13
    · exact stepA rfl (.one (by kernel_rfl)) rfl HXL.out (by kernel_rfl) (by kernel_rfl) rfl (fun _ => rfl) (fun _ => rfl) hown (by have := HD.out.ok.cnt k; have := HO.out; omega)
    · exact stepU rfl rfl (by kernel_rfl) (by kernel_rfl) (by kernel_rfl) rfl rfl (fun _ => rfl) (fun _ => rfl) (fun _ => rfl) h5 (by have := HO.out; omega) (by have := HK.out; have := HN.out; omega) hmv
  intro L5 u5 W5 hall hJ hG
  have h16 := hJ.done (hall 16 (by simp))
  clear hJ hG hall
  have hok : (d.begin.put k x).Ok := Bd.put_ok (Bd.begin_ok HD.out.ok) HK.out HXL.out (Nat.lt_succ_of_le (HD.out.ok.cnt k))
  obtain ⟨F', hD5, hF5, hF6⟩ := write_dv (d := d) h1 hR h7 h2 h3 h4 h6 n1 n2 n3 hx n4 n5 n6 h8 hat hnil hvG h16 hok (by obtain ⟨es, clock, _, _, _, hD⟩ := h5; exact ⟨_, hD⟩)
  go_wp2
  go_ret
  exact ⟨rfl, F', hD5, (hf1.mono (fun y hy => .inl (by cases hy; exact hR.own))).trans hF5 (fun y hy => .inl hy), fun y hy => (hF6 y hy).imp (fun h => (hx y).1 h) (fun h => Nat.le_trans hf1.size h)⟩
set_option maxRecDepth 100000 in
set_option maxHeartbeats 1000000 in
theorem bWrite_arg {w : World} {g n cap : Nat} {k : Int} {a : Option Addr} {d : Bd} {F : Nat → Prop} (h : Dv w g d F) (hk : k < 0 ∨ (d.good.length : Int) ≤ k ∨ n ≠ 64) :
    Calls Try.prog 34 #[.pointer (some ⟨g, 0, none⟩), .int .i64 k, .slice a n cap] w fun e w' => e = .returned (.int .i64 1) ∧ w = w' := by
  have HD := Lib.hid h
  by_cases h1 : k < 0
  · have a1 : decide (k < 0) = true := decide_eq_true h1
    clear h hk h1
    go_enter Try.func34, Try.ntmps34
    go_wp2
    go_ret
    exact ⟨rfl, rfl⟩
  · have a1 : decide (k < 0) = false := decide_eq_false h1
    by_cases h2 : (d.good.length : Int) ≤ k
    · have a2 : decide ((d.good.length : Int) ≤ k) = true := decide_eq_true h2
      clear h hk h1 h2
      go_enter Try.func34, Try.ntmps34
      go_wp2_with (go_at_call 23; (with_reducible refine (bLen_any HD.out).mono ?_); rintro e wz ⟨rfl, rfl⟩)
      go_ret
      exact ⟨rfl, rfl⟩
    · have a2 : decide ((d.good.length : Int) ≤ k) = false := decide_eq_false h2
      have a3 : ((n : Int) != 64) = true := by simp; omega
      clear h hk h1 h2
      go_enter Try.func34, Try.ntmps34
      go_wp2_with (go_at_call 23; (with_reducible refine (bLen_any HD.out).mono ?_); rintro e wz ⟨rfl, rfl⟩)
      go_ret
      exact ⟨rfl, rfl⟩
set_option maxRecDepth 100000 in
set_option maxHeartbeats 1000000 in
theorem bWrite_off {w : World} {g k cap : Nat} {a : Option Addr} {d : Bd} {F : Nat → Prop} (h : Dv w g d F) (hk : k < d.good.length) (ho : d.ops < 1000000) (hl : d.left ≤ 9223372036854775807) (hoff : d.offN = true) :
    Calls Try.prog 34 #[.pointer (some ⟨g, 0, none⟩), .int .i64 (k : Int), .slice a 64 cap] w fun e w' => e = .returned (.int .i64 10) ∧ Dv w' g d.begin F ∧ Fr F w w' := by
  have HD := Lib.hid h
  have HO := Lib.hid ho; have HL := Lib.hid hl
  have k0 : decide ((k : Int) < 0) = false := decide_eq_false (by omega)
  have k1 : decide ((d.good.length : Int) ≤ (k : Int)) = false := decide_eq_false (by omega)
  have k2 : decide (d.good.length ≤ k) = false := decide_eq_false (by omega)
  have HOF := Lib.hid hoff
  have HG : Hid (F g) := Lib.hid (by obtain ⟨gb, c, mb, h0, hR0⟩ := h.ex; exact hR0.own)
  clear h hk ho hl hoff
  go_enter Try.func34, Try.ntmps34
  go_wp2_with (first
    | (go_at_call 23; (with_reducible refine (bLen_any HD.out).mono ?_); rintro e wz ⟨rfl, rfl⟩)
    | (go_at_call 39; (with_reducible refine (bBegin_any HD.out HO.out HL.out).mono ?_); rintro e w1 ⟨rfl, hD1, hf1, hB1⟩; rw [HOF.out]))
  go_ret
  exact ⟨rfl, hD1, hf1.mono (fun y hy => .inl (by cases hy; exact HG.out))⟩
/-- Write. -/
theorem bWrite_any {w : World} {g n cap : Nat} {k : Int} {a : Option Addr} {x : List UInt8} {d : Bd} {F : Nat → Prop} (h : Dv w g d F) (hN : d.good.length ≤ 100000) (ho : d.ops < 1000000) (hl : d.left ≤ 9223372036854775807)
    (hb : RdB w a n cap x) (hbF : ∀ p, a = some p → ¬ F p.block) :
    Calls Try.prog 34 #[.pointer (some ⟨g, 0, none⟩), .int .i64 k, .slice a n cap] w fun e w' => e = .returned (.int .i64 (d.writeC k x)) ∧ ∃ F', Dv w' g (d.write k x) F' ∧ Fr F w w' ∧ (∀ y, F' y → F y ∨ w.heap.size ≤ y) := by
  have hlen := hb.hlen
  by_cases hk : k < 0 ∨ (d.good.length : Int) ≤ k ∨ n ≠ 64
  · have hc : k < 0 ∨ (d.good.length : Int) ≤ k ∨ x.length ≠ 64 := by rw [hlen]; exact hk
    refine (bWrite_arg h hk).mono ?_
    rintro e w' ⟨rfl, rfl⟩
    unfold Bd.writeC Bd.write
    rw [if_pos hc, if_pos hc]
    exact ⟨rfl, F, h, Fr.refl _ _, fun y hy => .inl hy⟩
  · have hc : ¬ (k < 0 ∨ (d.good.length : Int) ≤ k ∨ x.length ≠ 64) := by rw [hlen]; exact hk
    unfold Bd.writeC Bd.write
    rw [if_neg hc, if_neg hc]
    obtain ⟨j, rfl⟩ : ∃ j : Nat, k = j := ⟨k.toNat, by omega⟩
    obtain rfl : n = 64 := by omega
    obtain ⟨bb, qq, rfl, _⟩ := hb.get 0 (by omega)
    by_cases hof : d.offN = true
    · rw [hof]
      exact (bWrite_off h (by omega) ho hl hof).mono fun e w' ⟨he, hD, hf⟩ => ⟨he, F, hD, hf, fun y hy => .inl hy⟩
    · have hof : d.offN = false := by simpa using hof
      rw [hof]
      exact bWrite_ok h (by omega) hN ho hl hof hb (hbF _ rfl)
end Go.Proofs.Ytogjbhkhdccahaa
namespace Go.Proofs.Ytogjbhkhdccahaa
open Go Go.RowKit
/-- A frame with the values of operations in their slots: so many slots on, operation i's. -/
def mrg : List Value → List (Nat × Nat) → (Nat → Value) → List Value
  | l, [], _ => l
  | [], _ :: _, _ => []
  | _ :: l, (0, i) :: p, u => u i :: mrg l p u
  | a :: l, (s + 1, i) :: p, u => a :: mrg l ((s, i) :: p) u
theorem mrg_at (j : Nat) (p : List (Nat × Nat)) (u : Nat → Value) : ∀ (s : Nat) (l : List Value), mrg l ((s, j) :: p) u = if s < l.length then l.take s ++ u j :: mrg (l.drop (s + 1)) p u else l
  | 0, [] => by simp [mrg]
  | 0, a :: l => by simp [mrg]
  | s + 1, [] => by simp [mrg]
  | s + 1, a :: l => by
    rw [mrg, mrg_at j p u s l]
    by_cases h : s < l.length
    · rw [if_pos h, if_pos (by simpa using h)]; simp
    · rw [if_neg h, if_neg (by simpa using h)]
def hasI (p : List (Nat × Nat)) (i : Nat) : Bool := p.any fun x => x.2 == i
def hasP : List (Nat × Nat) → Nat → Nat → Bool
  | [], _, _ => false
  | (s, j) :: p, d, i => if j == i then d == s && !hasI p i else decide (s < d) && hasP p (d - s - 1) i
def onceP : List (Nat × Nat) → Bool
  | [] => true
  | (_, j) :: p => !hasI p j && onceP p
theorem mrg_out {i : Nat} {v : Value} {u : Nat → Value} : ∀ (p : List (Nat × Nat)) (l : List Value), hasI p i = false → mrg l p (putV u i v) = mrg l p u
  | [], l, _ => by cases l <;> simp [mrg]
  | (s, j) :: p, l, h => by
    simp only [hasI, List.any_cons, Bool.or_eq_false_iff] at h
    rw [mrg_at, mrg_at, mrg_out p _ h.2, putV_ne (by simpa using h.1)]
theorem mrg_put {i : Nat} {v : Value} {u : Nat → Value} : ∀ (p : List (Nat × Nat)) (d : Nat) (l : List Value), hasP p d i = true → mrg l p (putV u i v) = (mrg l p u).set d v
  | [], d, l, h => by simp [hasP] at h
  | (s, j) :: p, d, l, h => by
    rw [hasP] at h
    rw [mrg_at, mrg_at]
    by_cases hj : j = i
    · subst hj
      rw [if_pos (by simp)] at h
      simp only [Bool.and_eq_true, beq_iff_eq, Bool.not_eq_true'] at h
      obtain ⟨rfl, h2⟩ := h
      by_cases hl : d < l.length
      · rw [if_pos hl, if_pos hl, mrg_out p _ h2, putV_same, List.set_append_right _ _ (by rw [List.length_take]; omega), List.length_take, Nat.min_eq_left (by omega), Nat.sub_self, List.set_cons_zero]
      · rw [if_neg hl, if_neg hl, List.set_eq_of_length_le (by omega)]
    · rw [if_neg (by simpa using hj)] at h
      simp only [Bool.and_eq_true, decide_eq_true_eq] at h
      by_cases hl : s < l.length
      · rw [if_pos hl, if_pos hl, mrg_put p _ _ h.2, putV_ne hj, List.set_append_right _ _ (by rw [List.length_take]; omega), List.length_take, Nat.min_eq_left (by omega), show d - s = (d - s - 1) + 1 by omega, List.set_cons_succ]
        rfl
      · rw [if_neg hl, if_neg hl, List.set_eq_of_length_le (by omega)]
theorem mrg_self : ∀ (p : List (Nat × Nat)) (l : List Value), onceP p = true → ∃ u, mrg l p u = l
  | [], l, _ => ⟨fun _ => undef, by cases l <;> simp [mrg]⟩
  | (s, j) :: p, l, h => by
    simp only [onceP, Bool.and_eq_true, Bool.not_eq_true'] at h
    obtain ⟨u, hu⟩ := mrg_self p (l.drop (s + 1)) h.2
    by_cases hl : s < l.length
    · refine ⟨putV u j l[s], ?_⟩
      rw [mrg_at, if_pos hl, mrg_out p _ h.1, hu, putV_same, List.getElem_cons_drop, List.take_append_drop]
    · exact ⟨u, by rw [mrg_at, if_neg hl]⟩
def okP (p : List (Nat × Nat)) (ops : Array Oper) : Bool := onceP p && (List.range ops.size).all fun i => match (ops[i]?).bind (·.dst) with | some d => hasP p d i | none => !hasI p i
theorem okP_put {p : List (Nat × Nat)} {ops : Array Oper} (h : okP p ops = true) {fr : (Nat → Value) → Array Value} {F : List Value} {df : List Deferred} (hF : ∀ u, (mrg F p u).toArray = fr u) (u : Nat → Value) (i : Nat) (v : Value) (hi : i < ops.size) :
    (⟨fr u, df⟩ : Act).put ((ops[i]?).bind (·.dst)) v = ⟨fr (putV u i v), df⟩ := by
  simp only [okP, Bool.and_eq_true, List.all_eq_true, List.mem_range] at h
  have h2 := h.2 i hi
  cases hd : (ops[i]?).bind (·.dst) with
  | none =>
    rw [hd] at h2
    rw [← hF, ← hF, mrg_out p F (by simpa using h2)]; rfl
  | some d =>
    rw [hd] at h2
    rw [← hF, ← hF, mrg_put p d F h2]
    simp [Act.put]
section
variable {F : List Value} {fr : (Nat → Value) → Array Value} {df : List Deferred} {ops : Array Oper} {id : Nat} {Q : Exit → Act → World → Prop} {w : World}
end
section
variable {α : Type} {R : Rp α} {ops : Array Oper} {wt : Nat → Nat → Bool} {Q : Exit → Act → World → Prop} {fr : (Nat → Value) → Array Value} {df : List Deferred} {l : List Fact} {W0 : World} {i : Nat} {o : Oper}
end
section
variable {α : Type} {m : Nat} {l : List Fact} {W0 W w : World} {L : Nat → Bool} {u : Nat → Value} {wt : Nat → Nat → Bool} {i : Nat}
theorem tillN {L : Nat → Bool} : till L none := fun _ e => nomatch e
theorem hW (φ : WP) (hG : ∀ k, L k = true → Holds l W0 k L u W) (hd : ∀ d, wt i d = true → L d = true) (j : Nat) (hf : factAt l j = .wld φ none := by rfl) (hw : wt i j = true := by kernel_rfl) : φ.P (u j) W := by
  have h := hG j (hd j hw)
  unfold Holds at h
  rw [hf] at h
  exact h tillN
theorem hV (φ : WP) (hG : ∀ k, L k = true → Holds l W0 k L u W) (hd : ∀ d, wt i d = true → L d = true) (hL : L i = false) (j : Nat) (hf : factAt l j = .wld φ (some i) := by rfl) (hw : wt i j = true := by kernel_rfl) : φ.P (u j) W := by
  have h := hG j (hd j hw)
  unfold Holds at h
  rw [hf] at h
  exact h fun k e => by cases e; exact hL
end
end Go.Proofs.Ytogjbhkhdccahaa
namespace Go.Proofs.Ytogjbhkhdccahaa
open Go Go.RowKit
/-- The first n operations' values are X. -/
def GX (n : Nat) (X : List Value) (i : Nat) (_L : Nat → Bool) (u : Nat → Value) (_W : World) : Prop := i < n → u i = X.getD i undef
/-- Till operation n has come up nothing old is written; behind it P holds. -/
structure JX (n : Nat) (w1 : World) (P : World → Prop) (L : Nat → Bool) (_u : Nat → Value) (W : World) : Prop where
  old : L n = false → Below w1.heap.size w1 W
  done : L n = true → P W
theorem GX.keep {n k i : Nat} {X : List Value} {L L' : Nat → Bool} {u : Nat → Value} {z : Value} {W W' : World} (hki : k ≠ i) (h : GX n X k L u W) : GX n X k L' (putV u i z) W' := fun hk => by rw [putV_ne hki]; exact h hk
section
variable {n : Nat} {w1 : World} {X : List Value} {P : World → Prop} {ops : Array Oper} {wt : Nat → Nat → Bool} {Q : Exit → Act → World → Prop} {fr : (Nat → Value) → Array Value} {df : List Deferred} {i : Nat} {o : Oper}
theorem soft_GX : Soft wt (GX n X) := ⟨fun _ _ _ _ _ _ hki _ h => GX.keep hki h, fun _ _ _ _ _ _ h => h⟩
theorem notL {L : Nat → Bool} {a b : Nat} (hcl : ∀ k d, L k = true → wt k d = true → L d = true) (hp : Path wt a b) (hL : L b = false) : L a = false := by
  cases h : L a with
  | false => rfl
  | true => have := hp.listed hcl h; rw [hL] at this; cases this
/-- An operation that reads. -/
theorem kqP (hi : i < n) (hp : Path wt n i) (hr : ∀ u W, Below w1.heap.size w1 W → (∀ j, wt i j = true → j < n → u j = X.getD j undef) → (execOp (⟨fr u, df⟩ : Act).eval o).run Try.prog W = .ok (.value (X.getD i undef)) W) (hg : o.guard = none := by rfl) :
    StepAt Try.prog ops wt Q fr df (GX n X) (JX n w1 P) i o := by
  intro L u W hcl hJ hG hL hdep K hK
  rw [if_pos (by simp [Region.wanted, hg])]
  have hn := notL hcl hp hL
  unfold Oper.wp
  rw [hr u W (hJ.old hn) (fun j hw hj => hG j (hdep j hw) hj)]
  refine hK.out _ W ⟨fun h => hJ.old hn, fun h => ?_⟩ (fun k hk hki hwk h => GX.keep hki h) (fun _ => putV_same _ _ _)
  rw [putL_ne (by omega)] at h; rw [hn] at h; cases h
/-- A call. -/
theorem kqC (hi : i < n) (hp : Path wt n i) (hr : ∀ u W, Below w1.heap.size w1 W → (∀ j, wt i j = true → j < n → u j = X.getD j undef) → ∀ K : Act → World → Prop, Shut (∀ w', Below W.heap.size W w' → K ((⟨fr u, df⟩ : Act).put o.dst (X.getD i undef)) w') → Oper.wp Try.prog o ⟨fr u, df⟩ W K Q) (hg : o.guard = none := by rfl) :
    StepAt Try.prog ops wt Q fr df (GX n X) (JX n w1 P) i o := by
  intro L u W hcl hJ hG hL hdep K hK
  rw [if_pos (by simp [Region.wanted, hg])]
  have hn := notL hcl hp hL
  refine hr u W (hJ.old hn) (fun j hw hj => hG j (hdep j hw) hj) K (fun w' hb => ?_)
  refine hK.out _ w' ⟨fun h => Below.call (hJ.old hn) hb, fun h => ?_⟩ (fun k hk hki hwk h => GX.keep hki h) (fun _ => putV_same _ _ _)
  rw [putL_ne (by omega)] at h; rw [hn] at h; cases h
/-- The last one, which may write. -/
theorem kqL (hr : ∀ u W, Below w1.heap.size w1 W → (∀ j, wt n j = true → j < n → u j = X.getD j undef) → ∃ w', (execOp (⟨fr u, df⟩ : Act).eval o).run Try.prog W = .ok .skip w' ∧ P w') (hg : o.guard = none := by rfl) :
    StepAt Try.prog ops wt Q fr df (GX n X) (JX n w1 P) n o := by
  intro L u W hcl hJ hG hL hdep K hK
  rw [if_pos (by simp [Region.wanted, hg])]
  obtain ⟨w', hrun, hP⟩ := hr u W (hJ.old hL) (fun j hw hj => hG j (hdep j hw) hj)
  unfold Oper.wp
  rw [hrun]
  refine hK.out undef w' ⟨fun h => ?_, fun _ => hP⟩ (fun k hk hki hwk h => GX.keep hki h) (fun h => absurd h (Nat.lt_irrefl _))
  rw [putL_same] at h; cases h
end
section
variable {F : List Value} {fr : (Nat → Value) → Array Value} {df : List Deferred} {ops : Array Oper} {id : Nat} {Q : Exit → Act → World → Prop} {w : World}
/-- A statement that draws its order, its values known, its last operation a write. -/
theorem rgX (n : Nat) (p : List (Nat × Nat)) (X : List Value) (P : World → Prop)
    (hsteps : AllSteps Try.prog ops (waitsOn .any ops) Q fr df (GX n X) (JX n w P) 0 ops.toList)
    (hdone : ∀ u W, P W → (∀ k, k < n → u k = X.getD k undef) → Q .normal ⟨fr u, df⟩ W)
    (hF : ∀ u, (mrg F p u).toArray = fr u := by intro u; dsimp only [mrg]; try exact rfl)
    (hc : okP p ops = true := by kernel_rfl) (hn : ops.size = n + 1 := by kernel_rfl) (hm : Try.prog.follows .mixedOrders = true := by kernel_rfl) (he : earlier .any ops = true := by kernel_rfl) : (Code.region id ops true).wp Try.prog Q ⟨F.toArray, df⟩ w := by
  obtain ⟨u0, hu⟩ := mrg_self p F (by simp only [okP, Bool.and_eq_true] at hc; exact hc.1)
  exact wp_region_mid (a := ⟨F.toArray, df⟩) fr (GX n X) (JX n w P) u0 hm he (okP_put hc hF) (by rw [← hF, hu]) ⟨fun _ => (Below.refl _ _).drew, fun h => by cases h⟩ soft_GX (fun _ => hsteps)
    (fun L u W hall hJ hG => hdone u W (hJ.done (hall n (by omega))) (fun k hk => hG k (by omega) hk))
end
end Go.Proofs.Ytogjbhkhdccahaa
namespace Go.Proofs.Ytogjbhkhdccahaa
open Go Go.RowKit Go.Maps
theorem _root_.Go.Proofs.Ytogjbhkhdccahaa.Blk.grown {w w' : World} {g E : Nat} {cs : List Value} (h : Blk w g cs E) (hg : w.grownBy w' none) : Blk w' g cs E := by
  have hl := h.lt
  unfold Blk at *
  rw [hg.block g hl (by simp)]; exact h
/-- The blocks in the midst of a flush: those that are no longer to come are done. -/
def flG (d : Bd) (left : Lit → Bool) : List (List UInt8) := (List.range d.good.length).map fun j => if d.pend j ≠ [] ∧ left (.int .i64 (j : Int)) = false then d.last j else d.good.getD j []
theorem flG_len (d : Bd) (left : Lit → Bool) : (flG d left).length = d.good.length := by simp [flG]
theorem flG_get {d : Bd} {left : Lit → Bool} {j : Nat} (h : j < d.good.length) : (flG d left)[j]? = some (if d.pend j ≠ [] ∧ left (.int .i64 (j : Int)) = false then d.last j else d.good.getD j []) := by
  unfold flG; rw [List.getElem?_map, List.getElem?_range h]; rfl
theorem flG_start {d : Bd} {left : Lit → Bool} (h : ∀ j : Nat, d.pend j ≠ [] → left (.int .i64 (j : Int)) = true) : flG d left = d.good := by
  apply List.ext_getElem?
  intro j
  rcases Nat.lt_or_ge j d.good.length with hj | hj
  · rw [flG_get hj, List.getElem?_eq_getElem hj, if_neg (fun ⟨h1, h2⟩ => by rw [h j h1] at h2; cases h2), List.getD_eq_getElem?_getD, List.getElem?_eq_getElem hj]; rfl
  · rw [List.getElem?_eq_none (by rw [flG_len]; exact hj), List.getElem?_eq_none hj]
theorem flG_end {d : Bd} {left : Lit → Bool} (h : ∀ kl, left kl = false) : flG d left = d.flushed.good := by
  unfold flG Bd.flushed
  apply List.map_congr_left
  intro j _
  by_cases hp : d.pend j = []
  · rw [if_neg (fun h => h.1 hp), Bd.last_nil hp]
  · rw [if_pos ⟨hp, h _⟩]
theorem flG_step {d : Bd} {left : Lit → Bool} {k : Nat} (hk : k < d.good.length) (hp : d.pend k ≠ []) : flG d (fun z => left z && !z.sameKey (.int .i64 (k : Int))) = (flG d left).set k (d.last k) := by
  apply List.ext_getElem?
  intro j
  rcases Nat.lt_or_ge j d.good.length with hj | hj
  · rw [flG_get hj, List.getElem?_set]
    by_cases e : k = j
    · subst e
      rw [if_pos ⟨hp, by rw [WideAt.sameKey_self (keylit k)]; simp⟩, if_pos rfl, if_pos (by rw [flG_len]; exact hk)]
    · rw [if_neg e, flG_get hj]
      have hs : (Lit.int .i64 (j : Int)).sameKey (.int .i64 (k : Int)) = false := sameKey_ne (fun h => e (by cases h; rfl))
      simp only [hs, Bool.not_false, Bool.and_true]
  · rw [List.getElem?_eq_none (by rw [flG_len]; exact hj), List.getElem?_eq_none (by rw [List.length_set, flG_len]; exact hj)]
theorem flG_rows {d : Bd} (h : d.Ok) (left : Lit → Bool) : ∀ r ∈ flG d left, r.length = 64 := by
  intro r hr
  unfold flG at hr
  simp only [List.mem_map, List.mem_range] at hr
  obtain ⟨j, hj, rfl⟩ := hr
  split
  · exact Bd.at_len h hj (Nat.le_refl _)
  · rw [List.getD_eq_getElem?_getD, List.getElem?_eq_getElem hj]; exact h.rows _ (List.getElem_mem hj)
/-- A row is stored among rows. -/
theorem rows_set {w : World} {g E k : Nat} {l : List (List UInt8)} {r : List Value} {x : List UInt8} (h : Blk w g (rowsV l ++ r) E) (hl : ∀ y ∈ l, y.length = 64) (hk : k < l.length) (hx : x.length = 64) : Blk (w.setCells g (k * 64) (x.map bV)) g (rowsV (l.set k x) ++ r) E := by
  have e0 : l = l.take k ++ (l[k] :: l.drop (k + 1)) := by rw [← List.drop_eq_getElem_cons hk, List.take_append_drop]
  have cons : ∀ (y : List UInt8) (ys : List (List UInt8)), rowsV (y :: ys) = y.map bV ++ rowsV ys := fun y ys => by unfold rowsV; rw [List.flatten_cons, List.map_append]
  have e1 : rowsV l ++ r = rowsV (l.take k) ++ (l[k].map bV ++ (rowsV (l.drop (k + 1)) ++ r)) := by
    have e3 : rowsV l = rowsV (l.take k) ++ (l[k].map bV ++ rowsV (l.drop (k + 1))) := by rw [← cons, ← rowsV_app, ← e0]
    rw [e3]; simp only [List.append_assoc]
  have e2 : rowsV (l.set k x) ++ r = rowsV (l.take k) ++ (x.map bV ++ (rowsV (l.drop (k + 1)) ++ r)) := by
    rw [List.set_eq_take_append_cons_drop, if_pos hk, rowsV_app, cons]
    simp only [List.append_assoc]
  have hlen : (rowsV (l.take k)).length = k * 64 := by rw [rowsV_len (fun y hy => hl y (List.mem_of_mem_take hy)), List.length_take, Nat.min_eq_left (Nat.le_of_lt hk), Nat.mul_comm]
  rw [e1] at h
  rw [e2]
  have key : ∀ (vs pre old post : List Value) (w : World), old.length = vs.length → Blk w g (pre ++ (old ++ post)) E → Blk (w.setCells g pre.length vs) g (pre ++ (vs ++ post)) E := by
    intro vs
    induction vs with
    | nil =>
      intro pre old post w ho hB
      rw [List.eq_nil_of_length_eq_zero ho] at hB
      exact hB
    | cons v vs ih =>
      intro pre old post w ho hB
      cases old with
      | nil => simp at ho
      | cons o old =>
        have hB2 := hB.set pre.length v
        rw [List.set_append_right _ _ (Nat.le_refl _), Nat.sub_self, List.cons_append, List.set_cons_zero] at hB2
        have := ih (pre ++ [v]) old post (w.setCell ⟨g, pre.length, none⟩ v) (by simpa using ho) (by simpa using hB2)
        rw [World.setCells]
        simpa using this
  have := key (x.map bV) (rowsV (l.take k)) (l[k].map bV) (rowsV (l.drop (k + 1)) ++ r) w (by rw [List.length_map, List.length_map, hx, hl _ (List.getElem_mem hk)]) h
  rw [hlen] at this
  exact this
theorem rows_there {w : World} {g E k : Nat} {l : List (List UInt8)} {r : List Value} (h : Blk w g (rowsV l ++ r) E) (hl : ∀ x ∈ l, x.length = 64) (hk : k < l.length) : w.there g (k * 64) 64 := fun j hj => by
  refine ⟨?_, h.frozen _⟩
  have hlen := rowsV_len hl
  rw [h.cell, List.getElem?_append_left (by rw [hlen]; omega), List.getElem?_eq_getElem (by rw [hlen]; omega)]
  rfl
theorem run_store_row {ev : Operand → Value} {o : Oper} {a b : Operand} {w : World} {g q : Nat} {x : List UInt8} (ho : o.op = .store 67 a b) (ha : ev a = .pointer (some ⟨g, q, none⟩)) (hb : ev b = rowV x) (ht : w.there g q 64) (hx : x.length = 64) :
    (execOp ev o).run Try.prog w = .ok .skip (w.setCells g q (x.map bV)) := by
  have h := run_storeAt_mid (P := Try.prog) w g q 67 (x.map bV).toArray (by simpa [hx] using ht) (inforow' hx) (oneRow x)
  unfold execOp
  simp only [ho, ha, hb, rowV, Sem.run_bind, h, Result.andThen_ok, Sem.run_pure]
theorem ranges_frame {F : Nat → Prop} {w w' : World} (h : Fr F w w') {mb rr m cnt : Nat} {D : DataW Value} {left : Lit → Bool} (ho : w.ranges Try.prog 3 hR mb rr m D left cnt) (hF : ¬ F mb) (hF2 : ¬ F rr) : w'.ranges Try.prog 3 hR mb rr m D left cnt := by
  have h1 := ho.owns.lt
  have h2 := ho.lt
  obtain ⟨es, clock, since, seen, c0, hb, Ft, hs, hD, hr, rest⟩ := ho
  exact ⟨es, clock, since, seen, c0, (h.block mb h1 hF).trans hb, Ft, hs, hD, (h.block rr h2 hF2).trans hr, rest⟩
theorem flush_dv {wr : World} {g gb c mb : Nat} {d : Bd} {r : List Value} (hok : d.Ok) (h1 : Blk wr g (dvS gb c mb d.begin) 61) (h2 : Blk wr gb (rowsV d.flushed.good ++ r) 67) (n1 : g ≠ gb) (h3 : d.good.length ≤ c) (h4 : c ≤ maxLen) :
    Dv ((wr.setCell ⟨g, 1, none⟩ (.map (some wr.heap.size))).alloc (.map #[] 0)) g d.begin.flushed (fun y => y = g ∨ y = gb ∨ y = wr.heap.size ∨ False) := by
  have hl1 := h1.lt; have hl2 := h2.lt
  have hlen : d.flushed.good.length = d.good.length := by simp [Bd.flushed]
  have hfr : Fr (fun x => x = g) wr (wr.setCell ⟨g, 1, none⟩ (.map (some wr.heap.size))) := (Fr.refl _ _).one _
  have hsz : (wr.setCell ⟨g, 1, none⟩ (.map (some wr.heap.size))).heap.size = wr.heap.size := by simp
  refine ⟨Bd.flushed_ok (Bd.begin_ok hok), gb, c, wr.heap.size, ?_, 0, r, .map [], fun _ => False, (hfr.blk h2 (fun e => n1 e.symm)).alloc _, ?_, h4, ?_, Nat.zero_le _, pend_none _ _, n1, by omega, by omega, fun y => Iff.rfl, fun h => h, fun h => h, fun h => h, fun _ h => h.elim⟩
  · have hB := (h1.set 1 (.map (some wr.heap.size))).alloc (.map #[] 0)
    have e : (dvS gb c mb d.begin).set 1 (.map (some wr.heap.size)) = dvS gb c wr.heap.size d.begin.flushed := by
      have hl : d.begin.flushed.good.length = d.begin.good.length := by simp [Bd.flushed]
      unfold dvS
      rw [hl]; rfl
    rw [← e]; exact hB
  · show d.flushed.good.length ≤ c
    rw [hlen]; exact h3
  · have ho := World.ownsMap_made (wr.setCell ⟨g, 1, none⟩ (.map (some wr.heap.size))) Try.prog 3 hR
    rw [hsz] at ho
    exact ho
theorem hR_any {v : Value} {y : DataW Value × List MemPlace} (_ : hR v = some y) : ∃ c : Value, v = c := ⟨v, rfl⟩
theorem key_int {key : Value} {kl : Lit} (h : keyOf Try.prog 3 key = some kl) : ∃ x : Int, key = .int .i64 x := by
  obtain ⟨x, hx, _⟩ := keyOf_int_inv Try.underlying3 h
  exact ⟨x, hx⟩
set_option maxRecDepth 100000 in
set_option maxHeartbeats 2000000 in
theorem bFlush_on {w : World} {g : Nat} {d : Bd} {F : Nat → Prop} (h : Dv w g d F) (h0 : 0 < d.good.length) (hN : d.good.length ≤ 100000) (ho : d.ops < 1000000) (hl : d.left ≤ 9223372036854775807) (hoff : d.offN = false) :
    Calls Try.prog 30 #[.pointer (some ⟨g, 0, none⟩)] w fun e w' => e = .returned (.int .i64 0) ∧ ∃ F', Dv w' g d.begin.flushed F' ∧ Fr F w w' ∧ (∀ y, F' y → F y ∨ w.heap.size ≤ y) := by
  have HD := Lib.hid h
  have HN := Lib.hid hN; have HO := Lib.hid ho; have HL := Lib.hid hl
  have hz : ((d.good.length : Int) == 0) = false := by rw [beq_eq_false_iff_ne]; omega
  have hz2 : decide (d.good.length = 0) = false := decide_eq_false (by omega)
  have HOF := Lib.hid hoff
  clear h h0 hN ho hl hoff
  go_enter Try.func30, Try.ntmps30
  go_upto_region 3 with (first
    | (go_at_call 23; (with_reducible refine (bLen_any HD.out).mono ?_); rintro e wz ⟨rfl, rfl⟩)
    | (go_at_call 39; (with_reducible refine (bBegin_any HD.out HO.out HL.out).mono ?_); rintro e w1 ⟨rfl, hD1, hf1, hB1⟩; rw [HOF.out]))
  obtain ⟨gb, c, mb, hb0, hR0⟩ := HD.out.ex
  have h1 := hB1 gb c mb hb0
  have hRR := hR0.frame hf1 (fun x _ hne e => hne e)
  obtain ⟨m, r, D, G0, h2, h3, h4, h5, h6, h7, n1, n2, n3, hx, n4, n5, n6, h8⟩ := hRR.ex
  have c1 : w1.cell? ⟨g, 1, none⟩ = some (.map (some mb)) := h1.cell 1
  have hmb := h5.lt
  have HX := Lib.hid hx
  clear hx
  have hG1 : ∀ W, (w1.grownBy W none) → W.heap.size = w1.heap.size + 1 → Fr F w1 W := fun W hg _ => (Fr.refl _ _).grown hg (fun k hk => by cases hk)
  go_wp2_with (first
    | (at_range; go_loud (refine wpList_range_own _ rfl _ 59 rfl 3 58 intK Try.underlying59 hR mb m D rfl h5 ?_; intro w2 hrg0 hg0 hs0))
    | go_in)
  go_frame
  have hf2 := hG1 w2 hg0 hs0
  clear hG1
  go_loopw [3] (fun _ wr => ∃ (left : Lit → Bool) (cnt : Nat), wr.ranges Try.prog 3 hR mb w1.heap.size m D left cnt ∧ (∀ kl, left kl = true → has D kl = true) ∧ Blk wr g (dvS gb c mb d.begin) 61 ∧ Blk wr gb (rowsV (flG d left) ++ r) 67 ∧ Fr (fun y => y = gb) w1 wr)
    (fun _ wr => wr.rangeLeft mb w1.heap.size)
  case atStart =>
    exact ⟨_, _, hrg0, fun _ h => h, (h1.grown hg0), by rw [flG_start h7.yes]; exact h2.grown hg0, (Fr.refl _ _).grown hg0 (fun k hk => by cases hk)⟩
  case round =>
    obtain ⟨left, cnt, hrg, hle, hB1', hB2', hfr⟩ := hrel
    go_wp2_with (first
      | (at_next; refine wpList_next_ranges _ rfl _ rfl 3 intK hR (Value.int .i64) (fun v => v) (fun _ _ => key_int) (fun _ _ => hR_any) mb w1.heap.size m D left cnt rfl hrg ?_ ?_)
      | go_in)
    · intro hc0 hl0
      rw [flG_end hl0] at hB2'
      have hmm := @run_makeMap Try.prog
      have hfz := hB1'.frozen
      have c1r : wr.cell? ⟨g, 1, none⟩ = some (.map (some mb)) := hB1'.cell 1
      have hgl := hB1'.lt
      have HB1 := Lib.hid hB1'; have HB2 := Lib.hid hB2'; have HFR := Lib.hid hfr
      clear hB1' hB2' hfr hrg hle hl0
      go_wp2
      go_ret
      refine ⟨rfl, fun y => y = g ∨ y = gb ∨ y = wr.heap.size ∨ False, flush_dv HD.out.ok HB1.out HB2.out n1 h3 h4, ?_, ?_⟩
      · have hfr := HFR.out
        refine (hf1.mono (F' := F) (fun y hy => .inl (by cases hy; exact (HX.out g).2 (.inl rfl)))).trans (((hfr.mono (F' := F) (fun y hy => .inl (by cases hy; exact (HX.out gb).2 (.inr (.inl rfl))))).setCell (.inl ((HX.out g).2 (.inl rfl))) _).alloc _) (fun y hy => .inl hy)
      · have hfr := HFR.out
        have s1 := hf1.size; have s2 := hfr.size
        rintro y (rfl | rfl | rfl | hf)
        · exact .inl ((HX.out _).2 (.inl rfl))
        · exact .inl ((HX.out _).2 (.inr (.inl rfl)))
        · exact .inr (by omega)
        · exact hf.elim
    · intro x cv kl y1 y2 w3 cnt1 hkey hlx hRv hat hrg1 hlt hg1 hs1 hen
      obtain ⟨x', hx1, hx2, _⟩ := keyOf_int_inv Try.underlying3 hkey
      cases hx1
      obtain ⟨k, hk⟩ := h7.keys kl (hle kl hlx)
      rw [hx2] at hk
      cases hk
      subst hx2
      have hpk : d.pend k ≠ [] := fun e => by have := h7.no k e; rw [hle _ hlx] at this; cases this
      have hkl : k < d.good.length := by
        rcases Nat.lt_or_ge k d.good.length with h | h
        · exact h
        · exact absurd (HD.out.ok.few k h) hpk
      have hf3 : Fr (fun y => y = gb) w1 w3 := hfr.grown hg1 (fun j hj => .inr (by cases hj; exact Nat.le_refl _))
      have hne : ∀ j, j < w1.heap.size → some j ≠ some w1.heap.size := fun j hj e => by cases e; omega
      have hB3 : Blk w3 g (dvS gb c mb d.begin) 61 := by have hl := hB1'.lt; unfold Blk at hB1' ⊢; rw [hg1.block g hl (hne g h1.lt)]; exact hB1'
      have hB4 : Blk w3 gb (rowsV (flG d left) ++ r) 67 := by have hl := hB2'.lt; unfold Blk at hB2' ⊢; rw [hg1.block gb hl (hne gb h2.lt)]; exact hB2'
      have hrows := flG_rows HD.out.ok left
      have hDG : Dv w3 g { d.begin with good := flG d left } F := ⟨⟨hrows, (Bd.begin_ok HD.out.ok).pend, fun j hj => HD.out.ok.few j (by rw [← flG_len d left]; exact hj), (Bd.begin_ok HD.out.ok).left, (Bd.begin_ok HD.out.ok).cnt⟩, gb, c, mb, by
          have e : dvS gb c mb { d.begin with good := flG d left } = dvS gb c mb d.begin := by unfold dvS; simp only [flG_len]; rfl
          rw [e]; exact hB3, m, r, D, G0, hB4, by rw [flG_len]; exact h3, h4, hrg1.owns, Nat.le_succ_of_le h6, h7.frame hf3 (fun y hy e => n5 (e ▸ hy)), n1, n2, n3, HX.out, n4, n5, n6, fun y hy => Nat.lt_of_lt_of_le (h8 y hy) hf3.size⟩
      have HDG := Lib.hid hDG
      have HKL : Hid (k < ({ d.begin with good := flG d left } : Bd).good.length) := Lib.hid (by rw [flG_len]; exact hkl)
      have HN2 : Hid (({ d.begin with good := flG d left } : Bd).good.length ≤ 100000) := Lib.hid (by rw [flG_len]; exact HN.out)
      have HLAST : Hid (({ d.begin with good := flG d left } : Bd).last k = d.last k) := Lib.hid (by rw [Bd.last_cons hpk, Bd.last_cons (show ({ d.begin with good := flG d left } : Bd).pend k ≠ [] from hpk)]; rfl)
      have c0 : w3.cell? ⟨g, 0, none⟩ = some (.slice (some ⟨gb, 0, none⟩) d.good.length c) := hB3.cell 0
      have HBg := Lib.hid hB3; have HBb := Lib.hid hB4
      have hlast : (d.last k).length = 64 := Bd.at_len HD.out.ok hkl (Nat.le_refl _)
      have k0 : (0 : Int) ≤ (k : Int) := by omega
      have k1 : (k : Int) < (d.good.length : Int) := by omega
      go_upto_region 6 with fail
      refine rgX 9 [(21, 0), (0, 1), (0, 2), (0, 3), (0, 4), (0, 5), (0, 6), (0, 7), (0, 8)] [.pointer (some ⟨g, 0, none⟩), .pointer (some ⟨g, 0, none⟩), .pointer (some ⟨g, 0, none⟩), .slice (some ⟨gb, 0, none⟩) d.good.length c, .int .i64 (k : Int), .pointer (some ⟨g, 0, none⟩), .int .i64 (k : Int), rowV (d.last k), .pointer (some ⟨gb, k * 64, none⟩)] (fun W => Blk W gb (rowsV ((flG d left).set k (d.last k)) ++ r) 67 ∧ Fr (fun y => y = gb) w3 W) ?_ (fun u6 W6 hP _ => ?_)
      · refine ⟨?_, ?_, ?_, ?_, ?_, ?_, ?_, ?_, ?_, ?_, trivial⟩
        · refine kqP (by omega) (.cons (c := 8) (by kernel_rfl) (.cons (c := 3) (by kernel_rfl) (.cons (c := 2) (by kernel_rfl) (.cons (c := 1) (by kernel_rfl) (.one (by kernel_rfl)))))) fun u W hb hu => ?_
          go_simp
        · refine kqP (by omega) (.cons (c := 8) (by kernel_rfl) (.cons (c := 3) (by kernel_rfl) (.cons (c := 2) (by kernel_rfl) (.one (by kernel_rfl))))) fun u W hb hu => ?_
          have e0 := hu 0 (by kernel_rfl) (by omega)
          simp only [List.getD_cons_zero, List.getD_cons_succ] at e0
          go_simp
        · refine kqP (by omega) (.cons (c := 8) (by kernel_rfl) (.cons (c := 3) (by kernel_rfl) (.one (by kernel_rfl)))) fun u W hb hu => ?_
          have e1 := hu 1 (by kernel_rfl) (by omega)
          simp only [List.getD_cons_zero, List.getD_cons_succ] at e1
          go_simp
        · refine kqP (by omega) (.cons (c := 8) (by kernel_rfl) (.one (by kernel_rfl))) fun u W hb hu => ?_
          have e2 := hu 2 (by kernel_rfl) (by omega)
          simp only [List.getD_cons_zero, List.getD_cons_succ] at e2
          have hc := (hb.cell (p := ⟨g, 0, none⟩) HBg.out.lt).trans c0
          go_simp
        · refine kqP (by omega) (.cons (c := 8) (by kernel_rfl) (.one (by kernel_rfl))) fun u W hb hu => ?_
          go_simp
        · refine kqP (by omega) (.cons (c := 7) (by kernel_rfl) (.one (by kernel_rfl))) fun u W hb hu => ?_
          go_simp
        · refine kqP (by omega) (.cons (c := 7) (by kernel_rfl) (.one (by kernel_rfl))) fun u W hb hu => ?_
          go_simp
        · refine kqC (by omega) (.one (by kernel_rfl)) fun u W hb hu K hK => ?_
          have e5 := hu 5 (by kernel_rfl) (by omega)
          have e6 := hu 6 (by kernel_rfl) (by omega)
          simp only [List.getD_cons_zero, List.getD_cons_succ] at e5 e6
          go_simp
          go_at_call 40
          (with_reducible refine (bLast_any (HDG.out.later hb) HKL.out HN2.out).mono ?_); rintro e w5 ⟨rfl, hb5⟩
          rw [HLAST.out]
          have hk9 := hK.out _ hb5
          simp only [List.getD_cons_zero, List.getD_cons_succ, e5, e6] at hk9
          exact hk9
        · refine kqP (by omega) (.one (by kernel_rfl)) fun u W hb hu => ?_
          have e3 := hu 3 (by kernel_rfl) (by omega)
          have e4 := hu 4 (by kernel_rfl) (by omega)
          simp only [List.getD_cons_zero, List.getD_cons_succ] at e3 e4
          go_simp
          try rw [if_pos (by omega)]
        · refine kqL fun u W hb hu => ?_
          have e7 := hu 7 (by kernel_rfl) (by omega)
          have e8 := hu 8 (by kernel_rfl) (by omega)
          simp only [List.getD_cons_zero, List.getD_cons_succ] at e7 e8
          have hBW := HBb.out.below hb HBb.out.lt
          have ht : W.there gb (k * 64) 64 := rows_there hBW (flG_rows HD.out.ok left) (by rw [flG_len]; exact hkl)
          refine ⟨W.setCells gb (k * 64) ((d.last k).map bV), ?_, rows_set hBW (flG_rows HD.out.ok left) (by rw [flG_len]; exact hkl) hlast, (Fr.of_below hb).trans (Fr.cellsS _ _ _ (Fr.refl _ _)) (fun y hy => .inl hy)⟩
          exact run_store_row rfl (by exact e8) (by exact e7) ht hlast
      obtain ⟨hPb, hPf⟩ := hP
      have hrgF := ranges_frame hPf hrg1 (fun e => n3 e.symm) (fun e => by have := h2.lt; omega)
      have hgF := hPf.blk HBg.out n1
      have hf6 := hf3.trans hPf (fun y hy => .inl hy)
      rw [← flG_step hkl hpk] at hPb
      clear hDG HDG
      go_roundw
      case rel =>
        have hle2 : ∀ kl, (fun z : Lit => left z && !z.sameKey (.int .i64 (k : Int))) kl = true → has D kl = true := fun kl h => hle kl (by simp only [Bool.and_eq_true] at h; exact h.1)
        first | exact ⟨_, cnt1, hrgF, hle2, hgF, hPb, hf6⟩ | ((repeat apply Exists.intro); exact ⟨⟨_, cnt1, hrgF, hle2, hgF, hPb, hf6⟩, rfl⟩)
      case measure => rw [hrgF.left_eq, hrg.left_eq]; exact hlt
set_option maxRecDepth 100000 in
set_option maxHeartbeats 1000000 in
theorem bFlush_off {w : World} {g : Nat} {d : Bd} {F : Nat → Prop} (h : Dv w g d F) (h0 : 0 < d.good.length) (ho : d.ops < 1000000) (hl : d.left ≤ 9223372036854775807) (hoff : d.offN = true) :
    Calls Try.prog 30 #[.pointer (some ⟨g, 0, none⟩)] w fun e w' => e = .returned (.int .i64 10) ∧ Dv w' g d.begin F ∧ Fr F w w' := by
  have HD := Lib.hid h
  have HO := Lib.hid ho; have HL := Lib.hid hl
  have hz : ((d.good.length : Int) == 0) = false := by rw [beq_eq_false_iff_ne]; omega
  have hz2 : decide (d.good.length = 0) = false := decide_eq_false (by omega)
  have HOF := Lib.hid hoff
  have HG : Hid (F g) := Lib.hid (by obtain ⟨gb, c, mb, h0, hR0⟩ := h.ex; exact hR0.own)
  clear h h0 ho hl hoff
  go_enter Try.func30, Try.ntmps30
  go_wp2_with (first
    | (go_at_call 23; (with_reducible refine (bLen_any HD.out).mono ?_); rintro e wz ⟨rfl, rfl⟩)
    | (go_at_call 39; (with_reducible refine (bBegin_any HD.out HO.out HL.out).mono ?_); rintro e w1 ⟨rfl, hD1, hf1, hB1⟩; rw [HOF.out]))
  go_ret
  exact ⟨rfl, hD1, hf1.mono (fun y hy => .inl (by cases hy; exact HG.out))⟩
/-- Flush. -/
theorem bFlush_any {w : World} {g : Nat} {d : Bd} {F : Nat → Prop} (h : Dv w g d F) (h0 : 0 < d.good.length) (hN : d.good.length ≤ 100000) (ho : d.ops < 1000000) (hl : d.left ≤ 9223372036854775807) :
    Calls Try.prog 30 #[.pointer (some ⟨g, 0, none⟩)] w fun e w' => e = .returned (.int .i64 d.flushC) ∧ ∃ F', Dv w' g d.flush F' ∧ Fr F w w' ∧ (∀ y, F' y → F y ∨ w.heap.size ≤ y) := by
  unfold Bd.flushC Bd.flush
  by_cases hof : d.offN = true
  · rw [hof]
    exact (bFlush_off h h0 ho hl hof).mono fun e w' ⟨he, hD, hf⟩ => ⟨he, F, hD, hf, fun y hy => .inl hy⟩
  · have hof : d.offN = false := by simpa using hof
    rw [hof]
    exact bFlush_on h h0 hN ho hl hof
end Go.Proofs.Ytogjbhkhdccahaa
namespace Go.Proofs.Ytogjbhkhdccahaa
open Go Go.RowKit Go.Maps
/-- Known values, but for a new row (operation m) and a store to it (operation m + 1). -/
def GC (m B : Nat) (x : List UInt8) (X : List Value) (i : Nat) (L : Nat → Bool) (u : Nat → Value) (W : World) : Prop :=
  if i = m then (∃ q, u m = .pointer (some ⟨q, 0, none⟩) ∧ B ≤ q ∧ (L (m + 1) = false → Blk W q (zero64.map bV) 67)) else if i = m + 1 then (∃ q, u m = .pointer (some ⟨q, 0, none⟩) ∧ B ≤ q ∧ Blk W q (x.map bV) 67) else u i = X.getD i undef
def JC (w1 : World) (_L : Nat → Bool) (_u : Nat → Value) (W : World) : Prop := Below w1.heap.size w1 W
theorem GC.keep {m B i k : Nat} {x : List UInt8} {X : List Value} {wt : Nat → Nat → Bool} {L : Nat → Bool} {u : Nat → Value} {z : Value} {W W' : World} (hw : wt (m + 1) m = true) (hki : k ≠ i) (hwk : wt k i = false) (hb : Below W.heap.size W W') (h : GC m B x X k L u W) : GC m B x X k (putL L i) (putV u i z) W' := by
  unfold GC at *
  by_cases h1 : k = m
  · rw [if_pos h1] at h ⊢
    obtain ⟨q, e, hq, hB⟩ := h
    exact ⟨q, by rw [putV_ne (by omega)]; exact e, hq, fun hl => (hB (putL_false hl)).below hb (hB (putL_false hl)).lt⟩
  · rw [if_neg h1] at h ⊢
    by_cases h2 : k = m + 1
    · rw [if_pos h2] at h ⊢
      obtain ⟨q, e, hq, hB⟩ := h
      exact ⟨q, by rw [putV_ne (fun e => by subst e; subst h2; rw [hw] at hwk; cases hwk)]; exact e, hq, hB.below hb hB.lt⟩
    · rw [if_neg h2] at h ⊢
      rw [putV_ne hki]; exact h
section
variable {m : Nat} {w1 : World} {x : List UInt8} {X : List Value} {ops : Array Oper} {wt : Nat → Nat → Bool} {Q : Exit → Act → World → Prop} {fr : (Nat → Value) → Array Value} {df : List Deferred} {i : Nat} {o : Oper}
theorem soft_GC (hw : wt (m + 1) m = true) : Soft wt (GC m w1.heap.size x X) :=
  ⟨fun k L u i v W hki hwk h => GC.keep hw hki hwk (Below.refl _ _) h,
   fun k L u W W' hb h => by
    unfold GC at *
    by_cases h1 : k = m
    · rw [if_pos h1] at h ⊢
      obtain ⟨q, e, hq, hB⟩ := h
      exact ⟨q, e, hq, fun hl => (hB hl).below hb (hB hl).lt⟩
    · rw [if_neg h1] at h ⊢
      by_cases h2 : k = m + 1
      · rw [if_pos h2] at h ⊢
        obtain ⟨q, e, hq, hB⟩ := h
        exact ⟨q, e, hq, hB.below hb hB.lt⟩
      · rw [if_neg h2] at h ⊢; exact h⟩
/-- An operation that reads. -/
theorem kcP (hw : wt (m + 1) m = true) (hi : i ≠ m) (hi2 : i ≠ m + 1) (hr : ∀ u W, Below w1.heap.size w1 W → (∀ j, wt i j = true → j ≠ m → j ≠ m + 1 → u j = X.getD j undef) → (execOp (⟨fr u, df⟩ : Act).eval o).run Try.prog W = .ok (.value (X.getD i undef)) W) (hg : o.guard = none := by rfl) :
    StepAt Try.prog ops wt Q fr df (GC m w1.heap.size x X) (JC w1) i o := by
  intro L u W hcl hJ hG hL hdep K hK
  rw [if_pos (by simp [Region.wanted, hg])]
  unfold Oper.wp
  rw [hr u W hJ (fun j hw h1 h2 => by have := hG j (hdep j hw); unfold GC at this; rw [if_neg h1, if_neg h2] at this; exact this)]
  refine hK.out _ W hJ (fun k hk hki hwk h => GC.keep hw hki hwk (Below.refl _ _) h) ?_
  unfold GC
  rw [if_neg hi, if_neg hi2, putV_same]
/-- The new row. -/
theorem kcA (hw : wt (m + 1) m = true) (hr : ∀ u W, (execOp (⟨fr u, df⟩ : Act).eval o).run Try.prog W = .ok (.value (.pointer (some ⟨W.heap.size, 0, none⟩))) (W.alloc (.cells ((zero64.map bV).toArray) 67))) (hg : o.guard = none := by rfl) :
    StepAt Try.prog ops wt Q fr df (GC m w1.heap.size x X) (JC w1) m o := by
  intro L u W hcl hJ hG hL hdep K hK
  rw [if_pos (by simp [Region.wanted, hg])]
  unfold Oper.wp
  rw [hr u W]
  have hb : Below W.heap.size W (W.alloc (.cells (zero64.map bV).toArray 67)) := (Below.refl _ _).alloc (Nat.le_refl _) _
  refine hK.out _ _ (Below.call hJ hb) (fun k hk hki hwk h => GC.keep hw hki hwk hb h) ?_
  unfold GC
  rw [if_pos rfl, putV_same]
  exact ⟨_, rfl, hJ.size, fun _ => by have := Blk.new W (zero64.map bV).toArray 67; rw [List.toList_toArray] at this; exact this⟩
/-- The store to it. -/
theorem kcS {s : Nat} {a b : Operand} (hw : wt (m + 1) m = true) (hs : s ≠ m) (hs2 : s ≠ m + 1) (hws : wt (m + 1) s = true) (ho : o.op = .store 67 a b) (hx : x.length = 64) (hX : X.getD s undef = rowV x) (ha : ∀ u, (⟨fr u, df⟩ : Act).eval a = u m) (hb : ∀ u, (⟨fr u, df⟩ : Act).eval b = u s) (hg : o.guard = none := by rfl) :
    StepAt Try.prog ops wt Q fr df (GC m w1.heap.size x X) (JC w1) (m + 1) o := by
  intro L u W hcl hJ hG hL hdep K hK
  rw [if_pos (by simp [Region.wanted, hg])]
  have hm := hG m (hdep m hw)
  have h2 := hG s (hdep s hws)
  unfold GC at hm h2
  rw [if_pos rfl] at hm
  rw [if_neg hs, if_neg hs2, hX] at h2
  obtain ⟨q, e, hq, hB⟩ := hm
  have hB := hB hL
  have hB2 : Blk (W.setCells q 0 (x.map bV)) q (x.map bV) 67 := by
    have e0 : Blk W q (rowsV [zero64] ++ []) 67 := by simpa [rowsV] using hB
    have := rows_set (k := 0) e0 (fun y hy => by simp at hy; rw [hy]; rfl) (by simp) hx
    simpa [rowsV] using this
  unfold Oper.wp
  rw [run_store_row ho ((ha u).trans e) ((hb u).trans h2) (there_blk64 hB) hx]
  have hfr : Fr (fun y => y = q) W (W.setCells q 0 (x.map bV)) := Fr.cellsS _ _ _ (Fr.refl _ _)
  have hbJ : Below w1.heap.size w1 (W.setCells q 0 (x.map bV)) := hJ.trans (hfr.below hJ.size (fun y hy => by cases hy; exact hq))
  refine hK.out _ _ hbJ (fun k hk hki hwk h => ?_) ?_
  · unfold GC at *
    by_cases h1 : k = m
    · rw [if_pos h1] at h ⊢
      obtain ⟨q, e, hq, hB⟩ := h
      exact ⟨q, by rw [putV_ne (by omega)]; exact e, hq, fun hl => by rw [putL_same] at hl; cases hl⟩
    · rw [if_neg h1] at h ⊢
      rw [if_neg hki] at h ⊢
      rw [putV_ne hki]; exact h
  · unfold GC
    rw [if_neg (by omega), if_pos rfl]
    exact ⟨q, by rw [putV_ne (by omega)]; exact e, hq, hB2⟩
end
section
variable {F : List Value} {fr : (Nat → Value) → Array Value} {df : List Deferred} {ops : Array Oper} {id : Nat} {Q : Exit → Act → World → Prop} {w : World}
theorem rgC (n m : Nat) (p : List (Nat × Nat)) (X : List Value) (x : List UInt8) (hwt : waitsOn .any ops (m + 1) m = true) (hmn : m + 1 < n)
    (hsteps : AllSteps Try.prog ops (waitsOn .any ops) Q fr df (GC m w.heap.size x X) (JC w) 0 ops.toList)
    (hdone : ∀ u W q, Below w.heap.size w W → u m = .pointer (some ⟨q, 0, none⟩) → w.heap.size ≤ q → Blk W q (x.map bV) 67 → (∀ k, k < n → k ≠ m → k ≠ m + 1 → u k = X.getD k undef) → Q .normal ⟨fr u, df⟩ W)
    (hF : ∀ u, (mrg F p u).toArray = fr u := by intro u; dsimp only [mrg]; try exact rfl)
    (hc : okP p ops = true := by kernel_rfl) (hn : ops.size = n := by kernel_rfl) (hm : Try.prog.follows .mixedOrders = true := by kernel_rfl) (he : earlier .any ops = true := by kernel_rfl) : (Code.region id ops true).wp Try.prog Q ⟨F.toArray, df⟩ w := by
  obtain ⟨u0, hu⟩ := mrg_self p F (by simp only [okP, Bool.and_eq_true] at hc; exact hc.1)
  refine wp_region_mid (a := ⟨F.toArray, df⟩) fr (GC m w.heap.size x X) (JC w) u0 hm he (okP_put hc hF) (by rw [← hF, hu]) (Below.refl _ _).drew (soft_GC hwt) (fun _ => hsteps) (fun L u W hall hJ hG => ?_)
  have h1 := hG (m + 1) (by omega)
  unfold GC at h1
  rw [if_neg (by omega), if_pos rfl] at h1
  obtain ⟨q, e, hq, hB⟩ := h1
  exact hdone u W q hJ e hq hB (fun k hk h1 h2 => by have := hG k (by omega); unfold GC at this; rw [if_neg h1, if_neg h2] at this; exact this)
end
section
variable {n : Nat} {w1 : World} {X : List Value} {P : World → Prop} {ops : Array Oper} {wt : Nat → Nat → Bool} {Q : Exit → Act → World → Prop} {fr : (Nat → Value) → Array Value} {df : List Deferred} {i : Nat} {o : Oper}
/-- The last one, which may write and tells a value. -/
theorem kqV (hr : ∀ u W, Below w1.heap.size w1 W → (∀ j, wt n j = true → j < n → u j = X.getD j undef) → ∃ v w', (execOp (⟨fr u, df⟩ : Act).eval o).run Try.prog W = .ok (.value v) w' ∧ P w') (hg : o.guard = none := by rfl) :
    StepAt Try.prog ops wt Q fr df (GX n X) (JX n w1 P) n o := by
  intro L u W hcl hJ hG hL hdep K hK
  rw [if_pos (by simp [Region.wanted, hg])]
  obtain ⟨v, w', hrun, hP⟩ := hr u W (hJ.old hL) (fun j hw hj => hG j (hdep j hw) hj)
  unfold Oper.wp
  rw [hrun]
  refine hK.out v w' ⟨fun h => ?_, fun _ => hP⟩ (fun k hk hki hwk h => GX.keep hki h) (fun h => absurd h (Nat.lt_irrefl _))
  rw [putL_same] at h; cases h
end
end Go.Proofs.Ytogjbhkhdccahaa
namespace Go.Proofs.Ytogjbhkhdccahaa
open Go Go.RowKit Go.Maps
/-- The slice of a block's writes. -/
theorem pend_slice {w : World} {D : DataW Value} {G : Nat → Prop} {d : Bd} {k : Nat} {v : Value} (h7 : PendR w d.pend D G) (hat : D.atKey (.int .i64 (k : Int)) (.held nilS) = .held v) (hnil : d.pend k = [] → v = nilS) :
    ∃ a c, v = .slice a (d.pend k).length c ∧ ∀ i, i < (d.pend k).length → ∃ b r, a = some ⟨b, 0, none⟩ ∧ Blk w b (rowsV (d.pend k) ++ r) 67 := by
  by_cases hp : d.pend k = []
  · exact ⟨none, 0, by rw [hnil hp, hp]; rfl, fun i hi => by rw [hp] at hi; cases hi⟩
  · obtain ⟨b, c, r, e, hB, _⟩ := h7.row k hp
    rw [hat] at e
    cases e
    exact ⟨_, c, rfl, fun i _ => ⟨b, r, rfl, hB⟩⟩
theorem wrapI (n : Int) (h : -9223372036854775808 ≤ n ∧ n ≤ 9223372036854775807) : wrap64 n = n := by unfold wrap64; omega
theorem there_row64 {w : World} {g E : Nat} {x : List UInt8} (h : Blk w g (x.map bV) E) (hx : x.length = 64) : w.there g 0 64 := fun j hj => ⟨by rw [h.cell, List.getElem?_eq_getElem (by rw [List.length_map, hx]; omega)]; rfl, h.frozen _⟩
theorem rowb_set {w : World} {g : Nat} {x y : List UInt8} (h : Blk w g (x.map bV) 67) (hx : x.length = 64) (hy : y.length = 64) : Blk (w.setCells g 0 (y.map bV)) g (y.map bV) 67 := by
  have e0 : Blk w g (rowsV [x] ++ []) 67 := by simpa [rowsV] using h
  have := rows_set (k := 0) e0 (fun z hz => by simp at hz; rw [hz]; exact hx) (by simp) hy
  simpa [rowsV] using this
theorem blk_range {w : World} {g E : Nat} {x : List UInt8} (h : Blk w g (x.map bV) E) : w.rangeAt g 0 (x.map bV) := fun j v hv => by rw [Nat.zero_add, h.cell]; exact hv
theorem setCells_half {g E : Nat} : ∀ (vs pre old post : List Value) (w : World), old.length = vs.length → Blk w g (pre ++ (old ++ post)) E → Blk (w.setCells g pre.length vs) g (pre ++ (vs ++ post)) E := by
  intro vs
  induction vs with
  | nil =>
    intro pre old post w ho hB
    rw [List.eq_nil_of_length_eq_zero ho] at hB
    exact hB
  | cons v vs ih =>
    intro pre old post w ho hB
    cases old with
    | nil => simp at ho
    | cons o old =>
      have hB2 := hB.set pre.length v
      rw [List.set_append_right _ _ (Nat.le_refl _), Nat.sub_self, List.cons_append, List.set_cons_zero] at hB2
      have := ih (pre ++ [v]) old post (w.setCell ⟨g, pre.length, none⟩ v) (by simpa using ho) (by simpa using hB2)
      rw [World.setCells]
      simpa using this
theorem row_half {w : World} {g : Nat} {x y : List UInt8} (h : Blk w g (x.map bV) 67) (hx : x.length = 64) (hy : y.length = 64) : Blk (w.setCells g 0 ((y.take 32).map bV)) g ((y.take 32 ++ x.drop 32).map bV) 67 := by
  have e0 : Blk w g ([] ++ ((x.take 32).map bV ++ (x.drop 32).map bV)) 67 := by rw [List.nil_append, ← List.map_append, List.take_append_drop]; exact h
  have := setCells_half ((y.take 32).map bV) [] _ _ w (by simp [hx, hy]) e0
  rw [List.map_append]
  exact this
theorem rows_at64 {w : World} {g E k : Nat} {l : List (List UInt8)} {r : List Value} (h : Blk w g (rowsV l ++ r) E) (hl : ∀ x ∈ l, x.length = 64) (hk : k < l.length) : w.rangeAt g (k * 64) ((l.getD k []).map bV) := by
  have := rows_at h hl hk
  rwa [Nat.mul_comm 64 k] at this
theorem info8 : (Try.prog.info? 5).map (·.size) = some 1 := by kernel_rfl
theorem run_copy_half {ev : Operand → Value} {o : Oper} {a b : Operand} {w : World} {g s q : Nat} {x y : List UInt8} (ho : o.op = .call { callee := .builtin .copy, args := #[a, b], argTypes := #[28, 28] })
    (ha : ev a = .slice (some ⟨g, 0, none⟩) 32 64) (hb : ev b = .slice (some ⟨s, q, none⟩) 32 64) (hB : Blk w g (x.map bV) 67) (hx : x.length = 64) (hr : w.rangeAt s q (y.map bV)) (hy : y.length = 64) :
    (execOp ev o).run Try.prog w = .ok (.value (goInt 32)) (w.setCells g 0 ((y.take 32).map bV)) := by
  have hl : ((y.take 32).map bV).length = 32 := by simp [hy]
  have h := run_copy_cells (P := Try.prog) w 28 28 o.type 5 g 0 32 64 ⟨s, q, none⟩ 32 64 ((y.take 32).map bV) Try.underlying28 info8 hl
    (fun j v hv => by
      rw [Addr.add_mid]
      have hj := (List.getElem?_eq_some_iff.1 hv).1
      rw [hl] at hj
      rw [List.map_take, List.getElem?_take, if_pos hj] at hv
      exact hr j v hv)
    (fun j hj => by rw [Nat.zero_add, hB.cell, List.getElem?_eq_getElem (by rw [List.length_map, hx]; omega)]; rfl) (fun j _ => hB.frozen _) (fun v hv => by rw [List.mem_map] at hv; obtain ⟨c, _, rfl⟩ := hv; rfl)
  rw [hl] at h
  unfold execOp
  simp only [ho, ha, hb, resolve, invoke, builtin, Sem.run_bind, Sem.run_pure, Result.andThen_ok, List.map_toArray, List.map_cons, List.map_nil, h]
  rfl
set_option maxRecDepth 100000 in
set_option maxHeartbeats 2000000 in
theorem bCrashed_any {w : World} {g k p : Nat} {pick : Int} {d : Bd} {F : Nat → Prop} (h : Dv w g d F) (hk : k < d.good.length) (hN : d.good.length ≤ 100000) (ho : d.ops < 1000000)
    (hp1 : -9223372036854775808 ≤ pick) (hp2 : pick ≤ 9223372036854775807) (hp : p = (pick % (2 * (d.pend k).length + 1 : Nat)).toNat) :
    Calls Try.prog 33 #[.pointer (some ⟨g, 0, none⟩), .int .i64 (k : Int), .int .i64 pick] w fun e w' => e = .returned (rowV (d.crashRow k p)) ∧ Below w.heap.size w w' := by
  have HD := Lib.hid h
  have HK := Lib.hid hk; have HN := Lib.hid hN
  have hal := allocrow
  have HG : Hid ((d.good.getD k []).length = 64) := Lib.hid (Bd.at_len h.ok hk (Nat.zero_le _))
  have hcnt := h.ok.cnt k
  obtain ⟨K, hK⟩ : ∃ K : Nat, K = 2 * (d.pend k).length + 1 := ⟨_, rfl⟩
  rw [← hK] at hp
  have hw1 : wrap64 (wrap64 (2 * ((d.pend k).length : Int)) + 1) = (K : Int) := by unfold wrap64; omega
  have hpb : -(K : Int) < pick.tmod (K : Int) ∧ pick.tmod (K : Int) < K := ⟨by have := Int.lt_tmod_of_pos pick (show (0 : Int) < K by omega); omega, Int.tmod_lt_of_pos pick (by omega)⟩
  have hw2 : wrap64 (pick.tmod (K : Int) + K) = pick.tmod (K : Int) + K := by unfold wrap64; omega
  have HPV : Hid ((wrap64 (pick.tmod (K : Int) + K)).tmod (K : Int) = (p : Int)) := Lib.hid (by
    have hm1 : (0 : Int) ≤ pick % (K : Int) := Int.emod_nonneg _ (by omega)
    rw [hw2, Int.tmod_eq_emod_of_nonneg (by omega), Int.add_emod_right, hp, Int.toNat_of_nonneg hm1, Int.tmod_eq_emod]
    split
    · simp
    · rename_i hneg
      rw [Int.sub_emod, Int.emod_emod_of_dvd _ (Int.dvd_refl _)]
      simp)
  have HPK := Lib.hid (show p < K by have := Int.emod_lt_of_pos pick (show (0 : Int) < K by omega); have := Int.emod_nonneg pick (show (K : Int) ≠ 0 by omega); omega)
  have HKV := Lib.hid hK
  have HSM := Lib.hid (show K < 4000000 by omega)
  have hK0 : (K : Int) ≠ 0 := by omega
  clear h hk hN ho hp1 hp2 hp hcnt hK hpb hw2
  go_enter Try.func33, Try.ntmps33
  go_upto_region 1 with fail
  refine wp_gen (fun W => Blk W w.heap.size (zero64.map bV) 67 ∧ Below w.heap.size w W) ⟨by have := Blk.new w (zero64.map bV).toArray 67; rw [List.toList_toArray] at this; exact this, (Below.refl _ _).alloc (Nat.le_refl _) _⟩ (fun w1 hW => ?_)
  obtain ⟨hZ, hbel⟩ := hW
  obtain ⟨gb, c, mb, h1, hR⟩ := (HD.out.later hbel).ex
  obtain ⟨m, r, D, G, h2, h3, h4, h5, h6, h7, _⟩ := hR.ex
  have c0 : w1.cell? ⟨g, 0, none⟩ = some (.slice (some ⟨gb, 0, none⟩) d.good.length c) := h1.cell 0
  have c1 : w1.cell? ⟨g, 1, none⟩ = some (.map (some mb)) := h1.cell 1
  obtain ⟨v0, hlk0, hat, hnil⟩ := pend_look h5 h7 (k := k) (by have := HK.out; have := HN.out; omega)
  obtain ⟨sa, sc, rfl, hrows⟩ := pend_slice h7 hat hnil
  have hlk : ∀ W, Below w1.heap.size w1 W → (Instr.lookup 59 (.map (some mb)) (.int .i64 (k : Int)) false).run Try.prog W = .ok (.slice sa (d.pend k).length sc) W := fun W hf => by
    obtain ⟨v2, ps, hl2, hv2⟩ := (ownsMap_frame (F := fun _ => False) (.of_below hf) h5 (fun h => h)).lookup intK Try.underlying59 (zeroS W) (zd := .held nilS) (zp := []) rfl (keyI k (by have := HK.out; have := HN.out; omega))
    rw [hat] at hv2
    obtain rfl := hR_held hv2
    exact hl2
  have k0 : (0 : Int) ≤ (k : Int) := by omega
  have k1 : (k : Int) < (d.good.length : Int) := by have := HK.out; omega
  refine rgC 16 13 [(7, 13), (0, 15), (2, 0), (0, 1), (0, 2), (0, 3), (0, 4), (0, 5), (0, 6), (0, 7), (0, 8), (0, 9), (0, 10), (0, 11), (0, 12)] [.pointer (some ⟨g, 0, none⟩), .pointer (some ⟨g, 0, none⟩), .pointer (some ⟨g, 0, none⟩), .slice (some ⟨gb, 0, none⟩) d.good.length c, .int .i64 (k : Int), .pointer (some ⟨gb, k * 64, none⟩), rowV (d.good.getD k []), .pointer (some ⟨g, 0, none⟩), .pointer (some ⟨g, 0, none⟩), .pointer (some ⟨g, 1, none⟩), .map (some mb), .int .i64 (k : Int), .slice sa (d.pend k).length sc, undef, undef, .slice sa (d.pend k).length sc] (d.good.getD k []) (by kernel_rfl) (by omega) ?_ (fun u3 w3 q3 hb3 hq3 hq3' hB3 hu3 => ?_)
  · refine ⟨?_, ?_, ?_, ?_, ?_, ?_, ?_, ?_, ?_, ?_, ?_, ?_, ?_, ?_, ?_, ?_, trivial⟩
    · refine kcP (by kernel_rfl) (by omega) (by omega) fun u W hb hu => ?_
      go_simp
    · refine kcP (by kernel_rfl) (by omega) (by omega) fun u W hb hu => ?_
      have e0 := hu 0 (by kernel_rfl) (by omega) (by omega)
      simp only [List.getD_cons_zero, List.getD_cons_succ] at e0
      go_simp
    · refine kcP (by kernel_rfl) (by omega) (by omega) fun u W hb hu => ?_
      have e1 := hu 1 (by kernel_rfl) (by omega) (by omega)
      simp only [List.getD_cons_zero, List.getD_cons_succ] at e1
      go_simp
    · refine kcP (by kernel_rfl) (by omega) (by omega) fun u W hb hu => ?_
      have e2 := hu 2 (by kernel_rfl) (by omega) (by omega)
      simp only [List.getD_cons_zero, List.getD_cons_succ] at e2
      have hc := (hb.cell (p := ⟨g, 0, none⟩) h1.lt).trans c0
      go_simp
    · refine kcP (by kernel_rfl) (by omega) (by omega) fun u W hb hu => ?_
      go_simp
    · refine kcP (by kernel_rfl) (by omega) (by omega) fun u W hb hu => ?_
      have e3 := hu 3 (by kernel_rfl) (by omega) (by omega)
      have e4 := hu 4 (by kernel_rfl) (by omega) (by omega)
      simp only [List.getD_cons_zero, List.getD_cons_succ] at e3 e4
      go_simp
      try rw [if_pos (by omega)]
    · refine kcP (by kernel_rfl) (by omega) (by omega) fun u W hb hu => ?_
      have e5 := hu 5 (by kernel_rfl) (by omega) (by omega)
      simp only [List.getD_cons_zero, List.getD_cons_succ] at e5
      have hld := rows_at (h2.below hb h2.lt) HD.out.ok.rows HK.out
      rw [Nat.mul_comm 64 k] at hld
      exact run_load_row rfl (by exact e5) hld HG.out
    · refine kcP (by kernel_rfl) (by omega) (by omega) fun u W hb hu => ?_
      go_simp
    · refine kcP (by kernel_rfl) (by omega) (by omega) fun u W hb hu => ?_
      have e7 := hu 7 (by kernel_rfl) (by omega) (by omega)
      simp only [List.getD_cons_zero, List.getD_cons_succ] at e7
      go_simp
    · refine kcP (by kernel_rfl) (by omega) (by omega) fun u W hb hu => ?_
      have e8 := hu 8 (by kernel_rfl) (by omega) (by omega)
      simp only [List.getD_cons_zero, List.getD_cons_succ] at e8
      go_simp
    · refine kcP (by kernel_rfl) (by omega) (by omega) fun u W hb hu => ?_
      have e9 := hu 9 (by kernel_rfl) (by omega) (by omega)
      simp only [List.getD_cons_zero, List.getD_cons_succ] at e9
      have hc := (hb.cell (p := ⟨g, 1, none⟩) h1.lt).trans c1
      go_simp
    · refine kcP (by kernel_rfl) (by omega) (by omega) fun u W hb hu => ?_
      go_simp
    · refine kcP (by kernel_rfl) (by omega) (by omega) fun u W hb hu => ?_
      have e10 := hu 10 (by kernel_rfl) (by omega) (by omega)
      have e11 := hu 11 (by kernel_rfl) (by omega) (by omega)
      simp only [List.getD_cons_zero, List.getD_cons_succ] at e10 e11
      have hl := hlk W hb
      go_simp
    · exact kcA (by kernel_rfl) fun u W => by go_simp; try kernel_rfl
    · exact kcS (s := 6) (by kernel_rfl) (by omega) (by omega) (by kernel_rfl) rfl HG.out rfl (fun _ => rfl) (fun _ => rfl)
    · refine kcP (by kernel_rfl) (by omega) (by omega) fun u W hb hu => ?_
      have e12 := hu 12 (by kernel_rfl) (by omega) (by omega)
      simp only [List.getD_cons_zero, List.getD_cons_succ] at e12
      go_simp
  have e8 := hu3 15 (by omega) (by omega) (by omega)
  simp only [List.getD_cons_zero, List.getD_cons_succ] at e8
  rw [hq3, e8]
  go_upto_region 4 with fail
  rw [HPV.out]
  have HX := Lib.hid hB3
  have HBL := Lib.hid hb3
  have h13 := hb3
  have hZ6 := hZ
  clear hZ h1 h2 h3 h4 h5 h6 h7 hR hat hnil hlk0 hlk c0 c1 hu3 hq3 e8 hw1 hB3 hb3
  by_cases hp1 : 1 < p
  · have a1 : decide ((1 : Int) < (p : Int)) = true := decide_eq_true (by omega)
    obtain ⟨i, hi⟩ : ∃ i : Nat, p / 2 = i + 1 := ⟨p / 2 - 1, by omega⟩
    have hin : i < (d.pend k).length := by have := HPK.out; have := HKV.out; omega
    obtain ⟨b2, r2, rfl, hBb⟩ := hrows i hin
    have hrl : ((d.pend k).getD i []).length = 64 := by rw [List.getD_eq_getElem?_getD, List.getElem?_eq_getElem hin]; exact HD.out.ok.pend k _ (List.getElem_mem _)
    have hld := rows_at (hBb.below h13 hBb.lt) (HD.out.ok.pend k) hin
    rw [Nat.mul_comm 64 i] at hld
    have HDA : Hid (d.at k (p / 2) = (d.pend k).getD i []) := Lib.hid (by unfold Bd.at; rw [hi, if_neg (by omega)]; rfl)
    have hpi : (p : Int) / 2 = (i : Int) + 1 := by omega
    have hib : (i : Int) < 4000000 := by have := HSM.out; have := HPK.out; omega
    have hq1 : wrap64 (wrap64 ((p : Int) / 2) - 1) = (i : Int) := by
      rw [hpi, wrapI ((i : Int) + 1) ⟨by omega, by omega⟩, Int.add_sub_cancel, wrapI (i : Int) ⟨by omega, by omega⟩]
    clear hpi hib
    have i0 : (0 : Int) ≤ (i : Int) := by omega
    have i1 : (i : Int) < ((d.pend k).length : Int) := by omega
    have HRL := Lib.hid hrl
    clear hi
    go_upto_region 6 with (first
      | (refine wpList_load_mid rfl 67 (.tmp 41) rfl b2 (i * 64) rfl (((d.pend k).getD i []).map bV) _ hld Try.underlying67 rfl (inforow hrl) ?_)
      | (refine wpList_store_mid rfl 67 (.tmp 7) (.tmp 42) rfl q3 0 (((d.pend k).getD i []).map bV).toArray rfl rfl (there_row (there_row64 HX.out HG.out) HRL.out) (inforow' HRL.out) (oneRow _) ?_))
    refine wp_gen (fun W => Blk W q3 ((d.at k (p / 2)).map bV) 67 ∧ Below w1.heap.size w1 W) ⟨?_, HBL.out.trans ((Fr.cellsS _ _ _ (Fr.refl _ _)).below HBL.out.size (fun y hy => by cases hy; exact hq3'))⟩ (fun w5 hW5 => ?_)
    · rw [HDA.out]; exact rowb_set HX.out HG.out HRL.out
    obtain ⟨hB5, hb5⟩ := hW5
    clear HX HBL h13 hld hBb HDA HRL hrl hq1
    by_cases hp2 : p % 2 = 1
    · have a2 : ((p : Int) % 2 == 1) = true := by rw [beq_iff_eq]; omega
      obtain ⟨jj, hjj⟩ : ∃ j, p / 2 = j := ⟨_, rfl⟩
      have hwp : IntKind.i64.wrap ((p : Int) / 2) = (jj : Int) := by rw [IntKind.wrap_i64]; have := HSM.out; have := HPK.out; omega
      have hj : jj < (d.pend k).length := by have := HPK.out; have := HKV.out; omega
      obtain ⟨b2, r2, e2, hBb2⟩ := hrows jj hj
      cases e2
      have HAT : Hid ((d.at k (p / 2)).length = 64) := Lib.hid (Bd.at_len HD.out.ok HK.out (by omega))
      have HY : Hid (((d.pend k).getD jj []).length = 64) := Lib.hid (by rw [List.getD_eq_getElem?_getD, List.getElem?_eq_getElem hj]; exact HD.out.ok.pend k _ (List.getElem_mem _))
      have HRES : Hid (d.crashRow k p = ((d.pend k).getD jj []).take 32 ++ (d.at k (p / 2)).drop 32) := Lib.hid (by unfold Bd.crashRow; rw [if_pos hp2, hjj])
      have HPB := Lib.hid (hBb2.below hb5 hBb2.lt)
      have HPL := Lib.hid (HD.out.ok.pend k)
      have HB6 := Lib.hid hb5; have HZ6 := Lib.hid (hZ6.below hb5 hZ6.lt)
      obtain ⟨X, hX⟩ : ∃ X, d.at k (p / 2) = X := ⟨_, rfl⟩
      rw [hX] at HAT HRES hB5
      obtain ⟨Y, hY⟩ : ∃ Y, (d.pend k).getD jj [] = Y := ⟨_, rfl⟩
      rw [hY] at HY HRES
      have HYE := Lib.hid hY
      have HB5 := Lib.hid hB5
      have j0 : (0 : Int) ≤ (jj : Int) := by omega
      have j1 : (jj : Int) < ((d.pend k).length : Int) := by omega
      have HJ := Lib.hid hj
      clear hB5 hb5 hX hY hBb2 hj hp2 hjj
      go_upto_region 7 with fail
      refine rgX 6 [(46, 0), (0, 1), (0, 2), (0, 3), (0, 4), (0, 5), (0, 6)] [.slice (some ⟨q3, 0, none⟩) 32 64, .slice (some ⟨b2, 0, none⟩) (d.pend k).length sc, .int .i64 (p : Int), .int .i64 (jj : Int), .pointer (some ⟨b2, jj * 64, none⟩), .slice (some ⟨b2, jj * 64, none⟩) 32 64] (fun W => Blk W q3 ((Y.take 32 ++ X.drop 32).map bV) 67 ∧ Below w1.heap.size w5 W) ?_ (fun u6 W6 hP _ => ?_)
      · refine ⟨?_, ?_, ?_, ?_, ?_, ?_, ?_, trivial⟩
        · refine kqP (by omega) (.one (by kernel_rfl)) fun u W hb hu => ?_
          go_simp
        · refine kqP (by omega) (.cons (c := 5) (by kernel_rfl) (.cons (c := 4) (by kernel_rfl) (.one (by kernel_rfl)))) fun u W hb hu => ?_
          go_simp
        · refine kqP (by omega) (.cons (c := 5) (by kernel_rfl) (.cons (c := 4) (by kernel_rfl) (.cons (c := 3) (by kernel_rfl) (.one (by kernel_rfl))))) fun u W hb hu => ?_
          go_simp
        · refine kqP (by omega) (.cons (c := 5) (by kernel_rfl) (.cons (c := 4) (by kernel_rfl) (.one (by kernel_rfl)))) fun u W hb hu => ?_
          have e2 := hu 2 (by kernel_rfl) (by omega)
          simp only [List.getD_cons_zero, List.getD_cons_succ] at e2
          go_simp
          try exact hwp
        · refine kqP (by omega) (.cons (c := 5) (by kernel_rfl) (.one (by kernel_rfl))) fun u W hb hu => ?_
          have e1 := hu 1 (by kernel_rfl) (by omega)
          have e3 := hu 3 (by kernel_rfl) (by omega)
          simp only [List.getD_cons_zero, List.getD_cons_succ] at e1 e3
          go_simp
          try rw [if_pos (by omega)]
        · refine kqP (by omega) (.one (by kernel_rfl)) fun u W hb hu => ?_
          have e4 := hu 4 (by kernel_rfl) (by omega)
          simp only [List.getD_cons_zero, List.getD_cons_succ] at e4
          go_simp
        · refine kqV fun u W hb hu => ?_
          have e0 := hu 0 (by kernel_rfl) (by omega)
          have e5 := hu 5 (by kernel_rfl) (by omega)
          simp only [List.getD_cons_zero, List.getD_cons_succ] at e0 e5
          have hBW := HB5.out.below hb HB5.out.lt
          have hPW := rows_at64 (HPB.out.below hb HPB.out.lt) HPL.out HJ.out
          rw [HYE.out] at hPW
          exact ⟨_, _, run_copy_half rfl (by exact e0) (by exact e5) hBW HAT.out hPW HY.out, row_half hBW HAT.out HY.out, (hb.mono HB6.out.size).trans ((Fr.cellsS _ _ _ (Fr.refl _ _)).below (Nat.le_trans HB6.out.size hb.size) (fun y hy => by cases hy; exact hq3'))⟩
      obtain ⟨hB7, hb7⟩ := hP
      have hl7 : ((Y.take 32 ++ X.drop 32 : List UInt8)).length = 64 := by rw [List.length_append, List.length_take, List.length_drop, HAT.out, HY.out]; rfl
      obtain ⟨V, hV⟩ : ∃ V, Y.take 32 ++ X.drop 32 = V := ⟨_, rfl⟩
      rw [hV] at hl7 HRES hB7
      have HL7 := Lib.hid hl7
      have hld := blk_range hB7
      have HB8 := Lib.hid (HB6.out.trans hb7)
      have ht := there_blk64 (hZ6.below HB8.out hZ6.lt)
      have HZ8 := Lib.hid (hZ6.below HB8.out hZ6.lt)
      clear hB7 hb7 hV hl7
      go_wp2_with (first
        | (refine wpList_load_mid rfl 67 (.tmp 7) rfl q3 0 rfl (V.map bV) _ hld Try.underlying67 rfl (inforow HL7.out) ?_)
        | (refine wpList_store_mid rfl 67 (.tmp 6) (.tmp 53) rfl w.heap.size 0 (V.map bV).toArray rfl rfl (there_row ht HL7.out) (inforow' HL7.out) (oneRow _) ?_))
      refine ret_cell1 (R := rB64) Try.results33 rfl (row_stored HZ8.out HL7.out) tyrow rfl (fun r hr => ⟨?_, ?_⟩)
      · rw [ret_row hr, HRES.out]
      · refine hbel.trans ((HB8.out.mono hbel.size).trans ((Fr.cellsS _ _ _ (Fr.refl _ _)).below (Nat.le_trans hbel.size HB8.out.size) (fun x e => ?_)))
        exact Nat.le_of_eq e.symm
    · have a2 : ((p : Int) % 2 == 1) = false := by rw [beq_eq_false_iff_ne]; omega
      have HAT : Hid ((d.at k (p / 2)).length = 64) := Lib.hid (Bd.at_len HD.out.ok HK.out (by have := HPK.out; have := HKV.out; omega))
      have HRES : Hid (d.crashRow k p = d.at k (p / 2)) := Lib.hid (by unfold Bd.crashRow; rw [if_neg hp2])
      obtain ⟨X, hX⟩ : ∃ X, d.at k (p / 2) = X := ⟨_, rfl⟩
      rw [hX] at HAT HRES hB5
      have hld := blk_range hB5
      have ht := there_blk64 (hZ6.below hb5 hZ6.lt)
      have HB6 := Lib.hid hb5; have HZ6 := Lib.hid (hZ6.below hb5 hZ6.lt)
      clear hB5 hb5 hX
      go_wp2_with (first
        | (refine wpList_load_mid rfl 67 (.tmp 7) rfl q3 0 rfl (X.map bV) _ hld Try.underlying67 rfl (inforow HAT.out) ?_)
        | (refine wpList_store_mid rfl 67 (.tmp 6) (.tmp 53) rfl w.heap.size 0 (X.map bV).toArray rfl rfl (there_row ht HAT.out) (inforow' HAT.out) (oneRow _) ?_))
      refine ret_cell1 (R := rB64) Try.results33 rfl (row_stored HZ6.out HAT.out) tyrow rfl (fun r hr => ⟨?_, ?_⟩)
      · rw [ret_row hr, HRES.out]
      · refine hbel.trans ((HB6.out.mono hbel.size).trans ((Fr.cellsS _ _ _ (Fr.refl _ _)).below (Nat.le_trans hbel.size HB6.out.size) (fun x e => ?_)))
        exact Nat.le_of_eq e.symm
  · have a1 : decide ((1 : Int) < (p : Int)) = false := decide_eq_false (by omega)
    have HDA : Hid (d.at k (p / 2) = d.good.getD k []) := Lib.hid (by unfold Bd.at; rw [if_pos (by omega)])
    go_upto_region 6 with fail
    refine wp_gen (fun W => Blk W q3 ((d.at k (p / 2)).map bV) 67 ∧ Below w1.heap.size w1 W) ⟨?_, HBL.out⟩ (fun w5 hW5 => ?_)
    · rw [HDA.out]; exact HX.out
    obtain ⟨hB5, hb5⟩ := hW5
    clear HX HBL h13 HDA
    by_cases hp2 : p % 2 = 1
    · have a2 : ((p : Int) % 2 == 1) = true := by rw [beq_iff_eq]; omega
      obtain ⟨jj, hjj⟩ : ∃ j, p / 2 = j := ⟨_, rfl⟩
      have hwp : IntKind.i64.wrap ((p : Int) / 2) = (jj : Int) := by rw [IntKind.wrap_i64]; have := HSM.out; have := HPK.out; omega
      have hj : jj < (d.pend k).length := by have := HPK.out; have := HKV.out; omega
      obtain ⟨b2, r2, e2, hBb2⟩ := hrows jj hj
      cases e2
      have HAT : Hid ((d.at k (p / 2)).length = 64) := Lib.hid (Bd.at_len HD.out.ok HK.out (by omega))
      have HY : Hid (((d.pend k).getD jj []).length = 64) := Lib.hid (by rw [List.getD_eq_getElem?_getD, List.getElem?_eq_getElem hj]; exact HD.out.ok.pend k _ (List.getElem_mem _))
      have HRES : Hid (d.crashRow k p = ((d.pend k).getD jj []).take 32 ++ (d.at k (p / 2)).drop 32) := Lib.hid (by unfold Bd.crashRow; rw [if_pos hp2, hjj])
      have HPB := Lib.hid (hBb2.below hb5 hBb2.lt)
      have HPL := Lib.hid (HD.out.ok.pend k)
      have HB6 := Lib.hid hb5; have HZ6 := Lib.hid (hZ6.below hb5 hZ6.lt)
      obtain ⟨X, hX⟩ : ∃ X, d.at k (p / 2) = X := ⟨_, rfl⟩
      rw [hX] at HAT HRES hB5
      obtain ⟨Y, hY⟩ : ∃ Y, (d.pend k).getD jj [] = Y := ⟨_, rfl⟩
      rw [hY] at HY HRES
      have HYE := Lib.hid hY
      have HB5 := Lib.hid hB5
      have j0 : (0 : Int) ≤ (jj : Int) := by omega
      have j1 : (jj : Int) < ((d.pend k).length : Int) := by omega
      have HJ := Lib.hid hj
      clear hB5 hb5 hX hY hBb2 hj hp2 hjj
      go_upto_region 7 with fail
      refine rgX 6 [(46, 0), (0, 1), (0, 2), (0, 3), (0, 4), (0, 5), (0, 6)] [.slice (some ⟨q3, 0, none⟩) 32 64, .slice (some ⟨b2, 0, none⟩) (d.pend k).length sc, .int .i64 (p : Int), .int .i64 (jj : Int), .pointer (some ⟨b2, jj * 64, none⟩), .slice (some ⟨b2, jj * 64, none⟩) 32 64] (fun W => Blk W q3 ((Y.take 32 ++ X.drop 32).map bV) 67 ∧ Below w1.heap.size w5 W) ?_ (fun u6 W6 hP _ => ?_)
      · refine ⟨?_, ?_, ?_, ?_, ?_, ?_, ?_, trivial⟩
        · refine kqP (by omega) (.one (by kernel_rfl)) fun u W hb hu => ?_
          go_simp
        · refine kqP (by omega) (.cons (c := 5) (by kernel_rfl) (.cons (c := 4) (by kernel_rfl) (.one (by kernel_rfl)))) fun u W hb hu => ?_
          go_simp
        · refine kqP (by omega) (.cons (c := 5) (by kernel_rfl) (.cons (c := 4) (by kernel_rfl) (.cons (c := 3) (by kernel_rfl) (.one (by kernel_rfl))))) fun u W hb hu => ?_
          go_simp
        · refine kqP (by omega) (.cons (c := 5) (by kernel_rfl) (.cons (c := 4) (by kernel_rfl) (.one (by kernel_rfl)))) fun u W hb hu => ?_
          have e2 := hu 2 (by kernel_rfl) (by omega)
          simp only [List.getD_cons_zero, List.getD_cons_succ] at e2
          go_simp
          try exact hwp
        · refine kqP (by omega) (.cons (c := 5) (by kernel_rfl) (.one (by kernel_rfl))) fun u W hb hu => ?_
          have e1 := hu 1 (by kernel_rfl) (by omega)
          have e3 := hu 3 (by kernel_rfl) (by omega)
          simp only [List.getD_cons_zero, List.getD_cons_succ] at e1 e3
          go_simp
          try rw [if_pos (by omega)]
        · refine kqP (by omega) (.one (by kernel_rfl)) fun u W hb hu => ?_
          have e4 := hu 4 (by kernel_rfl) (by omega)
          simp only [List.getD_cons_zero, List.getD_cons_succ] at e4
          go_simp
        · refine kqV fun u W hb hu => ?_
          have e0 := hu 0 (by kernel_rfl) (by omega)
          have e5 := hu 5 (by kernel_rfl) (by omega)
          simp only [List.getD_cons_zero, List.getD_cons_succ] at e0 e5
          have hBW := HB5.out.below hb HB5.out.lt
          have hPW := rows_at64 (HPB.out.below hb HPB.out.lt) HPL.out HJ.out
          rw [HYE.out] at hPW
          exact ⟨_, _, run_copy_half rfl (by exact e0) (by exact e5) hBW HAT.out hPW HY.out, row_half hBW HAT.out HY.out, (hb.mono HB6.out.size).trans ((Fr.cellsS _ _ _ (Fr.refl _ _)).below (Nat.le_trans HB6.out.size hb.size) (fun y hy => by cases hy; exact hq3'))⟩
      obtain ⟨hB7, hb7⟩ := hP
      have hl7 : ((Y.take 32 ++ X.drop 32 : List UInt8)).length = 64 := by rw [List.length_append, List.length_take, List.length_drop, HAT.out, HY.out]; rfl
      obtain ⟨V, hV⟩ : ∃ V, Y.take 32 ++ X.drop 32 = V := ⟨_, rfl⟩
      rw [hV] at hl7 HRES hB7
      have HL7 := Lib.hid hl7
      have hld := blk_range hB7
      have HB8 := Lib.hid (HB6.out.trans hb7)
      have ht := there_blk64 (hZ6.below HB8.out hZ6.lt)
      have HZ8 := Lib.hid (hZ6.below HB8.out hZ6.lt)
      clear hB7 hb7 hV hl7
      go_wp2_with (first
        | (refine wpList_load_mid rfl 67 (.tmp 7) rfl q3 0 rfl (V.map bV) _ hld Try.underlying67 rfl (inforow HL7.out) ?_)
        | (refine wpList_store_mid rfl 67 (.tmp 6) (.tmp 53) rfl w.heap.size 0 (V.map bV).toArray rfl rfl (there_row ht HL7.out) (inforow' HL7.out) (oneRow _) ?_))
      refine ret_cell1 (R := rB64) Try.results33 rfl (row_stored HZ8.out HL7.out) tyrow rfl (fun r hr => ⟨?_, ?_⟩)
      · rw [ret_row hr, HRES.out]
      · refine hbel.trans ((HB8.out.mono hbel.size).trans ((Fr.cellsS _ _ _ (Fr.refl _ _)).below (Nat.le_trans hbel.size HB8.out.size) (fun x e => ?_)))
        exact Nat.le_of_eq e.symm
    · have a2 : ((p : Int) % 2 == 1) = false := by rw [beq_eq_false_iff_ne]; omega
      have HAT : Hid ((d.at k (p / 2)).length = 64) := Lib.hid (Bd.at_len HD.out.ok HK.out (by have := HPK.out; have := HKV.out; omega))
      have HRES : Hid (d.crashRow k p = d.at k (p / 2)) := Lib.hid (by unfold Bd.crashRow; rw [if_neg hp2])
      obtain ⟨X, hX⟩ : ∃ X, d.at k (p / 2) = X := ⟨_, rfl⟩
      rw [hX] at HAT HRES hB5
      have hld := blk_range hB5
      have ht := there_blk64 (hZ6.below hb5 hZ6.lt)
      have HB6 := Lib.hid hb5; have HZ6 := Lib.hid (hZ6.below hb5 hZ6.lt)
      clear hB5 hb5 hX
      go_wp2_with (first
        | (refine wpList_load_mid rfl 67 (.tmp 7) rfl q3 0 rfl (X.map bV) _ hld Try.underlying67 rfl (inforow HAT.out) ?_)
        | (refine wpList_store_mid rfl 67 (.tmp 6) (.tmp 53) rfl w.heap.size 0 (X.map bV).toArray rfl rfl (there_row ht HAT.out) (inforow' HAT.out) (oneRow _) ?_))
      refine ret_cell1 (R := rB64) Try.results33 rfl (row_stored HZ6.out HAT.out) tyrow rfl (fun r hr => ⟨?_, ?_⟩)
      · rw [ret_row hr, HRES.out]
      · refine hbel.trans ((HB6.out.mono hbel.size).trans ((Fr.cellsS _ _ _ (Fr.refl _ _)).below (Nat.le_trans hbel.size HB6.out.size) (fun x e => ?_)))
        exact Nat.le_of_eq e.symm
end Go.Proofs.Ytogjbhkhdccahaa
namespace Go.Proofs.Ytogjbhkhdccahaa
open Go Go.RowKit Go.Maps Go.Sort Go.Shelf
def keysL_ren : Go.Shelf.Ren := ⟨fun | 7 => 32 | 10 => 43 | n => n, fun | 23 => 59 | 26 => 3 | 3 => 58 | 28 => 64 | 0 => 0 | 27 => 63 | 33 => 73 | 4 => 4 | n => n, fun n => n⟩
theorem keysL : SlLaysZI.n7 Try.prog keysL_ren where
  mixed := by kernel_rfl
  f7 := ⟨ "maps.Keys[map[int][]missive/block.row,int,[]missive/block.row]", by decide, Try.func32.trans (congrArg some (by kernel_rfl))⟩
  f10 := ⟨ "maps.Keys[map[int][]missive/block.row,int,[]missive/block.row]$1", by decide, Try.func43.trans (congrArg some (by kernel_rfl))⟩
  t0 := Try.underlying0
  a0 := Try.isAgg0
  z0 := Try.sizeOf0
  v0 := Try.zeroValue0
  t4 := Try.underlying4
  a4 := Try.isAgg4
  z4 := Try.sizeOf4
  v4 := Try.zeroValue4
  t23 := Try.underlying59
  a23 := Try.isAgg59
  z23 := Try.sizeOf59
  v23 := Try.zeroValue59
  t26 := Try.underlying3
  a26 := Try.isAgg3
  z26 := Try.sizeOf3
  v26 := Try.zeroValue3
  t27 := Try.underlying63
  a27 := Try.isAgg63
  z27 := Try.sizeOf63
  v27 := Try.zeroValue63
  t28 := Try.underlying64
  a28 := Try.isAgg64
  z28 := Try.sizeOf64
  v28 := Try.zeroValue64
  t33 := Try.underlying73
  a33 := Try.isAgg73
  z33 := Try.sizeOf73
  v33 := Try.zeroValue73
def sortedL_ren : Go.Shelf.Ren := ⟨fun | 6 => 31 | 8 => 41 | 9 => 42 | 11 => 49 | 13 => 51 | 12 => 50 | 23 => 62 | 24 => 63 | 14 => 53 | 15 => 54 | 16 => 55 | 17 => 56 | 18 => 57 | 19 => 58 | 20 => 59 | 21 => 60 | 22 => 61 | 25 => 64 | 26 => 65 | 27 => 66 | 28 => 67 | 29 => 68 | 30 => 69 | 31 => 70 | n => n, fun | 26 => 3 | 28 => 64 | 24 => 22 | 0 => 0 | 3 => 3 | 37 => 82 | 48 => 93 | 50 => 55 | 4 => 4 | 40 => 86 | 39 => 85 | 45 => 90 | 5 => 5 | 9 => 9 | 51 => 95 | 55 => 99 | 57 => 101 | 58 => 102 | 33 => 73 | n => n, fun n => n⟩
theorem sortedL : SlLaysZI.n6 Try.prog sortedL_ren where
  mixed := by kernel_rfl
  f6 := ⟨ "slices.Sorted[int]", by decide, Try.func31.trans (congrArg some (by kernel_rfl))⟩
  f8 := ⟨ "slices.Collect[int]", by decide, Try.func41.trans (congrArg some (by kernel_rfl))⟩
  f11 := ⟨ "slices.AppendSeq[[]int,int]", by decide, Try.func49.trans (congrArg some (by kernel_rfl))⟩
  t0 := Try.underlying0
  a0 := Try.isAgg0
  z0 := Try.sizeOf0
  v0 := Try.zeroValue0
  t24 := Try.underlying22
  a24 := Try.isAgg22
  z24 := Try.sizeOf22
  v24 := Try.zeroValue22
  t26 := Try.underlying3
  a26 := Try.isAgg3
  z26 := Try.sizeOf3
  v26 := Try.zeroValue3
  t28 := Try.underlying64
  a28 := Try.isAgg64
  z28 := Try.sizeOf64
  v28 := Try.zeroValue64
  i26 := by kernel_rfl
def sortL_ren : Go.Shelf.Ren := ⟨fun | 5 => 42 | 8 => 51 | 7 => 50 | 19 => 62 | 20 => 63 | 10 => 53 | 11 => 54 | 12 => 55 | 13 => 56 | 14 => 57 | 15 => 58 | 16 => 59 | 17 => 60 | 18 => 61 | 30 => 64 | 31 => 65 | 32 => 66 | 33 => 67 | 34 => 68 | 35 => 69 | 40 => 70 | n => n, fun | 23 => 22 | 25 => 3 | 3 => 3 | 32 => 82 | 22 => 22 | 0 => 0 | 44 => 93 | 46 => 55 | 4 => 4 | 36 => 86 | 35 => 85 | 41 => 90 | 5 => 5 | 9 => 9 | 53 => 95 | 57 => 99 | 63 => 101 | 64 => 102 | n => n, fun n => n⟩
theorem sortL : SlLaysM.n5 Try.prog sortL_ren where
  mixed := by kernel_rfl
  f5 := ⟨ "slices.Sort[[]int,int]", by decide, Try.func42.trans (congrArg some (by kernel_rfl))⟩
  f7 := ⟨ "slices.pdqsortOrdered[int]", by decide, Try.func50.trans (congrArg some (by kernel_rfl))⟩
  f8 := Try.func51.trans (congrArg some (by kernel_rfl))
  f10 := ⟨ "slices.insertionSortOrdered[int]", by decide, Try.func53.trans (congrArg some (by kernel_rfl))⟩
  f11 := ⟨ "slices.heapSortOrdered[int]", by decide, Try.func54.trans (congrArg some (by kernel_rfl))⟩
  f12 := ⟨ "slices.breakPatternsOrdered[int]", by decide, Try.func55.trans (congrArg some (by kernel_rfl))⟩
  f13 := ⟨ "slices.choosePivotOrdered[int]", by decide, Try.func56.trans (congrArg some (by kernel_rfl))⟩
  f14 := ⟨ "slices.reverseRangeOrdered[int]", by decide, Try.func57.trans (congrArg some (by kernel_rfl))⟩
  f15 := ⟨ "slices.partialInsertionSortOrdered[int]", by decide, Try.func58.trans (congrArg some (by kernel_rfl))⟩
  f16 := ⟨ "cmp.Less[int]", by decide, Try.func59.trans (congrArg some (by kernel_rfl))⟩
  f17 := ⟨ "slices.partitionEqualOrdered[int]", by decide, Try.func60.trans (congrArg some (by kernel_rfl))⟩
  f18 := ⟨ "slices.partitionOrdered[int]", by decide, Try.func61.trans (congrArg some (by kernel_rfl))⟩
  f19 := Try.func62.trans (congrArg some (by kernel_rfl))
  f20 := Try.func63.trans (congrArg some (by kernel_rfl))
  f30 := ⟨ "slices.siftDownOrdered[int]", by decide, Try.func64.trans (congrArg some (by kernel_rfl))⟩
  f31 := Try.func65.trans (congrArg some (by kernel_rfl))
  f32 := Try.func66.trans (congrArg some (by kernel_rfl))
  f33 := ⟨ "slices.medianAdjacentOrdered[int]", by decide, Try.func67.trans (congrArg some (by kernel_rfl))⟩
  f34 := ⟨ "slices.medianOrdered[int]", by decide, Try.func68.trans (congrArg some (by kernel_rfl))⟩
  f35 := ⟨ "cmp.isNaN[int]", by decide, Try.func69.trans (congrArg some (by kernel_rfl))⟩
  f40 := ⟨ "slices.order2Ordered[int]", by decide, Try.func70.trans (congrArg some (by kernel_rfl))⟩
  t0 := Try.underlying0
  a0 := Try.isAgg0
  z0 := Try.sizeOf0
  v0 := Try.zeroValue0
  t3 := Try.underlying3
  a3 := Try.isAgg3
  z3 := Try.sizeOf3
  v3 := Try.zeroValue3
  t4 := Try.underlying4
  a4 := Try.isAgg4
  z4 := Try.sizeOf4
  v4 := Try.zeroValue4
  t5 := Try.underlying5
  a5 := Try.isAgg5
  z5 := Try.sizeOf5
  v5 := Try.zeroValue5
  t9 := Try.underlying9
  a9 := Try.isAgg9
  z9 := Try.sizeOf9
  v9 := Try.zeroValue9
  t22 := Try.underlying22
  a22 := Try.isAgg22
  z22 := Try.sizeOf22
  v22 := Try.zeroValue22
  t23 := Try.underlying22
  a23 := Try.isAgg22
  z23 := Try.sizeOf22
  v23 := Try.zeroValue22
  t25 := Try.underlying3
  a25 := Try.isAgg3
  z25 := Try.sizeOf3
  v25 := Try.zeroValue3
  t32 := Try.underlying82
  a32 := Try.isAgg82
  z32 := Try.sizeOf82
  v32 := Try.zeroValue82
  t35 := Try.underlying85
  a35 := Try.isAgg85
  z35 := Try.sizeOf85
  v35 := Try.zeroValue85
  t36 := Try.underlying86
  a36 := Try.isAgg86
  z36 := Try.sizeOf86
  v36 := Try.zeroValue86
  t41 := Try.underlying90
  a41 := Try.isAgg90
  z41 := Try.sizeOf90
  v41 := Try.zeroValue90
  t44 := Try.underlying93
  a44 := Try.isAgg93
  z44 := Try.sizeOf93
  v44 := Try.zeroValue93
  t46 := Try.underlying55
  a46 := Try.isAgg55
  z46 := Try.sizeOf55
  v46 := Try.zeroValue55
  t53 := Try.underlying95
  a53 := Try.isAgg95
  z53 := Try.sizeOf95
  v53 := Try.zeroValue95
  t57 := Try.underlying99
  a57 := Try.isAgg99
  z57 := Try.sizeOf99
  v57 := Try.zeroValue99
  t63 := Try.underlying101
  a63 := Try.isAgg101
  z63 := Try.sizeOf101
  v63 := Try.zeroValue101
  t64 := Try.underlying102
  a64 := Try.isAgg102
  z64 := Try.sizeOf102
  v64 := Try.zeroValue102
theorem sortsL (m : Nat) : AnyZI.SortsIn Try.prog sortedL_ren Fence.wide m :=
  ⟨fun blk off cap ss W hH hblk hsz => callsIn_wide.2 (AnyM.slices_Sort_int sortL blk off cap ss W hH hblk hsz),
   fun p cap W => callsIn_wide.2 (AnyM.slices_Sort_int_none sortL p cap W)⟩
theorem bKeys_any (mb : Option Nat) (W : World) : Calls Try.prog 32 #[.map mb] W fun e w' => e = .returned (.func (.func 43) #[] #[.pointer (some ⟨W.heap.size, 0, none⟩)]) ∧ w' = W.alloc (.cells #[.map mb] 59) :=
  (callsIn_wide (n := 5)).1 (AnyZI.keys_in keysL Fence.wide 5 trivial rfl mb W)
/-- The keys that have writes. -/
def Bd.keys (d : Bd) : List Nat := (List.range d.good.length).filter fun k => !(d.pend k).isEmpty
theorem before_filter (d : Bd) (k : Nat) : ((List.range k).filter fun k => !(d.pend k).isEmpty).length = d.before k := by
  induction k with
  | zero => rfl
  | succ k ih =>
    rw [List.range_succ, List.filter_append, List.length_append, ih, Bd.before]
    by_cases h : d.pend k = []
    · simp [h]
    · have : (d.pend k).isEmpty = false := by simpa using h
      simp [h, this]
theorem keys_at (d : Bd) (n : Nat) : ∀ i k, ((List.range n).filter fun k => !(d.pend k).isEmpty)[i]? = some k → k < n ∧ d.pend k ≠ [] ∧ d.before k = i := by
  induction n with
  | zero => intro i k h; simp at h
  | succ n ih =>
    intro i k h
    rw [List.range_succ, List.filter_append] at h
    rcases Nat.lt_or_ge i ((List.range n).filter fun k => !(d.pend k).isEmpty).length with hi | hi
    · rw [List.getElem?_append_left hi] at h
      obtain ⟨h1, h2, h3⟩ := ih i k h
      exact ⟨by omega, h2, h3⟩
    · rw [List.getElem?_append_right hi] at h
      by_cases hp : d.pend n = []
      · simp [hp] at h
      · have : (d.pend n).isEmpty = false := by simpa using hp
        simp only [List.filter_cons, this, Bool.not_false, if_true, List.filter_nil] at h
        have hi2 : i - ((List.range n).filter fun k => !(d.pend k).isEmpty).length = 0 := by
          have := (List.getElem?_eq_some_iff.1 h).1
          simp at this
          omega
        rw [hi2] at h
        simp at h
        subst h
        exact ⟨by omega, hp, by rw [before_filter] at hi hi2; omega⟩
theorem Bd.keys_get {d : Bd} {i k : Nat} (h : d.keys[i]? = some k) : k < d.good.length ∧ d.pend k ≠ [] ∧ d.before k = i := keys_at d _ i k h
theorem Bd.keys_len (d : Bd) : d.keys.length = d.before d.good.length := before_filter d _
theorem Bd.before_mono (d : Bd) {j k : Nat} (h : j ≤ k) : d.before j ≤ d.before k := by
  induction k with
  | zero => obtain rfl : j = 0 := by omega
            exact Nat.le_refl _
  | succ k ih =>
    rcases Nat.lt_or_ge j (k + 1) with h1 | h1
    · exact Nat.le_trans (ih (by omega)) (by rw [Bd.before]; omega)
    · obtain rfl : j = k + 1 := by omega
      exact Nat.le_refl _
theorem Bd.before_lt {d : Bd} {j k : Nat} (h : j < k) (hp : d.pend j ≠ []) : d.before j < d.before k := by
  have := d.before_mono (show j + 1 ≤ k by omega)
  rw [Bd.before, if_neg hp] at this
  omega
theorem Bd.before_inj {d : Bd} {j k : Nat} (hj : d.pend j ≠ []) (hk : d.pend k ≠ []) (h : d.before j = d.before k) : j = k := by
  rcases Nat.lt_trichotomy j k with h1 | h1 | h1
  · have := Bd.before_lt h1 hj; omega
  · exact h1
  · have := Bd.before_lt h1 hk; omega
/-- The blocks in the midst of a crash: those of the first i keys are as it leaves them. -/
def Bd.cI (d : Bd) (picks : List Int) (i : Nat) : List (List UInt8) := (List.range d.good.length).map fun k => if d.before k < i then d.crashAt picks k else d.good.getD k []
theorem Bd.cI_len (d : Bd) (picks : List Int) (i : Nat) : (d.cI picks i).length = d.good.length := by simp [Bd.cI]
theorem Bd.cI_get {d : Bd} {picks : List Int} {i k : Nat} (h : k < d.good.length) : (d.cI picks i)[k]? = some (if d.before k < i then d.crashAt picks k else d.good.getD k []) := by
  unfold Bd.cI; rw [List.getElem?_map, List.getElem?_range h]; rfl
theorem Bd.cI_zero (d : Bd) (picks : List Int) : d.cI picks 0 = d.good := by
  apply List.ext_getElem?
  intro k
  rcases Nat.lt_or_ge k d.good.length with hk | hk
  · rw [Bd.cI_get hk, if_neg (by omega), List.getD_eq_getElem?_getD, List.getElem?_eq_getElem hk]; rfl
  · rw [List.getElem?_eq_none (by rw [Bd.cI_len]; exact hk), List.getElem?_eq_none hk]
theorem Bd.cI_step {d : Bd} {picks : List Int} {k : Nat} (hk : k < d.good.length) (hp : d.pend k ≠ []) : d.cI picks (d.before k + 1) = (d.cI picks (d.before k)).set k (d.crashAt picks k) := by
  apply List.ext_getElem?
  intro j
  rcases Nat.lt_or_ge j d.good.length with hj | hj
  · rw [Bd.cI_get hj, List.getElem?_set]
    by_cases e : k = j
    · subst e
      rw [if_pos (by omega), if_pos rfl, if_pos (by rw [Bd.cI_len]; exact hk)]
    · rw [if_neg e, Bd.cI_get hj]
      by_cases hpj : d.pend j = []
      · have : d.crashAt picks j = d.good.getD j [] := by unfold Bd.crashAt; rw [if_pos (.inl hpj)]
        rw [this]; simp
      · have : d.before j ≠ d.before k := fun h => e (Bd.before_inj hpj hp h).symm
        by_cases h1 : d.before j < d.before k
        · rw [if_pos (by omega), if_pos h1]
        · rw [if_neg (by omega), if_neg h1]
  · rw [List.getElem?_eq_none (by rw [Bd.cI_len]; exact hj), List.getElem?_eq_none (by rw [List.length_set, Bd.cI_len]; exact hj)]
theorem Bd.cI_end (d : Bd) (picks : List Int) : d.cI picks d.keys.length = (d.crash picks).good := by
  unfold Bd.crash Bd.cI
  apply List.map_congr_left
  intro k hk
  rw [List.mem_range] at hk
  by_cases hp : d.pend k = []
  · have : d.crashAt picks k = d.good.getD k [] := by unfold Bd.crashAt; rw [if_pos (.inl hp)]
    rw [this]; simp
  · rw [if_pos (by rw [Bd.keys_len]; exact Bd.before_lt hk hp)]
theorem Bd.cI_rows {d : Bd} (h : d.Ok) (picks : List Int) (i : Nat) : ∀ r ∈ d.cI picks i, r.length = 64 := by
  intro r hr
  unfold Bd.cI at hr
  simp only [List.mem_map, List.mem_range] at hr
  obtain ⟨k, hk, rfl⟩ := hr
  split
  · exact (Bd.crash_ok h picks).rows _ (by unfold Bd.crash; simp only [List.mem_map, List.mem_range]; exact ⟨k, hk, rfl⟩)
  · rw [List.getD_eq_getElem?_getD, List.getElem?_eq_getElem hk]; exact h.rows _ (List.getElem_mem hk)
/-- The keys, sorted, are these. -/
theorem keys_sorted {w : World} {mb m : Nat} {d : Bd} {D : DataW Value} {G : Nat → Prop} {ss : List Int} (hok : d.Ok) (ho : w.ownsMap Try.prog 3 hR mb m D) (hp : PendR w d.pend D G) (hs : ss.Perm (intKeys D)) :
    (ss.mergeSort (fun x y => decide (x ≤ y))) = d.keys.map fun k : Nat => (k : Int) := by
  obtain ⟨es, hD, hpw, hkl⟩ := ho.entries intK
  obtain ⟨es', hD', hko⟩ := ho.keysOf
  have e : es = es' := by rw [hD] at hD'; simpa using hD'
  subst e
  subst hD
  have hkeys : ∀ p ∈ es, ∃ x, p.1 = Lit.int .i64 x := fun p hp' => by
    obtain ⟨v, hv⟩ := hko p hp'
    obtain ⟨x, _, hx, _⟩ := Maps.keyOf_i64 Try.underlying3 hv
    exact ⟨x, hx⟩
  have hnd : (d.keys.map fun k : Nat => (k : Int)).Nodup := by
    refine List.pairwise_map.2 ?_
    exact (List.Pairwise.filter _ List.nodup_range).imp fun hne e => hne (by omega)
  have hperm : (d.keys.map fun k : Nat => (k : Int)).Perm (intKeys (.map es)) := by
    refine perm_intKeys hpw hkeys hnd fun x => ?_
    constructor
    · intro hx
      rw [List.mem_map] at hx
      obtain ⟨k, hk, rfl⟩ := hx
      unfold Bd.keys at hk
      rw [List.mem_filter] at hk
      exact hp.yes k (by simpa using hk.2)
    · intro hx
      obtain ⟨k, hk⟩ := hp.keys _ hx
      cases hk
      have hne : d.pend k ≠ [] := fun e => by have := hp.no k e; rw [hx] at this; cases this
      have hlt : k < d.good.length := by
        rcases Nat.lt_or_ge k d.good.length with h | h
        · exact h
        · exact absurd (hok.few k h) hne
      refine List.mem_map.2 ⟨k, ?_, rfl⟩
      unfold Bd.keys
      rw [List.mem_filter, List.mem_range]
      exact ⟨hlt, by simpa using hne⟩
  have h1 := mergeSort_of_perm_i (hs.trans hperm.symm)
  show ss.mergeSort leI = _
  rw [h1]
  refine List.mergeSort_of_pairwise (List.pairwise_map.2 ?_)
  refine (List.Pairwise.filter _ (List.pairwise_lt_range (n := d.good.length))).imp fun h => ?_
  simp only [leI, decide_eq_true_eq]; omega
theorem bSorted_any {w : World} {mb m : Nat} {d : Bd} {D : DataW Value} {G : Nat → Prop} (hok : d.Ok) (ho : w.ownsMap Try.prog 3 hR mb m D) (hp : PendR w d.pend D G) (hm : m ≤ 1000000) :
    Calls Try.prog 31 #[.func (.func 43) #[] #[.pointer (some ⟨w.heap.size, 0, none⟩)]] (w.alloc (.cells #[.map (some mb)] 59)) fun e w' => ∃ v, e = .returned v ∧
      w'.ownsRow (w.heap.size + 1) 3 1 v d.keys.length (d.keys.map fun k : Nat => Value.int .i64 (k : Int)) ∧ Below w.heap.size w w' := by
  have hlt := ho.lt
  have hsz := ho.size_le
  have hseq : SeqGives Fence.wide 2 Try.prog 43 #[.pointer (some ⟨w.heap.size, 0, none⟩)] encZ (fun ss => ss.Perm (intKeys D)) (Maps.size D) (w.alloc (.cells #[.map (some mb)] 59)) :=
    AnyZI.keys_gives (ρ := keysL_ren) { keysL with } Fence.wide _ trivial rfl (by omega) w.heap.size mb m D _ (by simp) (by simp) (ho.alloc _)
  have cS := AnyZI.sorted_in sortedL Fence.wide 5 trivial trivial trivial trivial rfl (by omega) (sortsL _) (enters_of Try.func42 (by kernel_rfl) rfl) 43 #[.pointer (some ⟨w.heap.size, 0, none⟩)] trivial (enters_of Try.func43 (by kernel_rfl) rfl) _ _ (by unfold maxLen; omega) (by omega) _ hseq
  refine ((callsIn_wide (n := 5)).1 cS).mono ?_
  rintro e w' ⟨v, ss, rfl, hS, hrow, _, hb⟩
  have hk := keys_sorted hok ho hp hS
  have hl : ss.length = d.keys.length := by
    have := congrArg List.length hk
    rwa [List.length_mergeSort, List.length_map] at this
  rw [hk, hl, List.map_map] at hrow
  have e1 : (w.alloc (.cells #[.map (some mb)] 59)).heap.size = w.heap.size + 1 := by simp
  rw [e1] at hrow
  refine ⟨v, rfl, hrow, ((Below.refl _ _).alloc (Nat.le_refl _) _).trans (hb.mono (by simp))⟩
end Go.Proofs.Ytogjbhkhdccahaa
