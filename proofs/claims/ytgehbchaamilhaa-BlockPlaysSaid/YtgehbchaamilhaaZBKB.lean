/- What BK rests on, part 2 of 3: my own texts, put together (merge.py). -/
import Derived.WalkKit
import Derived.ProofKit
import Derived.Lib.Hide
import Derived.OpenShut
import Derived.Test.YtgehbchaamilhaaRows
import Derived.WalkSpells
import Derived.StillTactics
import Derived.Laws.Pointers
import Derived.Laws.CopyOwn
import Derived.Laws.AppendOwnNone
import Derived.Deep.RegionHeld3
import Derived.RowKit3
import Derived.BigQuiet
import Derived.Deep.QuietTactic
import Derived.Deep.LoopGhost
import Derived.Deep.DeepFit
import Derived.WalkLawsBesides
import Derived.Shelf.Spec.BitsCarry
import Derived.Deep.MidRow
import Derived.Deep.WholeRow
import Derived.Laws.Rows
import Derived.Deep.DeepCutAuto
import Derived.Maps.RangeWalk
import Derived.Laws.MakeOwn
import Derived.Laws.IdiomStrings
import Derived.Maps.AppendAt
import Derived.Laws.CopyRow
import Derived.Laws.IdiomCopy
import Derived.Shelf.SlIterI.Nil
import Derived.Shelf.SlIterI.Sorted
import Derived.Shelf.SortM.Plain
import Derived.Shelf.SortM.SortNone
import Derived.Laws.AppendOwn
import Derived.Lib.BufferMore
import Derived.Laws.OwnMore
import Derived.Deep.Slices
import Derived.Deep.Fields
import Derived.ChangeSame
import Derived.ShutString
import Derived.ChangeOld
import Derived.Test.YtgehbchaamilhaaZBKA
namespace Go.Proofs.Ytgehbchaamilhaa
open Go Go.RowKit
/-- A slice type and its element. -/
structure ElT (tS E sz bytes : Nat) (z : Value) : Prop where
  und : Try.prog.underlying tS = some (.slice E)
  info : ∃ i, Try.prog.info? E = some i ∧ i.zero = some z ∧ i.size = sz ∧ i.bytes = bytes
  zs : z.cells.size = sz
  pos : 0 < sz
theorem elT_info {E sz b : Nat} {z : Value} (h : (Try.prog.info? E).map (fun i => (i.zero, i.size, i.bytes)) = some (some z, sz, b)) : ∃ i, Try.prog.info? E = some i ∧ i.zero = some z ∧ i.size = sz ∧ i.bytes = b := by
  obtain ⟨i, hi, e⟩ := Option.map_eq_some_iff.1 h
  simp only [Prod.mk.injEq] at e
  exact ⟨i, hi, e.1, e.2.1, e.2.2⟩
theorem elB : ElT 26 5 1 1 (.int .u8 0) := ⟨Try.underlying26, elT_info (by kernel_rfl), rfl, by omega⟩
theorem elR : ElT 30 26 1 24 (.slice none 0 0) := ⟨Try.underlying30, elT_info (by kernel_rfl), rfl, by omega⟩
theorem elR3 : ElT 44 30 1 24 (.slice none 0 0) := ⟨Try.underlying44, elT_info (by kernel_rfl), rfl, by omega⟩
section
variable {tS E sz bytes : Nat} {z : Value} {ev : Operand → Value} {o : Oper} {w : World}
theorem run_new0 (h : ElT tS E sz bytes z) (ho : o.op = .buildSlice tS 0 #[]) : (execOp ev o).run Try.prog w = .ok (.value (.slice (some ⟨w.heap.size, 0, none⟩) 0 0)) (w.alloc (.cells #[] E)) := by
  obtain ⟨i, hi, hz, hs, hb⟩ := h.info
  have e : (Instr.buildSlice tS 0 #[]).run Try.prog w = .ok (.slice (some ⟨w.heap.size, 0, none⟩) 0 0) (w.alloc (.cells #[] E)) := by
    simp [Instr.buildSlice, Sem.run_bind, run_underlying h.und, sizeOf, typeInfo, zeroValue, hi, hs, hz, newRow, Instr.fill]
    congr 2
    exact Array.eq_empty_of_size_eq_zero (by simp)
  unfold execOp
  simp [ho, e]
theorem new1_instr (h : ElT tS E 1 bytes z) {v : Value} (hc : v.cells = #[v]) : (Instr.buildSlice tS 1 #[(0, v)]).run Try.prog w = .ok (.slice (some ⟨w.heap.size, 0, none⟩) 1 1) (w.alloc (.cells #[v] E)) := by
  obtain ⟨i, hi, hz, hs, hb⟩ := h.info
  have hzs := h.zs
  simp [Instr.buildSlice, Sem.run_bind, run_underlying h.und, sizeOf, typeInfo, zeroValue, hi, hs, hz, newRow, Instr.fill, hc]
  congr 2
  apply Array.ext
  · simp
  · intro k h1 h2
    simp at h2
    subst h2
    simp
theorem run_new1 (h : ElT tS E 1 bytes z) {y : Operand} {v : Value} (ho : o.op = .buildSlice tS 1 #[(0, y)]) (hy : ev y = v) (_h1 : v.oneCell' = true) (hc : v.cells = #[v]) : (execOp ev o).run Try.prog w = .ok (.value (.slice (some ⟨w.heap.size, 0, none⟩) 1 1)) (w.alloc (.cells #[v] E)) := by
  have e := new1_instr (w := w) h hc
  unfold execOp
  simp [ho, hy, e]
theorem own_ptr {n : Nat} {v : Value} {xs : List Value} (h : w.ownsRow 0 E sz v n xs) : ∀ x, v.ownBlock = some x → x < w.heap.size := by
  intro x hx
  rcases h.2 with ⟨rfl, _⟩ | ⟨g, cap, cur, rfl, _, hg, _⟩
  · cases hx
  · cases hx; exact (Array.getElem?_eq_some_iff.1 hg).1
theorem own_frame {F : Nat → Prop} {w' : World} {n : Nat} {v : Value} {xs : List Value} (h : w.ownsRow 0 E sz v n xs) (hf : Fr F w w') (hF : ∀ x, v.ownBlock = some x → ¬ F x) : w'.ownsRow 0 E sz v n xs := by
  refine ⟨h.1, ?_⟩
  rcases h.2 with h2 | ⟨g, c, cur, rfl, hg0, hh, r⟩
  · exact .inl h2
  · exact .inr ⟨g, c, cur, rfl, hg0, (hf.block g (Array.getElem?_eq_some_iff.1 hh).1 (hF g rfl)).trans hh, r⟩
/-- 'append(x, y...)': x is the statement's own, y anything. -/
theorem run_app (h : ElT tS E sz bytes z) {v : Value} {n m c : Nat} {a : Option Addr} {xs news : List Value} (hown : w.ownsRow 0 E sz v n xs)
    (hl : news.length = m * sz) (hnil : a = none → m = 0 ∧ c = 0) (hnews : ∀ (j : Nat) (u : Value), news[j]? = some u → ∃ ad, a = some ad ∧ w.cell? (ad.add j) = some u) (h1 : ∀ u ∈ news, u.oneCell' = true) (h63 : n + m ≤ maxLen) (hb : (n + m) * bytes ≤ 140737488355328) :
    ∃ v' w', (∀ (ev : Operand → Value) (o : Oper) (x y : Operand), o.op = .call { callee := .builtin .append, args := #[x, y], argTypes := #[tS, tS] } → o.type = tS → ev x = v → ev y = .slice a m c → (execOp ev o).run Try.prog w = .ok (.value v') w') ∧
      w'.ownsRow 0 E sz v' (n + m) (xs ++ news) ∧ Fr (fun x => v.ownBlock = some x) w w' ∧ ∀ x, v'.ownBlock = some x → (v.ownBlock = some x ∨ x = w.heap.size) ∧ x < w'.heap.size := by
  obtain ⟨i, hi, hz, hs, hby⟩ := h.info
  have key : ∀ v' w', (Builtin.append_ #[tS, tS] tS #[v, .slice a m c]).run Try.prog w = .ok v' w' → ∀ (ev : Operand → Value) (o : Oper) (x y : Operand), o.op = .call { callee := .builtin .append, args := #[x, y], argTypes := #[tS, tS] } → o.type = tS → ev x = v → ev y = .slice a m c → (execOp ev o).run Try.prog w = .ok (.value v') w' := fun v' w' hr ev o x y ho ht hx hy => by
    unfold execOp
    simp only [ho, ht, resolve, invoke, builtin, Sem.run_bind, Sem.run_pure, Result.andThen_ok, List.map_toArray, List.map_cons, List.map_nil, hx, hy, hr]
  cases a with
  | none =>
    obtain ⟨rfl, rfl⟩ := hnil rfl
    have hn0 : news = [] := List.eq_nil_of_length_eq_zero (by simpa using hl)
    subst hn0
    have hrun := run_append_owned_none (P := Try.prog) (w := w) 0 tS tS E i sz h.und hi v n xs hown
    exact ⟨v, w, key _ _ hrun, by simpa using hown, Fr.refl _ _, fun x hx => ⟨.inl hx, own_ptr hown x hx⟩⟩
  | some ad =>
    obtain ⟨v', w', hr, ho', hg, _, hloc⟩ := run_append_own_at (P := Try.prog) w 0 tS tS E i z sz bytes h.und hi hz hs hby h.zs h.pos v n xs hown ad m c news hl (fun j u hu => by obtain ⟨ad', e, hc⟩ := hnews j u hu; cases e; exact hc) h1 h63 hb (Nat.zero_le _)
    refine ⟨v', w', key _ _ hr, ho', (Fr.refl _ _).grown hg (fun k hk => .inl hk), fun x hx => ⟨?_, own_ptr ho' x hx⟩⟩
    rcases hloc with e | e
    · exact .inl (e ▸ hx)
    · rw [e] at hx; cases hx; exact .inr rfl
end
section
variable {Z : Nat → Prop}
/-- A slice of the statement's own, of these cells. -/
def owF (E sz n : Nat) (xs : List Value) : FP Z := ⟨none, fun S v w => w.ownsRow 0 E sz v n xs ∧ ∀ x, v.ownBlock = some x → S x, fun _ _ _ _ h hf => ⟨own_frame h.1 hf (fun x hx hn => hn.2 (h.2 x hx)), h.2⟩⟩
/-- A slice that reads as these bytes: its own, or of no block of the zone. -/
def RdZ (Z S : Nat → Prop) (v : Value) (w : World) (l : List UInt8) : Prop := ∃ a n c, v = .slice a n c ∧ RdB w a n c l ∧ ∀ p, a = some p → S p.block ∨ ¬ Z p.block
theorem RdZ.frame {F S : Nat → Prop} {v : Value} {w w' : World} {l : List UInt8} (h : RdZ Z S v w l) (hf : Fr F w w') (hF : ∀ x, F x → Z x ∧ ¬ S x) : RdZ Z S v w' l := by
  obtain ⟨a, n, c, e, hr, hs⟩ := h
  refine ⟨a, n, c, e, hf.rd hr (fun p hp hx => ?_), hs⟩
  obtain ⟨h1, h2⟩ := hF _ hx
  rcases hs p hp with h | h
  · exact h2 h
  · exact h h1
end
/-- The bytes' cells. -/
theorem own_rd {w : World} {v : Value} {l : List UInt8} (h : w.ownsRow 0 5 1 v l.length (l.map bV)) : ∃ a c, v = .slice a l.length c ∧ RdB w a l.length c l ∧ ∀ p, a = some p → v.ownBlock = some p.block := by
  rcases h.2 with ⟨rfl, hn⟩ | ⟨g, cap, cur, rfl, _, hg, h1, h2, h3, h4⟩
  · have : l = [] := List.eq_nil_of_length_eq_zero hn
    subst this
    exact ⟨none, 0, rfl, RdB.nil _, fun p e => by cases e⟩
  · refine ⟨some ⟨g, 0, none⟩, cap, rfl, ⟨rfl, h1, h2, fun i hi => ⟨g, 0, rfl, ?_⟩, fun e => by cases e⟩, fun p e => by cases e; rfl⟩
    rw [Nat.mul_one] at h4
    have h5 : (cur.toList.take l.length)[i]? = some (bV l[i]) := by rw [h4]; simp [hi]
    rw [List.getElem?_take_of_lt hi, Array.getElem?_toList] at h5
    simp [World.cell?, hg, h5]
end Go.Proofs.Ytgehbchaamilhaa
namespace Go.Proofs.Ytgehbchaamilhaa
open Go Go.RowKit Go.Maps
/-- A value reads as these bytes, in blocks of S. -/
def RdS (S : Nat → Prop) (w : World) (v : Value) (l : List UInt8) : Prop := ∃ a n c, v = .slice a n c ∧ RdB w a n c l ∧ ∀ p, a = some p → S p.block
/-- A value reads as these rows, in blocks of S. -/
def RowsS (S : Nat → Prop) (w : World) (v : Value) (ls : List (List UInt8)) : Prop := ∃ a c, v = .slice a ls.length c ∧ (a = none → ls.length = 0 ∧ c = 0) ∧ ls.length ≤ c ∧ c ≤ maxLen ∧ ∃ ys : List Value, ys.length = ls.length ∧
  (∀ (i : Nat) (y : Value), ys[i]? = some y → ∃ b q, a = some ⟨b, q, none⟩ ∧ S b ∧ w.cell? ⟨b, q + i, none⟩ = some y) ∧ ∀ (i : Nat) (y : Value) (l : List UInt8), ys[i]? = some y → ls[i]? = some l → RdS S w y l
theorem RdS.frame {S F : Nat → Prop} {w w' : World} {v : Value} {l : List UInt8} (h : RdS S w v l) (hf : Fr F w w') (hF : ∀ x, S x → ¬ F x) : RdS S w' v l := by
  obtain ⟨a, n, c, e, hr, hs⟩ := h
  exact ⟨a, n, c, e, hf.rd hr (fun p hp => hF _ (hs p hp)), hs⟩
theorem RdS.mono {S S' : Nat → Prop} {w : World} {v : Value} {l : List UInt8} (h : RdS S w v l) (hS : ∀ x, S x → S' x) : RdS S' w v l := by
  obtain ⟨a, n, c, e, hr, hs⟩ := h
  exact ⟨a, n, c, e, hr, fun p hp => hS _ (hs p hp)⟩
theorem RowsS.frame {S F : Nat → Prop} {w w' : World} {v : Value} {ls : List (List UInt8)} (h : RowsS S w v ls) (hf : Fr F w w') (hF : ∀ x, S x → ¬ F x) : RowsS S w' v ls := by
  obtain ⟨a, c, e, h0, h1, h2, ys, h3, h4, h5⟩ := h
  refine ⟨a, c, e, h0, h1, h2, ys, h3, fun i y hy => ?_, fun i y l hy hl => (h5 i y l hy hl).frame hf hF⟩
  obtain ⟨b, q, e, hb, hc⟩ := h4 i y hy
  exact ⟨b, q, e, hb, (hf.cell (p := ⟨b, q + i, none⟩) (cell_lt hc) (hF _ hb)).trans hc⟩
theorem RowsS.mono {S S' : Nat → Prop} {w : World} {v : Value} {ls : List (List UInt8)} (h : RowsS S w v ls) (hS : ∀ x, S x → S' x) : RowsS S' w v ls := by
  obtain ⟨a, c, e, h0, h1, h2, ys, h3, h4, h5⟩ := h
  exact ⟨a, c, e, h0, h1, h2, ys, h3, fun i y hy => (by obtain ⟨b, q, e, hb, hc⟩ := h4 i y hy; exact ⟨b, q, e, hS _ hb, hc⟩), fun i y l hy hl => (h5 i y l hy hl).mono hS⟩
theorem RowsS.nil (S : Nat → Prop) (w : World) : RowsS S w (.slice none 0 0) [] := ⟨none, 0, rfl, fun _ => ⟨rfl, rfl⟩, Nat.le_refl _, by unfold maxLen; omega, [], rfl, fun i y h => by simp at h, fun i y l h => by simp at h⟩
def mdS (gg cg gw cw : Nat) (d : Bd) (l : Int) : List Value := [.slice (some ⟨gg, 0, none⟩) d.good.length cg, .slice (some ⟨gw, 0, none⟩) d.good.length cw, .int .i64 (d.ops : Nat), .bool d.cut, .int .i64 l, .bool d.off]
structure MdRest (w : World) (g gg cg gw cw : Nat) (good : List (List UInt8)) (pend : Nat → List (List UInt8)) (F S : Nat → Prop) : Prop where
  ex : ∃ gv rg wv rw, Blk w gg (gv ++ rg) 26 ∧ gv.length = good.length ∧ (∀ (k : Nat) (v : Value) (r : List UInt8), gv[k]? = some v → good[k]? = some r → RdS S w v r) ∧
    Blk w gw (wv ++ rw) 30 ∧ wv.length = good.length ∧ (∀ (k : Nat) (v : Value), wv[k]? = some v → RowsS S w v (pend k)) ∧
    good.length ≤ cg ∧ cg ≤ maxLen ∧ good.length ≤ cw ∧ cw ≤ maxLen ∧ g ≠ gg ∧ g ≠ gw ∧ gg ≠ gw ∧ (∀ x, F x ↔ x = g ∨ x = gg ∨ x = gw) ∧ (∀ x, S x → ¬ F x) ∧ ∀ x, S x → x < w.heap.size
/-- The document's device at block g is d; F: the blocks that it turns; S: those that it reads alone. -/
structure Md (w : World) (g : Nat) (d : Bd) (F S : Nat → Prop) : Prop where
  ok : d.Ok
  ex : ∃ gg cg gw cw l, Blk w g (mdS gg cg gw cw d l) 46 ∧ max l 0 = d.left ∧ -9223372036854775808 ≤ l ∧ MdRest w g gg cg gw cw d.good d.pend F S
theorem MdRest.frame {w w' : World} {g gg cg gw cw : Nat} {good : List (List UInt8)} {pend : Nat → List (List UInt8)} {F S F' : Nat → Prop} (h : MdRest w g gg cg gw cw good pend F S) (hf : Fr F' w w') (hF : ∀ x, F x → x ≠ g → ¬ F' x) (hS : ∀ x, S x → ¬ F' x) : MdRest w' g gg cg gw cw good pend F S := by
  obtain ⟨gv, rg, wv, rw, h1, h2, h3, h4, h5, h6, h7, h8, h9, h10, n1, n2, n3, hx, hd, hl⟩ := h.ex
  exact ⟨gv, rg, wv, rw, hf.blk h1 (hF gg ((hx gg).2 (.inr (.inl rfl))) (Ne.symm n1)), h2, fun k v r a b => (h3 k v r a b).frame hf hS, hf.blk h4 (hF gw ((hx gw).2 (.inr (.inr rfl))) (Ne.symm n2)), h5, fun k v a => (h6 k v a).frame hf hS, h7, h8, h9, h10, n1, n2, n3, hx, hd, fun x hx => Nat.lt_of_lt_of_le (hl x hx) hf.size⟩
theorem MdRest.own {w : World} {g gg cg gw cw : Nat} {good : List (List UInt8)} {pend : Nat → List (List UInt8)} {F S : Nat → Prop} (h : MdRest w g gg cg gw cw good pend F S) : F g ∧ ∀ x, S x → ¬ F x := by
  obtain ⟨gv, rg, wv, rw, h1, h2, h3, h4, h5, h6, h7, h8, h9, h10, n1, n2, n3, hx, hd, hl⟩ := h.ex
  exact ⟨(hx g).2 (.inl rfl), hd⟩
theorem Md.frame {w w' : World} {g : Nat} {d : Bd} {F S F' : Nat → Prop} (h : Md w g d F S) (hf : Fr F' w w') (hF : ∀ x, F x → ¬ F' x) (hS : ∀ x, S x → ¬ F' x) : Md w' g d F S := by
  obtain ⟨gg, cg, gw, cw, l, h1, h2, h3, hR⟩ := h.ex
  exact ⟨h.ok, gg, cg, gw, cw, l, hf.blk h1 (hF g hR.own.1), h2, h3, hR.frame hf (fun x hx _ => hF x hx) hS⟩
theorem Md.later {w w' : World} {g : Nat} {d : Bd} {F S : Nat → Prop} (h : Md w g d F S) (hb : Below w.heap.size w w') : Md w' g d F S := h.frame (F' := fun _ => False) (.of_below hb) (fun _ _ h => h) (fun _ _ h => h)
theorem Md.lt {w : World} {g : Nat} {d : Bd} {F S : Nat → Prop} (h : Md w g d F S) : (∀ x, F x → x < w.heap.size) ∧ (∀ x, S x → x < w.heap.size) ∧ (∀ x, S x → ¬ F x) := by
  obtain ⟨gg, cg, gw, cw, l, h1, _, _, hR⟩ := h.ex
  obtain ⟨gv, rg, wv, rw, h3, h2, _, h4, h5, h6, h7, h8, h9, h10, n1, n2, n3, hx, hd, hl⟩ := hR.ex
  refine ⟨fun x hF => ?_, hl, hd⟩
  rcases (hx x).1 hF with rfl | rfl | rfl
  · exact h1.lt
  · exact h3.lt
  · exact h4.lt
/-- More may be read. -/
theorem Md.more {w : World} {g : Nat} {d : Bd} {F S S' : Nat → Prop} (h : Md w g d F S) (hS : ∀ x, S x → S' x) (hF : ∀ x, S' x → ¬ F x) (hl : ∀ x, S' x → x < w.heap.size) : Md w g d F S' := by
  obtain ⟨gg, cg, gw, cw, l, h1, h2, h3, hR⟩ := h.ex
  obtain ⟨gv, rg, wv, rw, a1, a2, a3, a4, a5, a6, a7, a8, a9, a10, n1, n2, n3, hx, hd, _⟩ := hR.ex
  exact ⟨h.ok, gg, cg, gw, cw, l, h1, h2, h3, gv, rg, wv, rw, a1, a2, fun k v r a b => (a3 k v r a b).mono hS, a4, a5, fun k v a => (a6 k v a).mono hS, a7, a8, a9, a10, n1, n2, n3, hx, hF, hl⟩
set_option maxRecDepth 100000 in
set_option maxHeartbeats 1000000 in
theorem dOp_any {w : World} {g : Nat} {d : Bd} {F S : Nat → Prop} (h : Md w g d F S) (ho : d.ops < 1000000) (hl2 : d.left ≤ 9223372036854775807) : Calls Try.prog 41 #[.pointer (some ⟨g, 0, none⟩)] w fun e w' => e = .returned (.bool (!d.offN)) ∧ Md w' g d.begin F S ∧ Fr (fun x => x = g) w w' := by
  obtain ⟨gg, cg, gw, cw, l, h1, h2, h3, hR⟩ := h.ex
  have hok := h.ok
  have c2 : w.cell? ⟨g, 2, none⟩ = some (.int .i64 (d.ops : Nat)) := h1.cell 2
  have c3 : w.cell? ⟨g, 3, none⟩ = some (.bool d.cut) := h1.cell 3
  have c4 : w.cell? ⟨g, 4, none⟩ = some (.int .i64 l) := h1.cell 4
  have c5 : w.cell? ⟨g, 5, none⟩ = some (.bool d.off) := h1.cell 5
  have hf := h1.frozen
  have HB := Lib.hid h1; have HR := Lib.hid hR; have HOK := Lib.hid hok
  have hops : (d.ops : Int) < 1000000 := by omega
  have hop0 : (0 : Int) ≤ (d.ops : Int) := by omega
  have hw : IntKind.i64.wrap ((d.ops : Int) + 1) = ((d.ops + 1 : Nat) : Int) := by rw [IntKind.wrap_i64]; omega
  have H2 := Lib.hid h2; have H3 := Lib.hid h3
  have HRF : ∀ W, Fr (fun x => x = g) w W → MdRest W g gg cg gw cw d.good d.pend F S := fun W hW => HR.out.frame hW (fun x _ hn e => hn e) (fun x hs e => HR.out.own.2 x hs (e ▸ HR.out.own.1))
  have HRF := Lib.hid HRF
  clear h ho h1 hR hok
  by_cases h5 : d.off = true
  · have HE := Lib.hid (begin_off h5); have HO5 := Lib.hid h5
    rw [h5] at c5
    clear h5 hl2 h2 h3
    go_enter Try.func41, Try.ntmps41
    go_wp2
    go_ret
    refine ⟨by rw [HE.out.1]; rfl, ⟨Bd.begin_ok HOK.out, gg, cg, gw, cw, l, ?_, by rw [HE.out.2]; exact H2.out, H3.out, HRF.out _ ((Fr.refl _ _).one _)⟩, (Fr.refl _ _).one _⟩
    have hb := (HB.out.set 2 (.int .i64 ((d.ops : Int) + 1)))
    clear hf
    rw [HE.out.2]
    refine Eq.mp ?_ hb
    congr 1
    try simp [mdS, HO5.out]
  · have h5 : d.off = false := by simpa using h5
    have HO5 := Lib.hid h5
    rw [h5] at c5
    by_cases h4 : d.cut = true
    · rw [h4] at c3
      by_cases h6 : l < 1
      · have HE := Lib.hid (begin_none h5 h4 (by omega))
        have hd : decide (l < 1) = true := decide_eq_true h6
        have HO4 := Lib.hid h4
        clear h5 h4 h6 hl2 h2 h3
        go_enter Try.func41, Try.ntmps41
        go_wp2
        go_ret
        refine ⟨by rw [HE.out.1]; rfl, ⟨Bd.begin_ok HOK.out, gg, cg, gw, cw, l, ?_, by rw [HE.out.2]; exact H2.out, H3.out, HRF.out _ ((Fr.refl _ _).one _ |>.one _)⟩, (Fr.refl _ _).one _ |>.one _⟩
        have hb := ((HB.out.set 2 (.int .i64 ((d.ops : Int) + 1))).set 5 (.bool true))
        clear hf
        rw [HE.out.2]
        refine Eq.mp ?_ hb
        congr 1
        try simp [mdS, HO5.out, HO4.out]
      · have HE := Lib.hid (begin_some h5 h4 (by omega))
        have hd : decide (l < 1) = false := decide_eq_false h6
        have HO4 := Lib.hid h4
        have hw3 : IntKind.i64.wrap (l - 1) = l - 1 := by rw [IntKind.wrap_i64]; omega
        have H7 : Hid (max (l - 1) 0 = d.left - 1 ∧ -9223372036854775808 ≤ l - 1) := Lib.hid (by omega)
        clear h5 h4 h6 hl2 h2 h3
        go_enter Try.func41, Try.ntmps41
        go_wp2
        go_ret
        refine ⟨by rw [HE.out.1]; rfl, ⟨Bd.begin_ok HOK.out, gg, cg, gw, cw, l - 1, ?_, by rw [HE.out.2]; exact H7.out.1, H7.out.2, HRF.out _ ((Fr.refl _ _).one _ |>.one _)⟩, (Fr.refl _ _).one _ |>.one _⟩
        have hb := ((HB.out.set 2 (.int .i64 ((d.ops : Int) + 1))).set 4 (.int .i64 (l - 1)))
        clear hf
        rw [HE.out.2]
        refine Eq.mp ?_ hb
        congr 1
        try simp [mdS, HO5.out, HO4.out]
    · have h4 : d.cut = false := by simpa using h4
      rw [h4] at c3
      have HE := Lib.hid (begin_uncut h5 h4)
      have HO4 := Lib.hid h4
      clear h5 h4 hl2 h2 h3
      go_enter Try.func41, Try.ntmps41
      go_wp2
      go_ret
      refine ⟨by rw [HE.out.1]; rfl, ⟨Bd.begin_ok HOK.out, gg, cg, gw, cw, l, ?_, by rw [HE.out.2]; exact H2.out, H3.out, HRF.out _ ((Fr.refl _ _).one _)⟩, (Fr.refl _ _).one _⟩
      have hb := (HB.out.set 2 (.int .i64 ((d.ops : Int) + 1)))
      clear hf
      rw [HE.out.2]
      refine Eq.mp ?_ hb
      congr 1
      try simp [mdS, HO5.out, HO4.out]
set_option maxRecDepth 100000 in
set_option maxHeartbeats 1000000 in
theorem dCut_any {w : World} {g : Nat} {n : Int} {d : Bd} {F S : Nat → Prop} (h : Md w g d F S) (hn : -9223372036854775808 ≤ n) : Calls Try.prog 34 #[.pointer (some ⟨g, 0, none⟩), .int .i64 n] w fun e w' => e = .returned (.tuple #[]) ∧ Md w' g (d.cutAt n) F S ∧ Fr (fun x => x = g) w w' := by
  obtain ⟨gg, cg, gw, cw, l, h1, h2, h3, hR⟩ := h.ex
  have c3 : w.cell? ⟨g, 3, none⟩ = some (.bool d.cut) := h1.cell 3
  have c4 : w.cell? ⟨g, 4, none⟩ = some (.int .i64 l) := h1.cell 4
  have hf := h1.frozen
  have HB := Lib.hid h1; have HR := Lib.hid hR; have HOK := Lib.hid h.ok; have HN := Lib.hid hn
  clear h h1 hR h2 h3 hn
  go_enter Try.func34, Try.ntmps34
  go_wp2
  refine bodyPost_end (results_none Try.results34 _ _ _) rfl ⟨rfl, ⟨Bd.cutAt_ok HOK.out n, gg, cg, gw, cw, n, ?_, rfl, HN.out, HR.out.frame ((Fr.refl _ _).one _ |>.one _) (fun x _ hn e => hn e) (fun x hs e => HR.out.own.2 x hs (e ▸ HR.out.own.1))⟩, (Fr.refl _ _).one _ |>.one _⟩
  exact (HB.out.set 3 (.bool true)).set 4 (.int .i64 n)
theorem MdRest.cells {w : World} {g gg cg gw cw : Nat} {good : List (List UInt8)} {pend : Nat → List (List UInt8)} {F S : Nat → Prop} {k : Nat} (h : MdRest w g gg cg gw cw good pend F S) (hk : k < good.length) :
    ∃ v y, w.cell? ⟨gg, k, none⟩ = some v ∧ RdS S w v (good.getD k []) ∧ w.cell? ⟨gw, k, none⟩ = some y ∧ RowsS S w y (pend k) := by
  obtain ⟨gv, rg, wv, rw, h1, h2, h3, h4, h5, h6, h7, h8, h9, h10, n1, n2, n3, hx, hd, hl⟩ := h.ex
  refine ⟨gv[k], wv[k], ?_, h3 k _ _ (List.getElem?_eq_getElem (by omega)) (by rw [List.getD_eq_getElem?_getD, List.getElem?_eq_getElem hk]; rfl), ?_, h6 k _ (List.getElem?_eq_getElem (by omega))⟩
  · rw [h1.cell, List.getElem?_append_left (by omega), List.getElem?_eq_getElem (by omega)]
  · rw [h4.cell, List.getElem?_append_left (by omega), List.getElem?_eq_getElem (by omega)]
set_option maxRecDepth 100000 in
set_option maxHeartbeats 1000000 in
theorem dAt_any {w : World} {g k n : Nat} {d : Bd} {F S : Nat → Prop} (h : Md w g d F S) (hk : k < d.good.length) (hN : d.good.length ≤ 100000) (hn : n ≤ (d.pend k).length) : Calls Try.prog 36 #[.pointer (some ⟨g, 0, none⟩), .int .i64 (k : Int), .int .i64 (n : Int)] w fun e w' => w = w' ∧ ∃ v, e = .returned v ∧ RdS S w v (d.at k n) := by
  obtain ⟨gg, cg, gw, cw, l, h1, h2, h3, hR⟩ := h.ex
  have c0 : w.cell? ⟨g, 0, none⟩ = some (.slice (some ⟨gg, 0, none⟩) d.good.length cg) := h1.cell 0
  have c1 : w.cell? ⟨g, 1, none⟩ = some (.slice (some ⟨gw, 0, none⟩) d.good.length cw) := h1.cell 1
  obtain ⟨v, y, cv, hv, cy, hy⟩ := hR.cells hk
  have k0 : (0 : Int) ≤ (k : Int) := by omega
  have k1 : (k : Int) < (d.good.length : Int) := by omega
  rcases Nat.eq_zero_or_pos n with rfl | hp
  · have HV := Lib.hid hv
    have HA : Hid (d.at k 0 = d.good.getD k []) := Lib.hid (by unfold Bd.at; rw [if_pos rfl])
    obtain ⟨va, vn, vc, rfl, _⟩ := hv
    clear h h1 h2 h3 hR hy hk hN
    go_enter Try.func36, Try.ntmps36
    go_wp2
    go_ret
    exact ⟨rfl, _, rfl, by rw [HA.out]; exact HV.out⟩
  · obtain ⟨i, rfl⟩ : ∃ i, n = i + 1 := ⟨n - 1, by omega⟩
    obtain ⟨a, c, rfl, e0, e1, e2, ys, e3, e4, e5⟩ := hy
    obtain ⟨b, q, rfl, hb, hc⟩ := e4 i _ (List.getElem?_eq_getElem (by omega))
    have HV := Lib.hid (e5 i _ _ (List.getElem?_eq_getElem (by omega)) (List.getElem?_eq_getElem (by omega)))
    have HA : Hid (d.at k (i + 1) = (d.pend k)[i]) := Lib.hid (by unfold Bd.at; rw [if_neg (by omega), Nat.add_sub_cancel, List.getD_eq_getElem?_getD, List.getElem?_eq_getElem (by omega)]; rfl)
    obtain ⟨x, hx⟩ : ∃ x, x = ys[i]'(by omega) := ⟨_, rfl⟩
    rw [← hx] at hc HV
    obtain ⟨va, vn, vc, rfl, _⟩ := HV.out
    have i0 : (0 : Int) ≤ (i : Int) := by omega
    have i1 : (i : Int) < ((d.pend k).length : Int) := by omega
    have i2 : ((i : Int) + 1 == 0) = false := by rw [beq_eq_false_iff_ne]; omega
    have hw : IntKind.i64.wrap ((i : Int) + 1 - 1) = (i : Int) := by unfold maxLen at e2; rw [IntKind.wrap_i64]; omega
    have hw2 : IntKind.i64.wrap (i : Int) = (i : Int) := by unfold maxLen at e2; rw [IntKind.wrap_i64]; omega
    clear h h1 h2 h3 hR hk hN hv e0 e1 e2 e4 e5 hp cv hx
    go_enter Try.func36, Try.ntmps36
    go_wp2
    go_ret
    exact ⟨rfl, _, rfl, by rw [HA.out]; exact HV.out⟩
end Go.Proofs.Ytgehbchaamilhaa
namespace Go.Proofs.Ytgehbchaamilhaa
open Go Go.RowKit Go.Maps
theorem mk64 (w : World) : (Instr.makeSlice 26 (.int .i64 64) (.int .i64 64)).run Try.prog w = .ok (.slice (some ⟨w.heap.size, 0, none⟩) 64 64) (w.alloc (.cells (zero64.map bV).toArray 5)) := by kernel_rfl
theorem run_mk64 {ev : Operand → Value} {o : Oper} {a b : Operand} {w : World} (ho : o.op = .makeSlice 26 a b) (ha : ev a = .int .i64 64) (hb : ev b = .int .i64 64) :
    (execOp ev o).run Try.prog w = .ok (.value (.slice (some ⟨w.heap.size, 0, none⟩) 64 64)) (w.alloc (.cells (zero64.map bV).toArray 5)) := by
  unfold execOp
  simp [ho, ha, hb, mk64]
theorem own_new {w : World} {E sz n : Nat} {xs : List Value} (hl : xs.length = n * sz) (h2 : n ≤ maxLen) : (w.alloc (.cells xs.toArray E)).ownsRow 0 E sz (.slice (some ⟨w.heap.size, 0, none⟩) n n) n xs := by
  refine ⟨hl, .inr ⟨w.heap.size, n, xs.toArray, rfl, Nat.zero_le _, ?_, Nat.le_refl _, h2, by simpa using hl, ?_⟩⟩
  · exact Blk.new w xs.toArray E
  · rw [List.toList_toArray, List.take_of_length_le (by omega)]
/-- A new row, alone in its block. -/
def oneRow64 {Z : Nat → Prop} : FP Z := owF 5 1 64 (zero64.map bV)
/-- A slice of one slice, which reads as l; both of its own. -/
def oneOf {Z : Nat → Prop} (l : List UInt8) : FP Z := ⟨none, fun S v w => ∃ y, w.ownsRow 0 26 1 v 1 [y] ∧ (∀ x, v.ownBlock = some x → S x) ∧ w.ownsRow 0 5 1 y l.length (l.map bV) ∧ (∀ x, y.ownBlock = some x → S x) ∧ ∀ x, v.ownBlock = some x → y.ownBlock ≠ some x,
  fun _ _ _ _ ⟨y, h1, h2, h3, h4, h5⟩ hf => ⟨y, own_frame h1 hf (fun x hx hn => hn.2 (h2 x hx)), h2, own_frame h3 hf (fun x hx hn => hn.2 (h4 x hx)), h4, h5⟩⟩
/-- A slice of slices: ys, and one more of its own, which reads as l. -/
def moreOf {Z : Nat → Prop} (B : Nat) (ys : List Value) (l : List UInt8) : FP Z := ⟨none, fun S v w => ∃ y, w.ownsRow 0 26 1 v (ys.length + 1) (ys ++ [y]) ∧ (∀ x, v.ownBlock = some x → S x) ∧ w.ownsRow 0 5 1 y l.length (l.map bV) ∧ (∀ x, y.ownBlock = some x → S x ∧ B ≤ x) ∧ ∀ x, v.ownBlock = some x → y.ownBlock ≠ some x,
  fun _ _ _ _ ⟨y, h1, h2, h3, h4, h5⟩ hf => ⟨y, own_frame h1 hf (fun x hx hn => hn.2 (h2 x hx)), h2, own_frame h3 hf (fun x hx hn => hn.2 (h4 x hx).1), h4, h5⟩⟩
theorem nil_cells (w : World) (n : Nat) (h : n ≤ 100000) : (Instr.makeSlice 44 (.int .i64 (n : Int)) (.int .i64 (n : Int))).run Try.prog w = .ok (.slice (some ⟨w.heap.size, 0, none⟩) n n) (w.alloc (.cells (List.replicate n (Value.slice none 0 0)).toArray 30)) := by
  obtain ⟨i, hi, hz, hs, hb⟩ := elR3.info
  have hr := run_make (P := Try.prog) w 44 30 i _ Try.underlying44 hi hz .i64 .i64 n n (by omega) (Int.le_refl _) (by rw [hb]; omega) (by omega)
  have e : ((Value.slice none 0 0).cells) = (List.replicate 1 (Value.slice none 0 0)).toArray := rfl
  simp only [Int.toNat_natCast, hs, e, Nat.mul_one] at hr
  rw [made_const (v := .slice none 0 0) (by simp) (fun j hj => by simp at hj; subst hj; rfl)] at hr
  exact hr
theorem one_own {w : World} {v y : Value} (h : w.ownsRow 0 26 1 v 1 [y]) : ∃ q c, v = .slice (some ⟨q, 0, none⟩) 1 c ∧ w.cell? ⟨q, 0, none⟩ = some y := by
  rcases h.2 with ⟨_, hn⟩ | ⟨g, cap, cur, rfl, _, hg, h1, h2, h3, h4⟩
  · omega
  · refine ⟨g, cap, rfl, ?_⟩
    rw [Nat.mul_one] at h4
    have h5 : (cur.toList.take 1)[0]? = some y := by rw [h4]; rfl
    rw [List.getElem?_take_of_lt (by omega), Array.getElem?_toList] at h5
    simp [World.cell?, hg, h5]
theorem own_isSlice {w : World} {E sz n : Nat} {v : Value} {xs : List Value} (h : w.ownsRow 0 E sz v n xs) : ∃ a c, v = .slice a n c ∧ (a = none → n = 0 ∧ c = 0) := by
  rcases h.2 with ⟨rfl, rfl⟩ | ⟨g, cap, cur, rfl, _⟩
  · exact ⟨none, 0, rfl, fun _ => ⟨rfl, rfl⟩⟩
  · exact ⟨_, _, rfl, fun e => by cases e⟩
theorem run_store1 {ev : Operand → Value} {o : Oper} {t : TypeId} {a b : Operand} {w : World} {g q : Nat} {v x : Value} (ho : o.op = .store t a b) (ha : ev a = .pointer (some ⟨g, q, none⟩)) (hb : ev b = v) (hc : w.cell? ⟨g, q, none⟩ = some x) (hf : w.frozen? ⟨g, q, none⟩ = false) (hv : v.oneCell' = true) (hsz : ∀ w, (sizeOf t).run Try.prog w = .ok 1 w) :
    (execOp ev o).run Try.prog w = .ok .skip (w.setCell ⟨g, q, none⟩ v) := by
  have hcs : v.cells = #[v] := by cases v <;> first | rfl | (simp [Value.oneCell'] at hv)
  have hst := run_storeCells_cells (P := Try.prog) g q [v] 0 w (fun j hj => by simp at hj; subst hj; simp [hc]) (fun j hj => by simp at hj; subst hj; simpa using hf) (fun x hx => by simp at hx; subst hx; exact hv)
  unfold execOp
  simp [ho, ha, hb, Instr.storeAt, Instr.sureAddr, storeVar, hsz, hcs, hst, World.setCells]
/-- What stands in the midst of NewDev. -/
def NdI (w : World) (n i : Nat) (vG : Value) (ys : List Value) (wr : World) : Prop :=
  ys.length = i ∧ wr.ownsRow 0 26 1 vG i ys ∧ Blk wr (w.heap.size + 1) [vG, .slice (some ⟨w.heap.size, 0, none⟩) n n, .int .i64 0, .bool false, .int .i64 0, .bool false] 46 ∧ Blk wr w.heap.size (List.replicate n (Value.slice none 0 0)) 30 ∧
  (∀ x, vG.ownBlock = some x → w.heap.size + 2 ≤ x) ∧ (∀ y ∈ ys, RdS (fun x => w.heap.size + 2 ≤ x ∧ x < wr.heap.size ∧ vG.ownBlock ≠ some x) wr y zero64) ∧ Below w.heap.size w wr
theorem new_md {w wr : World} {n : Nat} {vG : Value} {ys : List Value} (h : NdI w n n vG ys wr) (hn : 0 < n) (h1 : n ≤ 1000) : ∃ F S, Md wr (w.heap.size + 1) (Bd.new n) F S ∧ (∀ x, F x → w.heap.size ≤ x) ∧ (∀ x, S x → w.heap.size ≤ x) := by
  obtain ⟨hl, hown, hB, hW, hb, hr, hbel⟩ := h
  obtain ⟨gg, cap, cur, rfl, hg, h2, h3, h4, h5⟩ : ∃ gg cap cur, vG = .slice (some ⟨gg, 0, none⟩) n cap ∧ wr.heap[gg]? = some (.cells cur 26 (0, 0)) ∧ n ≤ cap ∧ cap ≤ maxLen ∧ cur.size = cap * 1 ∧ cur.toList.take (n * 1) = ys := by
    rcases hown.2 with ⟨_, h0⟩ | ⟨g, c, cur, e, _, hg, a1, a2, a3, a4⟩
    · omega
    · exact ⟨g, c, cur, e, hg, a1, a2, a3, a4⟩
  have hgb := hb gg rfl
  have hgl := (Array.getElem?_eq_some_iff.1 hg).1
  have hlen : (Bd.new n).good.length = n := List.length_replicate
  refine ⟨fun x => x = w.heap.size + 1 ∨ x = gg ∨ x = w.heap.size, fun x => w.heap.size + 2 ≤ x ∧ x < wr.heap.size ∧ (Value.slice (some ⟨gg, 0, none⟩) n cap).ownBlock ≠ some x, ⟨Bd.new_ok n, gg, cap, w.heap.size, n, 0, ?_, rfl, by omega, ys, cur.toList.drop n, List.replicate n (Value.slice none 0 0), [], ?_, by rw [hlen, hl], ?_, by rw [List.append_nil]; exact hW, by rw [hlen, List.length_replicate], ?_, by rw [hlen]; exact h2, h3, by rw [hlen]; exact Nat.le_refl _, by unfold maxLen; omega, by omega, by omega, by omega, fun x => Iff.rfl, ?_, fun x h => h.2.1⟩, ?_, fun x h => by omega⟩
  · unfold mdS; rw [hlen]; exact hB
  · unfold Blk
    rw [Nat.mul_one] at h5
    rw [← h5, List.take_append_drop]; exact hg
  · intro k v r hv hk
    have hr0 : r = zero64 := by
      have := List.mem_of_getElem? hk
      unfold Bd.new at this
      simp only [List.mem_replicate] at this
      exact this.2
    rw [hr0]
    exact hr v (List.mem_of_getElem? hv)
  · intro k v hv
    have := List.mem_of_getElem? hv
    simp only [List.mem_replicate] at this
    rw [this.2]
    exact RowsS.nil _ _
  · rintro x ⟨hx1, hx2, hx3⟩ (rfl | rfl | rfl)
    · omega
    · exact hx3 rfl
    · omega
  · rintro x (rfl | rfl | rfl)
    · omega
    · omega
    · exact Nat.le_refl _
set_option maxRecDepth 100000 in
set_option maxHeartbeats 2000000 in
theorem dNew_any {n : Nat} {w : World} (h0 : 0 < n) (h1 : n ≤ 1000) : Calls Try.prog 16 #[.int .i64 (n : Int)] w fun e w' => ∃ g F S, e = .returned (.tuple #[.pointer (some ⟨g, 0, none⟩), .int .i64 0]) ∧ Md w' g (Bd.new n) F S ∧ (∀ x, F x → w.heap.size ≤ x) ∧ (∀ x, S x → w.heap.size ≤ x) ∧ Below w.heap.size w w' := by
  have hmk := nil_cells w n (by omega)
  have a1 : decide ((n : Int) < 1) = false := decide_eq_false (by omega)
  have a2 : decide ((65536 : Int) < (n : Int)) = false := decide_eq_false (by omega)
  have a3 : decide (n < 1) = false := decide_eq_false (by omega)
  have a4 : decide (65536 < n) = false := decide_eq_false (by omega)
  have H0 := Lib.hid h0; have H1 := Lib.hid h1
  clear h0 h1
  go_enter Try.func16, Try.ntmps16
  go_upto_region 4 with fail
  clear hmk a1 a2 a3 a4
  refine wp_gen (fun W => NdI w n 0 (.slice none 0 0) [] W) ⟨rfl, ⟨rfl, .inl ⟨rfl, rfl⟩⟩, ?_, ?_, fun x h => (by cases h), fun y h => (by cases h), ?_⟩ (fun w1 hI => ?_)
  · have e : (w.alloc (.cells (List.replicate n (Value.slice none 0 0)).toArray 30)).heap.size = w.heap.size + 1 := by simp
    have h := Blk.new (w.alloc (.cells (List.replicate n (Value.slice none 0 0)).toArray 30)) #[.slice none 0 0, .slice (some ⟨w.heap.size, 0, none⟩) n n, .int .i64 0, .bool false, .int .i64 0, .bool false] 46
    rw [e] at h
    exact h
  · have h := (Blk.new w (List.replicate n (Value.slice none 0 0)).toArray 30)
    rw [List.toList_toArray] at h
    exact h.alloc _
  · exact (((Below.refl _ _).alloc (Nat.le_refl _) _).alloc (by simp) _)
  have HI := Lib.hid hI
  have hn63 : (n : Int) ≤ 1000 := by have := H1.out; omega
  clear hI
  go_wp2
  go_loopw [5] (fun iv wr => ∃ i : Nat, i ≤ n ∧ iv = .int .i64 i ∧ ∃ vG ys, NdI w n i vG ys wr) (fun iv _ => n - (intOf iv).toNat)
  case atStart => exact ⟨0, by omega, rfl, _, _, HI.out⟩
  case round =>
    obtain ⟨i, hi, rfl, vG, ys, hI⟩ := hrel
    by_cases hlt : i < n
    · have HN := Lib.hid hI
      obtain ⟨hl, hown, hB, hW, hb, hr, hbel⟩ := hI
      obtain ⟨aG, cG, rfl, hnil⟩ := own_isSlice hown
      have hi0 : (0 : Int) ≤ (i : Int) := by omega
      have hi1 : (i : Int) < (n : Int) := by omega
      have hiw : IntKind.i64.wrap ((i : Int) + 1) = ((i + 1 : Nat) : Int) := by rw [IntKind.wrap_i64]; omega
      have c0 : wr.cell? ⟨w.heap.size + 1, 0, none⟩ = some (.slice aG i cG) := hB.cell 0
      have HG := Lib.hid hown; have HB := Lib.hid hB; have HLT := Lib.hid hlt
      have hFw : ∀ x, (Value.slice aG i cG).ownBlock = some x → x < wr.heap.size := own_ptr hown
      have hne : ∀ x, (Value.slice aG i cG).ownBlock = some x → x ≠ w.heap.size + 1 := fun x hx => by have := hb x hx; omega
      have HL := Lib.hid hl; have HNE := Lib.hid hne; have HFW := Lib.hid hFw
      clear hown hB hW hb hr hbel hne hl hlt
      go_upto_region 7 with fail
      refine rgS 10 7 (fun x => (Value.slice aG i cG).ownBlock = some x) [(21, 0), (0, 1), (0, 2), (0, 3), (0, 4), (0, 5), (0, 6), (0, 7), (0, 8), (0, 9)] [kv (.pointer (some ⟨w.heap.size + 1, 0, none⟩)), kv (.pointer (some ⟨w.heap.size + 1, 0, none⟩)), kv (.pointer (some ⟨w.heap.size + 1, 0, none⟩)), kv (.pointer (some ⟨w.heap.size + 1, 0, none⟩)), kv (.slice aG i cG), (oneRow64), (oneOf zero64), (moreOf wr.heap.size ys zero64), kv (.pointer (some ⟨w.heap.size + 1, 0, none⟩)), kv (.pointer (some ⟨w.heap.size + 1, 0, none⟩))] [none, none, none, none, none, some 6, some 7, none, none, none] (fun W => ∃ v y, W.ownsRow 0 26 1 v (i + 1) (ys ++ [y]) ∧ (∀ x, v.ownBlock = some x → (Value.slice aG i cG).ownBlock = some x ∨ wr.heap.size ≤ x) ∧ W.ownsRow 0 5 1 y zero64.length (zero64.map bV) ∧ (∀ x, y.ownBlock = some x → wr.heap.size ≤ x ∧ v.ownBlock ≠ some x) ∧ Blk W (w.heap.size + 1) [v, .slice (some ⟨w.heap.size, 0, none⟩) n n, .int .i64 0, .bool false, .int .i64 0, .bool false] 46 ∧ Fr (fun x => x = w.heap.size + 1 ∨ (Value.slice aG i cG).ownBlock = some x) wr W) ?_ (fun u6 W6 hP hv => ?_)
      · refine ⟨?_, ?_, ?_, ?_, ?_, ?_, ?_, ?_, ?_, ?_, ?_, trivial⟩
        · refine ksP HFW.out (by omega) (.cons (c := 9) (by kernel_rfl) (.cons (c := 8) (by kernel_rfl) (.one (by kernel_rfl)))) (by rfl) fun L u W gh hc => ?_
          go_simp
        · refine ksP HFW.out (by omega) (.cons (c := 7) (by kernel_rfl) (.cons (c := 4) (by kernel_rfl) (.cons (c := 3) (by kernel_rfl) (.cons (c := 2) (by kernel_rfl) (.one (by kernel_rfl)))))) (by rfl) fun L u W gh hc => ?_
          have hb := hc.before (.inr (.cons (c := 4) (by kernel_rfl) (.cons (c := 3) (by kernel_rfl) (.cons (c := 2) (by kernel_rfl) (.one (by kernel_rfl))))))
          go_simp
        · refine ksP HFW.out (by omega) (.cons (c := 7) (by kernel_rfl) (.cons (c := 4) (by kernel_rfl) (.cons (c := 3) (by kernel_rfl) (.one (by kernel_rfl))))) (by rfl) fun L u W gh hc => ?_
          have e1 : u 1 = .pointer (some ⟨w.heap.size + 1, 0, none⟩) := hc.val 1 (by kernel_rfl) (by omega) _ rfl
          have hb := hc.before (.inr (.cons (c := 4) (by kernel_rfl) (.cons (c := 3) (by kernel_rfl) (.one (by kernel_rfl)))))
          go_simp
        · refine ksP HFW.out (by omega) (.cons (c := 7) (by kernel_rfl) (.cons (c := 4) (by kernel_rfl) (.one (by kernel_rfl)))) (by rfl) fun L u W gh hc => ?_
          have e2 : u 2 = .pointer (some ⟨w.heap.size + 1, 0, none⟩) := hc.val 2 (by kernel_rfl) (by omega) _ rfl
          have hb := hc.before (.inr (.cons (c := 4) (by kernel_rfl) (.one (by kernel_rfl))))
          go_simp
        · refine ksP HFW.out (by omega) (.cons (c := 7) (by kernel_rfl) (.one (by kernel_rfl))) (by rfl) fun L u W gh hc => ?_
          have e3 : u 3 = .pointer (some ⟨w.heap.size + 1, 0, none⟩) := hc.val 3 (by kernel_rfl) (by omega) _ rfl
          have hb := hc.before (.inr (.one (by kernel_rfl)))
          have hc := (hb.cell (p := ⟨w.heap.size + 1, 0, none⟩) HB.out.lt).trans c0
          go_simp
        · refine ksM HFW.out (by omega) (.cons (c := 7) (by kernel_rfl) (.cons (c := 6) (by kernel_rfl) (.one (by kernel_rfl)))) fun L u W gh hc => ?_
          have hb := hc.before (.inr (.cons (c := 6) (by kernel_rfl) (.one (by kernel_rfl))))
          exact ⟨_, _, fun x => x = W.heap.size, run_mk64 rfl rfl rfl, (Fr.refl _ _).alloc _, ⟨own_new (by rfl) (by unfold maxLen; omega), fun x hx => by cases hx; rfl⟩, fun x e => (by cases e), fun x hx => .inr (Nat.le_of_eq hx.symm), fun x hx => by subst hx; simp⟩
        · refine ksM HFW.out (by omega) (.cons (c := 7) (by kernel_rfl) (.one (by kernel_rfl))) fun L u W gh hc => ?_
          have t5 := hc.fact 5 (by kernel_rfl) (by omega) (fun t ht => by cases ht; exact hc.free _ (.inl rfl))
          have f5 := hc.foot 5 (by kernel_rfl) (by omega) (fun t ht => by cases ht; exact hc.free _ (.inl rfl))
          have hb := hc.before (.inr (.one (by kernel_rfl)))
          obtain ⟨a1, a2⟩ := t5
          obtain ⟨a, c, e5, _⟩ := own_isSlice a1
          have ha := (Fr.refl (fun _ => False) W).alloc (.cells #[u 5] 26)
          refine ⟨_, _, fun x => gh 5 x ∨ x = W.heap.size, run_new1 (v := u 5) elR rfl rfl (by rw [e5]; rfl) (by rw [e5]; rfl), (Fr.refl _ _).alloc _, ⟨u 5, own_new (xs := [u 5]) (by rfl) (by unfold maxLen; omega), fun x hx => (by cases hx; exact .inr rfl), own_frame a1 ha (fun _ _ h => h), fun x hx => .inl (a2 x hx), fun x hx e => ?_⟩, fun x e => (by cases e), fun x hx => ?_, fun x hx => ?_⟩
          · have e2 : W.heap.size = x := Option.some.inj hx
            have := own_ptr a1 _ e; omega
          · rcases hx with h | h
            · exact .inl ⟨5, by kernel_rfl, by omega, rfl, h⟩
            · exact .inr (Nat.le_of_eq h.symm)
          · rcases hx with h | rfl
            · have := (f5 x h).2; simp; omega
            · simp
        · refine ksW HFW.out (by omega) (.one (by kernel_rfl)) rfl fun L u W gh hc hb => ?_
          have e4 : u 4 = .slice aG i cG := hc.val 4 (by kernel_rfl) (by omega) _ rfl
          have t6 := hc.fact 6 (by kernel_rfl) (by omega) (fun t ht => by cases ht; exact hc.free _ (.inl rfl))
          have f6 := hc.foot 6 (by kernel_rfl) (by omega) (fun t ht => by cases ht; exact hc.free _ (.inl rfl))
          obtain ⟨y, a1, a2, a3, a4, a5⟩ := t6
          obtain ⟨q, c, e6, hcq⟩ := one_own a1
          obtain ⟨ya, yc, ey, _⟩ := own_isSlice a3
          have hgW := own_frame (F := fun _ => False) HG.out (.of_below hb) (fun _ _ h => h)
          obtain ⟨v', w', hrun, ho, hf, hv⟩ := run_app elR (w := W) (a := some ⟨q, 0, none⟩) (m := 1) (c := c) hgW (news := [y]) (by rfl) (fun e => by cases e) (fun j z hz => by
            cases j with
            | zero => simp at hz; subst hz; exact ⟨_, rfl, by rw [Addr.add_mid]; exact hcq⟩
            | succ j => simp at hz) (fun z hz => by simp at hz; subst hz; rw [ey]; rfl) (by unfold maxLen; have := HLT.out; have := H1.out; omega) (by have := HLT.out; have := H1.out; omega)
          have hyn : ∀ x, y.ownBlock = some x → gh 6 x := a4
          have hfoot : ∀ x, gh 6 x → wr.heap.size ≤ x ∧ x < W.heap.size := fun x hx => ⟨(by rcases (f6 x hx).1 with h | ⟨_, h⟩; exact h; rw [hc.free 7 (.inl rfl)] at h; cases h), (f6 x hx).2⟩
          refine ⟨v', w', fun x => v'.ownBlock = some x ∨ gh 6 x, hrun _ _ _ _ rfl rfl (by exact e4) (by exact e6), hf.mono (fun x hx => .inl (.inl hx)), ⟨y, by rw [HL.out]; exact ho, fun x hx => .inl hx, own_frame a3 hf (fun x hx e => ?_), fun x hx => ⟨.inr (hyn x hx), (hfoot x (hyn x hx)).1⟩, fun x hx e => ?_⟩, fun x e => (by cases e), fun x hx => ?_, fun x hx => ?_⟩
          · have := HFW.out x e; have := (hfoot x (hyn x hx)).1; omega
          · have h2 := hfoot x (hyn x e)
            rcases (hv x hx).1 with h | h
            · have := HFW.out x h; omega
            · omega
          · rcases hx with h | h
            · rcases (hv x h).1 with h | h
              · exact .inl h
              · exact .inr (.inr (Nat.le_of_eq h.symm))
            · exact .inr (.inl ⟨6, by kernel_rfl, by omega, rfl, h⟩)
          · rcases hx with h | h
            · exact (hv x h).2
            · exact Nat.lt_of_lt_of_le (hfoot x h).2 hf.size
        · refine ksP HFW.out (by omega) (.cons (c := 9) (by kernel_rfl) (.one (by kernel_rfl))) (by rfl) fun L u W gh hc => ?_
          have e0 : u 0 = .pointer (some ⟨w.heap.size + 1, 0, none⟩) := hc.val 0 (by kernel_rfl) (by omega) _ rfl
          go_simp
        · refine ksP HFW.out (by omega) (.one (by kernel_rfl)) (by rfl) fun L u W gh hc => ?_
          have e8 : u 8 = .pointer (some ⟨w.heap.size + 1, 0, none⟩) := hc.val 8 (by kernel_rfl) (by omega) _ rfl
          go_simp
        · refine ksL fun L u W gh hc => ?_
          have e9 : u 9 = .pointer (some ⟨w.heap.size + 1, 0, none⟩) := hc.val 9 (by kernel_rfl) (by omega) _ rfl
          have t7 := hc.fact 7 (by kernel_rfl) (by omega) (fun t ht => by cases ht)
          have f7 := hc.foot 7 (by kernel_rfl) (by omega) (fun t ht => by cases ht)
          obtain ⟨y, a1, a2, a3, a4, a5⟩ := t7
          have hBW := hc.fr.blk HB.out (fun e => HNE.out _ e rfl)
          have hfs : Fr (fun x => x = w.heap.size + 1) W (W.setCell ⟨w.heap.size + 1, 0, none⟩ (u 7)) := (Fr.refl _ _).one _
          obtain ⟨va, vc, ev, _⟩ := own_isSlice a1
          have hfo : ∀ x, gh 7 x → (wr.heap.size ≤ x ∨ (Value.slice aG i cG).ownBlock = some x) := fun x hx => by rcases (f7 x hx).1 with h | ⟨h, _⟩; exact .inl h; exact .inr h
          have hng : ∀ x, gh 7 x → x ≠ w.heap.size + 1 := fun x hx => by
            rcases hfo x hx with h | h
            · have := HB.out.lt; omega
            · exact HNE.out x h
          refine ⟨_, _, _, run_store1 rfl (by exact e9) (by rfl) (hBW.cell 0) (hBW.frozen 0) (by rw [ev]; rfl) Try.sizeOf30, .inl ⟨rfl, rfl⟩, u 7, y, ?_, ?_, ?_, ?_, hBW.set 0 (u 7), ?_⟩
          · have := own_frame a1 hfs (fun x hx e => hng x (a2 x hx) e)
            rw [HL.out] at this; exact this
          · intro x hx
            rcases hfo x (a2 x hx) with h | h
            · exact .inr h
            · exact .inl h
          · exact own_frame a3 hfs (fun x hx e => hng x (a4 x hx).1 e)
          · exact fun x hx => ⟨(a4 x hx).2, fun e => a5 x e hx⟩
          · exact (hc.fr.mono (F' := fun x => x = w.heap.size + 1 ∨ (Value.slice aG i cG).ownBlock = some x) (fun x hx => .inl (.inr hx))).trans hfs (fun x hx => .inl (.inl hx))
      obtain ⟨v, y, p1, p2, p3, p4, p5, p6⟩ := hP
      have HI2 : Hid (NdI w n (i + 1) v (ys ++ [y]) W6) := Lib.hid (by
        obtain ⟨hl, hown, hB, hW, hb, hr, hbel⟩ := HN.out
        have hlb := hB.lt; have hlw := hW.lt
        refine ⟨by rw [List.length_append, hl]; rfl, p1, p5, p6.blk hW (fun e => ?_), fun x hx => ?_, fun z hz => ?_, hbel.trans (p6.below hbel.size (fun x hx => ?_))⟩
        · rcases e with e | e
          · omega
          · have := hb _ e; omega
        · rcases p2 x hx with h | h
          · exact hb x h
          · omega
        · rcases List.mem_append.1 hz with hz | hz
          · refine RdS.mono (RdS.frame (hr z hz) p6 (fun x hx e => ?_)) (fun x hx => ⟨hx.1, Nat.lt_of_lt_of_le hx.2.1 p6.size, fun e => ?_⟩)
            · rcases e with e | e
              · omega
              · exact hx.2.2 e
            · rcases p2 x e with h | h
              · exact hx.2.2 h
              · omega
          · simp at hz
            subst hz
            obtain ⟨a, c, rfl, hrd, hpb⟩ := own_rd p3
            exact ⟨a, _, c, rfl, hrd, fun p hp => ⟨by have := (p4 _ (hpb p hp)).1; have := hbel.size; omega, own_ptr p3 _ (hpb p hp), (p4 _ (hpb p hp)).2⟩⟩
        · rcases hx with rfl | hx
          · omega
          · have := hb _ hx; omega)
      clear p1 p2 p3 p4 p5 p6
      go_wp2
      go_roundw
      case rel => first | exact ⟨i + 1, by have := HLT.out; omega, by go_num, _, _, HI2.out⟩ | ((repeat apply Exists.intro); exact ⟨⟨i + 1, by have := HLT.out; omega, by go_num, _, _, HI2.out⟩, rfl⟩)
      case measure => have := HLT.out; simp [intOf]; omega
    · obtain rfl : i = n := by omega
      have HM := Lib.hid (new_md hI H0.out H1.out)
      have HBL := Lib.hid hI.2.2.2.2.2.2
      clear hI hlt
      go_wp2
      go_ret2
      obtain ⟨F, S, h1, h2, h3⟩ := HM.out
      exact ⟨_, F, S, rfl, h1, h2, h3, HBL.out⟩
end Go.Proofs.Ytgehbchaamilhaa
namespace Go.Proofs.Ytgehbchaamilhaa
open Go Go.RowKit Go.Maps
/-- What an append to one's own gives. -/
theorem app_res {Z : Nat → Prop} {tS E sz bytes : Nat} {z : Value} (h : ElT tS E sz bytes z) {S : Nat → Prop} {w : World} {v : Value} {n m c : Nat} {a : Option Addr} {xs news : List Value} (hown : (owF (Z := Z) E sz n xs).P S v w)
    (hl : news.length = m * sz) (hnil : a = none → m = 0 ∧ c = 0) (hnews : ∀ (j : Nat) (u : Value), news[j]? = some u → ∃ ad, a = some ad ∧ w.cell? (ad.add j) = some u) (h1 : ∀ u ∈ news, u.oneCell' = true) (h63 : n + m ≤ maxLen) (hb : (n + m) * bytes ≤ 140737488355328) :
    ∃ v' w', (∀ (ev : Operand → Value) (o : Oper) (x y : Operand), o.op = .call { callee := .builtin .append, args := #[x, y], argTypes := #[tS, tS] } → o.type = tS → ev x = v → ev y = .slice a m c → (execOp ev o).run Try.prog w = .ok (.value v') w') ∧
      Fr (fun x => v.ownBlock = some x) w w' ∧ (owF (Z := Z) E sz (n + m) (xs ++ news)).P (fun x => v'.ownBlock = some x) v' w' ∧ (∀ x, v'.ownBlock = some x → v.ownBlock = some x ∨ w.heap.size ≤ x) ∧ ∀ x, v'.ownBlock = some x → x < w'.heap.size := by
  obtain ⟨v', w', h1, h2, h3, h4⟩ := run_app h hown.1 hl hnil hnews h1 h63 hb
  exact ⟨v', w', h1, h3, ⟨h2, fun x hx => hx⟩, fun x hx => (h4 x hx).1.imp id (fun e => Nat.le_of_eq e.symm), fun x hx => (h4 x hx).2⟩
theorem RdB.news {w : World} {a : Option Addr} {n c : Nat} {l : List UInt8} (h : RdB w a n c l) : (l.map bV).length = n * 1 ∧ (a = none → n = 0 ∧ c = 0) ∧ ∀ (j : Nat) (u : Value), (l.map bV)[j]? = some u → ∃ ad, a = some ad ∧ w.cell? (ad.add j) = some u := by
  refine ⟨by rw [List.length_map, h.hlen]; omega, fun e => ⟨by have := h.hnil e; have := h.hcap; omega, h.hnil e⟩, fun j u hu => ?_⟩
  have hj := (List.getElem?_eq_some_iff.1 hu).1
  rw [List.length_map] at hj
  obtain ⟨b, o, e, hc⟩ := h.get j hj
  refine ⟨_, e, ?_⟩
  rw [Addr.add_mid, hc]
  rw [List.getElem?_map, List.getElem?_eq_getElem hj] at hu
  exact hu
theorem bytes_one (l : List UInt8) : ∀ u ∈ l.map bV, u.oneCell' = true := fun u hu => by
  rw [List.mem_map] at hu
  obtain ⟨c, _, rfl⟩ := hu
  rfl
/-- The rows' slice behind a write. -/
theorem rows_more {S F : Nat → Prop} {w W : World} {v y : Value} {ls : List (List UInt8)} {ys : List Value} {x : List UInt8} {B : Nat} (hys : ys.length = ls.length) (hrd : ∀ (i : Nat) (y : Value) (l : List UInt8), ys[i]? = some y → ls[i]? = some l → RdS S w y l)
    (hf : Fr F w W) (hF : ∀ x, S x → ¬ F x) (ho : W.ownsRow 0 26 1 v (ys.length + 1) (ys ++ [y])) (hv : ∀ x, v.ownBlock = some x → B ≤ x) (hy : W.ownsRow 0 5 1 y x.length (x.map bV)) (hyb : ∀ x, y.ownBlock = some x → B ≤ x) :
    RowsS (fun q => S q ∨ (B ≤ q ∧ q < W.heap.size)) W v (ls ++ [x]) := by
  obtain ⟨q, c, cur, rfl, hq, h1, h2, h3, h4⟩ : ∃ q c cur, v = .slice (some ⟨q, 0, none⟩) (ys.length + 1) c ∧ W.heap[q]? = some (.cells cur 26 (0, 0)) ∧ ys.length + 1 ≤ c ∧ c ≤ maxLen ∧ cur.size = c * 1 ∧ cur.toList.take ((ys.length + 1) * 1) = ys ++ [y] := by
    rcases ho.2 with ⟨_, h0⟩ | ⟨g, c, cur, e, _, hg, a1, a2, a3, a4⟩
    · omega
    · exact ⟨g, c, cur, e, hg, a1, a2, a3, a4⟩
  have hql := (Array.getElem?_eq_some_iff.1 hq).1
  refine ⟨some ⟨q, 0, none⟩, c, by rw [List.length_append, ← hys]; rfl, fun e => (by cases e), by rw [List.length_append, ← hys]; exact h1, h2, ys ++ [y], by rw [List.length_append, List.length_append, hys]; rfl, fun i z hz => ⟨q, 0, rfl, .inr ⟨hv q rfl, hql⟩, ?_⟩, fun i z l hz hl2 => ?_⟩
  · have hi := (List.getElem?_eq_some_iff.1 hz).1
    rw [List.length_append] at hi
    simp at hi
    rw [Nat.mul_one] at h4
    have h5 : (cur.toList.take (ys.length + 1))[i]? = some z := by rw [h4]; exact hz
    rw [List.getElem?_take_of_lt (by omega), Array.getElem?_toList] at h5
    simp [World.cell?, hq, h5]
  · rcases Nat.lt_or_ge i ys.length with hi | hi
    · rw [List.getElem?_append_left hi] at hz
      rw [List.getElem?_append_left (by omega)] at hl2
      exact ((hrd i z l hz hl2).frame hf hF).mono (fun x h => .inl h)
    · rw [List.getElem?_append_right hi] at hz
      rw [List.getElem?_append_right (by omega), ← hys] at hl2
      have h0 : i - ys.length = 0 := by have := (List.getElem?_eq_some_iff.1 hz).1; simp at this; omega
      rw [h0] at hz hl2
      simp at hz hl2
      subst hz; subst hl2
      obtain ⟨a, c, rfl, hr, hp⟩ := own_rd hy
      exact ⟨a, _, c, rfl, hr, fun p hp2 => .inr ⟨hyb _ (hp p hp2), own_ptr hy _ (hp p hp2)⟩⟩
set_option maxRecDepth 100000 in
set_option maxHeartbeats 2000000 in
theorem dWrite_ok {w : World} {g k cap bb qq : Nat} {x : List UInt8} {d : Bd} {F S : Nat → Prop} (h : Md w g d F S) (hk : k < d.good.length) (hN : d.good.length ≤ 100000) (ho : d.ops < 1000000) (hl : d.left ≤ 9223372036854775807) (hoff : d.offN = false)
    (hb : RdB w (some ⟨bb, qq, none⟩) 64 cap x) (hbF : ¬ F bb) :
    Calls Try.prog 32 #[.pointer (some ⟨g, 0, none⟩), .int .i64 (k : Int), .slice (some ⟨bb, qq, none⟩) 64 cap] w fun e w' => e = .returned (.int .i64 0) ∧ ∃ S', Md w' g (d.begin.put k x) F S' ∧ Fr F w w' ∧ (∀ y, S' y → S y ∨ w.heap.size ≤ y) := by
  have HD := Lib.hid h
  have HK := Lib.hid hk; have HN := Lib.hid hN; have HO := Lib.hid ho; have HL := Lib.hid hl; have HB := Lib.hid hb; have HBF := Lib.hid hbF
  have k0 : decide ((k : Int) < 0) = false := decide_eq_false (by omega)
  have k1 : decide ((d.good.length : Int) ≤ (k : Int)) = false := decide_eq_false (by omega)
  have k2 : decide (d.good.length ≤ k) = false := decide_eq_false (by omega)
  have HOF := Lib.hid hoff
  have c00 : ∃ gg cg, w.cell? ⟨g, 0, none⟩ = some (.slice (some ⟨gg, 0, none⟩) d.good.length cg) := by
    obtain ⟨gg, cg, gw, cw, l, h1, _⟩ := h.ex
    exact ⟨gg, cg, h1.cell 0⟩
  obtain ⟨gg0, cg0, c00⟩ := c00
  clear h hk hN ho hl hb hbF hoff
  go_enter Try.func32, Try.ntmps32
  go_upto_region 5 with (first
    | (go_at_call 41; (with_reducible refine (dOp_any HD.out HO.out HL.out).mono ?_); rintro e w1 ⟨rfl, hD1, hf1⟩; rw [HOF.out]))
  have HD1 := Lib.hid hD1; have HF1 := Lib.hid hf1
  obtain ⟨gg, cg, gw, cw, l, h1, h2, h3, hR⟩ := hD1.ex
  have c1 : w1.cell? ⟨g, 1, none⟩ = some (.slice (some ⟨gw, 0, none⟩) d.good.length cw) := h1.cell 1
  obtain ⟨gv, rg, wv, rw', a1, a2, a3, a4, a5, a6, a7, a8, a9, a10, n1, n2, n3, hx, hd, hsl⟩ := hR.ex
  have a6 : ∀ (k : Nat) (v : Value), wv[k]? = some v → RowsS S w1 v (d.pend k) := a6
  have a5 : wv.length = d.good.length := a5
  have a2 : gv.length = d.good.length := a2
  have a3 : ∀ (k : Nat) (v : Value) (r : List UInt8), gv[k]? = some v → d.good[k]? = some r → RdS S w1 v r := a3
  have hkl : k < wv.length := by rw [a5]; exact HK.out
  obtain ⟨vk, hvk⟩ : ∃ vk, wv[k]? = some vk := ⟨_, List.getElem?_eq_getElem hkl⟩
  have cwk : w1.cell? ⟨gw, k, none⟩ = some vk := by rw [a4.cell, List.getElem?_append_left hkl]; exact hvk
  obtain ⟨a, c, rfl, r1, r2, r3, ys, r4, r5, r6⟩ := a6 k vk hvk
  have hgF : F g := (hx g).2 (.inl rfl)
  have hbr : RdB w1 (some ⟨bb, qq, none⟩) 64 cap x := HF1.out.rd HB.out (fun p hp => by cases hp; exact fun e => HBF.out (by rw [show bb = g from e]; exact hgF))
  have HXL : Hid (x.length = 64) := Lib.hid HB.out.hlen
  have HH1 := Lib.hid h1; have HA4 := Lib.hid a4; have HR4 := Lib.hid r4; have HR5 := Lib.hid r5; have HR1 := Lib.hid r1; have HBR := Lib.hid hbr
  have HPL : Hid ((d.pend k).length ≤ 1000000) := Lib.hid (by have := HD.out.ok.cnt k; have := HO.out; omega)
  have k3 : (0 : Int) ≤ (k : Int) := by omega
  have k4 : (k : Int) < (d.good.length : Int) := by have := HK.out; omega
  have HE : Hid (d.begin.good = d.good ∧ d.begin.pend = d.pend) := Lib.hid ⟨rfl, rfl⟩
  have hy1 : ∀ z ∈ ys, z.oneCell' = true := fun z hz => by
    obtain ⟨i, hi, rfl⟩ := List.getElem_of_mem hz
    obtain ⟨a, n, c, e, _⟩ := r6 i _ _ (List.getElem?_eq_getElem hi) (List.getElem?_eq_getElem (by rw [← r4]; exact hi))
    rw [e]; rfl
  have HY1 := Lib.hid hy1
  have HXP := Lib.hid hx
  clear hD1 hf1 k0 k1 k2 c00 hy1 hx
  refine rgS 20 20 (fun _ => False) [(26, 0), (0, 1), (0, 2), (0, 3), (0, 4), (0, 5), (0, 6), (0, 7), (0, 8), (0, 9), (0, 10), (0, 11), (0, 12), (0, 13), (0, 14), (0, 15), (0, 16), (0, 17), (0, 18), (0, 19)] [kv (.pointer (some ⟨g, 0, none⟩)), kv (.pointer (some ⟨g, 0, none⟩)), kv (.pointer (some ⟨g, 1, none⟩)), kv (.slice (some ⟨gw, 0, none⟩) d.good.length cw), kv (.int .i64 (k : Int)), (owF 26 1 0 []), kv (.pointer (some ⟨g, 0, none⟩)), kv (.pointer (some ⟨g, 0, none⟩)), kv (.pointer (some ⟨g, 1, none⟩)), kv (.slice (some ⟨gw, 0, none⟩) d.good.length cw), kv (.int .i64 (k : Int)), kv (.pointer (some ⟨gw, k, none⟩)), kv (.slice a (d.pend k).length c), (owF 26 1 (0 + (d.pend k).length) ([] ++ ys)), (owF 5 1 0 []), kv (.slice (some ⟨bb, qq, none⟩) 64 cap), (owF 5 1 x.length (x.map bV)), (oneOf x), (moreOf w1.heap.size ys x), kv (.pointer (some ⟨gw, k, none⟩))] [none, none, none, none, none, some 13, none, none, none, none, none, none, none, some 18, some 16, none, some 17, some 18, none, none] (fun W => ∃ v y, W.ownsRow 0 26 1 v (ys.length + 1) (ys ++ [y]) ∧ (∀ x, v.ownBlock = some x → w1.heap.size ≤ x) ∧ W.ownsRow 0 5 1 y x.length (x.map bV) ∧ (∀ x, y.ownBlock = some x → w1.heap.size ≤ x) ∧ Blk W gw (wv.set k v ++ rw') 30 ∧ Fr (fun x => x = gw) w1 W) ?_ (fun u6 W6 hP hv => ?_)
  · refine ⟨?_, ?_, ?_, ?_, ?_, ?_, ?_, ?_, ?_, ?_, ?_, ?_, ?_, ?_, ?_, ?_, ?_, ?_, ?_, ?_, ?_, trivial⟩
    · refine ksP (fun _ h => h.elim) (by omega) (.cons (c := 19) (by kernel_rfl) (.cons (c := 3) (by kernel_rfl) (.cons (c := 2) (by kernel_rfl) (.cons (c := 1) (by kernel_rfl) (.one (by kernel_rfl)))))) (by rfl) fun L u W gh hc => ?_
      have hb := hc.before (.inr (.cons (c := 19) (by kernel_rfl) (.cons (c := 3) (by kernel_rfl) (.cons (c := 2) (by kernel_rfl) (.cons (c := 1) (by kernel_rfl) (.one (by kernel_rfl)))))))
      go_simp
    · refine ksP (fun _ h => h.elim) (by omega) (.cons (c := 19) (by kernel_rfl) (.cons (c := 3) (by kernel_rfl) (.cons (c := 2) (by kernel_rfl) (.one (by kernel_rfl))))) (by rfl) fun L u W gh hc => ?_
      have e0 : u 0 = .pointer (some ⟨g, 0, none⟩) := hc.val 0 (by kernel_rfl) (by omega) _ rfl
      have hb := hc.before (.inr (.cons (c := 19) (by kernel_rfl) (.cons (c := 3) (by kernel_rfl) (.cons (c := 2) (by kernel_rfl) (.one (by kernel_rfl))))))
      go_simp
    · refine ksP (fun _ h => h.elim) (by omega) (.cons (c := 19) (by kernel_rfl) (.cons (c := 3) (by kernel_rfl) (.one (by kernel_rfl)))) (by rfl) fun L u W gh hc => ?_
      have e1 : u 1 = .pointer (some ⟨g, 0, none⟩) := hc.val 1 (by kernel_rfl) (by omega) _ rfl
      have hb := hc.before (.inr (.cons (c := 19) (by kernel_rfl) (.cons (c := 3) (by kernel_rfl) (.one (by kernel_rfl)))))
      go_simp
    · refine ksP (fun _ h => h.elim) (by omega) (.cons (c := 19) (by kernel_rfl) (.one (by kernel_rfl))) (by rfl) fun L u W gh hc => ?_
      have e2 : u 2 = .pointer (some ⟨g, 1, none⟩) := hc.val 2 (by kernel_rfl) (by omega) _ rfl
      have hb := hc.before (.inr (.cons (c := 19) (by kernel_rfl) (.one (by kernel_rfl))))
      have hc2 := (hb.cell (p := ⟨g, 1, none⟩) HH1.out.lt).trans c1
      go_simp
    · refine ksP (fun _ h => h.elim) (by omega) (.cons (c := 19) (by kernel_rfl) (.one (by kernel_rfl))) (by rfl) fun L u W gh hc => ?_
      have hb := hc.before (.inr (.cons (c := 19) (by kernel_rfl) (.one (by kernel_rfl))))
      go_simp
    · refine ksM (fun _ h => h.elim) (by omega) (.cons (c := 18) (by kernel_rfl) (.cons (c := 13) (by kernel_rfl) (.one (by kernel_rfl)))) fun L u W gh hc => ?_
      have hb := hc.before (.inr (.cons (c := 18) (by kernel_rfl) (.cons (c := 13) (by kernel_rfl) (.one (by kernel_rfl)))))
      exact ⟨_, _, fun x => x = W.heap.size, run_new0 elR rfl, (Fr.refl _ _).alloc _, ⟨own_new (xs := []) (by rfl) (by unfold maxLen; omega), fun x hx => by cases hx; rfl⟩, fun x e => (by cases e), fun x hx => .inr (Nat.le_of_eq hx.symm), fun x hx => by subst hx; simp⟩
    · refine ksP (fun _ h => h.elim) (by omega) (.cons (c := 18) (by kernel_rfl) (.cons (c := 13) (by kernel_rfl) (.cons (c := 12) (by kernel_rfl) (.cons (c := 11) (by kernel_rfl) (.cons (c := 9) (by kernel_rfl) (.cons (c := 8) (by kernel_rfl) (.cons (c := 7) (by kernel_rfl) (.one (by kernel_rfl))))))))) (by rfl) fun L u W gh hc => ?_
      have hb := hc.before (.inr (.cons (c := 18) (by kernel_rfl) (.cons (c := 13) (by kernel_rfl) (.cons (c := 12) (by kernel_rfl) (.cons (c := 11) (by kernel_rfl) (.cons (c := 9) (by kernel_rfl) (.cons (c := 8) (by kernel_rfl) (.cons (c := 7) (by kernel_rfl) (.one (by kernel_rfl))))))))))
      go_simp
    · refine ksP (fun _ h => h.elim) (by omega) (.cons (c := 18) (by kernel_rfl) (.cons (c := 13) (by kernel_rfl) (.cons (c := 12) (by kernel_rfl) (.cons (c := 11) (by kernel_rfl) (.cons (c := 9) (by kernel_rfl) (.cons (c := 8) (by kernel_rfl) (.one (by kernel_rfl)))))))) (by rfl) fun L u W gh hc => ?_
      have e6 : u 6 = .pointer (some ⟨g, 0, none⟩) := hc.val 6 (by kernel_rfl) (by omega) _ rfl
      have hb := hc.before (.inr (.cons (c := 18) (by kernel_rfl) (.cons (c := 13) (by kernel_rfl) (.cons (c := 12) (by kernel_rfl) (.cons (c := 11) (by kernel_rfl) (.cons (c := 9) (by kernel_rfl) (.cons (c := 8) (by kernel_rfl) (.one (by kernel_rfl)))))))))
      go_simp
    · refine ksP (fun _ h => h.elim) (by omega) (.cons (c := 18) (by kernel_rfl) (.cons (c := 13) (by kernel_rfl) (.cons (c := 12) (by kernel_rfl) (.cons (c := 11) (by kernel_rfl) (.cons (c := 9) (by kernel_rfl) (.one (by kernel_rfl))))))) (by rfl) fun L u W gh hc => ?_
      have e7 : u 7 = .pointer (some ⟨g, 0, none⟩) := hc.val 7 (by kernel_rfl) (by omega) _ rfl
      have hb := hc.before (.inr (.cons (c := 18) (by kernel_rfl) (.cons (c := 13) (by kernel_rfl) (.cons (c := 12) (by kernel_rfl) (.cons (c := 11) (by kernel_rfl) (.cons (c := 9) (by kernel_rfl) (.one (by kernel_rfl))))))))
      go_simp
    · refine ksP (fun _ h => h.elim) (by omega) (.cons (c := 18) (by kernel_rfl) (.cons (c := 13) (by kernel_rfl) (.cons (c := 12) (by kernel_rfl) (.cons (c := 11) (by kernel_rfl) (.one (by kernel_rfl)))))) (by rfl) fun L u W gh hc => ?_
      have e8 : u 8 = .pointer (some ⟨g, 1, none⟩) := hc.val 8 (by kernel_rfl) (by omega) _ rfl
      have hb := hc.before (.inr (.cons (c := 18) (by kernel_rfl) (.cons (c := 13) (by kernel_rfl) (.cons (c := 12) (by kernel_rfl) (.cons (c := 11) (by kernel_rfl) (.one (by kernel_rfl)))))))
      have hc2 := (hb.cell (p := ⟨g, 1, none⟩) HH1.out.lt).trans c1
      go_simp
    · refine ksP (fun _ h => h.elim) (by omega) (.cons (c := 18) (by kernel_rfl) (.cons (c := 13) (by kernel_rfl) (.cons (c := 12) (by kernel_rfl) (.cons (c := 11) (by kernel_rfl) (.one (by kernel_rfl)))))) (by rfl) fun L u W gh hc => ?_
      have hb := hc.before (.inr (.cons (c := 18) (by kernel_rfl) (.cons (c := 13) (by kernel_rfl) (.cons (c := 12) (by kernel_rfl) (.cons (c := 11) (by kernel_rfl) (.one (by kernel_rfl)))))))
      go_simp
    · refine ksP (fun _ h => h.elim) (by omega) (.cons (c := 18) (by kernel_rfl) (.cons (c := 13) (by kernel_rfl) (.cons (c := 12) (by kernel_rfl) (.one (by kernel_rfl))))) (by rfl) fun L u W gh hc => ?_
      have e9 : u 9 = .slice (some ⟨gw, 0, none⟩) d.good.length cw := hc.val 9 (by kernel_rfl) (by omega) _ rfl
      have e10 : u 10 = .int .i64 (k : Int) := hc.val 10 (by kernel_rfl) (by omega) _ rfl
      have hb := hc.before (.inr (.cons (c := 18) (by kernel_rfl) (.cons (c := 13) (by kernel_rfl) (.cons (c := 12) (by kernel_rfl) (.one (by kernel_rfl))))))
      go_simp
      try rw [if_pos (by omega)]
    · refine ksP (fun _ h => h.elim) (by omega) (.cons (c := 18) (by kernel_rfl) (.cons (c := 13) (by kernel_rfl) (.one (by kernel_rfl)))) (by rfl) fun L u W gh hc => ?_
      have e11 : u 11 = .pointer (some ⟨gw, k, none⟩) := hc.val 11 (by kernel_rfl) (by omega) _ rfl
      have hb := hc.before (.inr (.cons (c := 18) (by kernel_rfl) (.cons (c := 13) (by kernel_rfl) (.one (by kernel_rfl)))))
      have hc2 := (hb.cell (p := ⟨gw, k, none⟩) HA4.out.lt).trans cwk
      go_simp
    · refine ksM (fun _ h => h.elim) (by omega) (.cons (c := 18) (by kernel_rfl) (.one (by kernel_rfl))) fun L u W gh hc => ?_
      have t5 := hc.fact 5 (by kernel_rfl) (by omega) (fun t ht => by cases ht; exact hc.free _ (.inl rfl))
      have f5 := hc.foot 5 (by kernel_rfl) (by omega) (fun t ht => by cases ht; exact hc.free _ (.inl rfl))
      have e12 : u 12 = .slice a (d.pend k).length c := hc.val 12 (by kernel_rfl) (by omega) _ rfl
      have hb := hc.before (.inr (.cons (c := 18) (by kernel_rfl) (.one (by kernel_rfl))))
      obtain ⟨v', w', hrun, hf, hP, hS, hlt⟩ := app_res elR t5 (news := ys) (by rw [HR4.out]; omega) HR1.out (fun j z hz => by obtain ⟨b, q, e, _, hcc⟩ := HR5.out j z hz; exact ⟨_, e, by rw [Addr.add_mid, hb.cell (p := ⟨b, q + j, none⟩) (cell_lt hcc)]; exact hcc⟩) HY1.out (by have := HPL.out; unfold maxLen; omega) (by have := HPL.out; omega)
      exact ⟨v', w', fun x => v'.ownBlock = some x, hrun _ _ _ _ rfl rfl (by exact rfl) (by exact e12), hf.mono (fun x hx => .inl ⟨5, by kernel_rfl, by omega, rfl, t5.2 x hx⟩), hP, fun x e => (by cases e), fun x hx => (hS x hx).imp (fun h => ⟨5, by kernel_rfl, by omega, rfl, t5.2 x h⟩) id, hlt⟩
    · refine ksM (fun _ h => h.elim) (by omega) (.cons (c := 18) (by kernel_rfl) (.cons (c := 17) (by kernel_rfl) (.cons (c := 16) (by kernel_rfl) (.one (by kernel_rfl))))) fun L u W gh hc => ?_
      have hb := hc.before (.inr (.cons (c := 18) (by kernel_rfl) (.cons (c := 17) (by kernel_rfl) (.cons (c := 16) (by kernel_rfl) (.one (by kernel_rfl))))))
      exact ⟨_, _, fun x => x = W.heap.size, run_new0 elB rfl, (Fr.refl _ _).alloc _, ⟨own_new (xs := []) (by rfl) (by unfold maxLen; omega), fun x hx => by cases hx; rfl⟩, fun x e => (by cases e), fun x hx => .inr (Nat.le_of_eq hx.symm), fun x hx => by subst hx; simp⟩
    · refine ksP (fun _ h => h.elim) (by omega) (.cons (c := 18) (by kernel_rfl) (.cons (c := 17) (by kernel_rfl) (.cons (c := 16) (by kernel_rfl) (.one (by kernel_rfl))))) (by rfl) fun L u W gh hc => ?_
      have hb := hc.before (.inr (.cons (c := 18) (by kernel_rfl) (.cons (c := 17) (by kernel_rfl) (.cons (c := 16) (by kernel_rfl) (.one (by kernel_rfl))))))
      go_simp
    · refine ksM (fun _ h => h.elim) (by omega) (.cons (c := 18) (by kernel_rfl) (.cons (c := 17) (by kernel_rfl) (.one (by kernel_rfl)))) fun L u W gh hc => ?_
      have t14 := hc.fact 14 (by kernel_rfl) (by omega) (fun t ht => by cases ht; exact hc.free _ (.inl rfl))
      have f14 := hc.foot 14 (by kernel_rfl) (by omega) (fun t ht => by cases ht; exact hc.free _ (.inl rfl))
      have e15 : u 15 = .slice (some ⟨bb, qq, none⟩) 64 cap := hc.val 15 (by kernel_rfl) (by omega) _ rfl
      have hb := hc.before (.inr (.cons (c := 18) (by kernel_rfl) (.cons (c := 17) (by kernel_rfl) (.one (by kernel_rfl)))))
      have hnw := RdB.news (HBR.out.below hb)
      obtain ⟨v', w', hrun, hf, hP, hS, hlt⟩ := app_res elB t14 hnw.1 hnw.2.1 hnw.2.2 (bytes_one x) (by unfold maxLen; omega) (by omega)
      exact ⟨v', w', fun x => v'.ownBlock = some x, hrun _ _ _ _ rfl rfl (by exact rfl) (by exact e15), hf.mono (fun x hx => .inl ⟨14, by kernel_rfl, by omega, rfl, t14.2 x hx⟩), (by rw [HXL.out]; simpa using hP), fun x e => (by cases e), fun x hx => (hS x hx).imp (fun h => ⟨14, by kernel_rfl, by omega, rfl, t14.2 x h⟩) id, hlt⟩
    · refine ksM (fun _ h => h.elim) (by omega) (.cons (c := 18) (by kernel_rfl) (.one (by kernel_rfl))) fun L u W gh hc => ?_
      have t16 := hc.fact 16 (by kernel_rfl) (by omega) (fun t ht => by cases ht; exact hc.free _ (.inl rfl))
      have f16 := hc.foot 16 (by kernel_rfl) (by omega) (fun t ht => by cases ht; exact hc.free _ (.inl rfl))
      have hb := hc.before (.inr (.cons (c := 18) (by kernel_rfl) (.one (by kernel_rfl))))
      obtain ⟨a1, a2⟩ := t16
      obtain ⟨a, c, e5, _⟩ := own_isSlice a1
      have ha := (Fr.refl (fun _ => False) W).alloc (.cells #[u 16] 26)
      refine ⟨_, _, fun x => gh 16 x ∨ x = W.heap.size, run_new1 (v := u 16) elR rfl rfl (by rw [e5]; rfl) (by rw [e5]; rfl), (Fr.refl _ _).alloc _, ⟨u 16, own_new (xs := [u 16]) (by rfl) (by unfold maxLen; omega), fun x hx => (by cases hx; exact .inr rfl), own_frame a1 ha (fun _ _ h => h), fun x hx => .inl (a2 x hx), fun x hx e => ?_⟩, fun x e => (by cases e), fun x hx => ?_, fun x hx => ?_⟩
      · have e2 : W.heap.size = x := Option.some.inj hx
        have := own_ptr a1 _ e; omega
      · rcases hx with h | h
        · exact .inl ⟨16, by kernel_rfl, by omega, rfl, h⟩
        · exact .inr (Nat.le_of_eq h.symm)
      · rcases hx with h | rfl
        · have := (f16 x h).2; simp; omega
        · simp
    · refine ksM (fun _ h => h.elim) (by omega) (.one (by kernel_rfl)) fun L u W gh hc => ?_
      have t13 := hc.fact 13 (by kernel_rfl) (by omega) (fun t ht => by cases ht; exact hc.free _ (.inl rfl))
      have f13 := hc.foot 13 (by kernel_rfl) (by omega) (fun t ht => by cases ht; exact hc.free _ (.inl rfl))
      have t17 := hc.fact 17 (by kernel_rfl) (by omega) (fun t ht => by cases ht; exact hc.free _ (.inl rfl))
      have f17 := hc.foot 17 (by kernel_rfl) (by omega) (fun t ht => by cases ht; exact hc.free _ (.inl rfl))
      have hb := hc.before (.inr (.one (by kernel_rfl)))
      obtain ⟨y, a1, a2, a3, a4, a5⟩ := t17
      obtain ⟨q, c9, e6, hcq⟩ := one_own a1
      obtain ⟨ya, yc, ey, _⟩ := own_isSlice a3
      obtain ⟨v', w', hrun, ho, hf, hv⟩ := run_app elR (w := W) (a := some ⟨q, 0, none⟩) (m := 1) (c := c9) t13.1 (news := [y]) (by rfl) (fun e => by cases e) (fun j z hz => by
        cases j with
        | zero => simp at hz; subst hz; exact ⟨_, rfl, by rw [Addr.add_mid]; exact hcq⟩
        | succ j => simp at hz) (fun z hz => by simp at hz; subst hz; rw [ey]; rfl) (by have := HPL.out; unfold maxLen; omega) (by have := HPL.out; omega)
      have hfoot : ∀ x, gh 17 x → w1.heap.size ≤ x ∧ x < W.heap.size := fun x hx => ⟨(by rcases (f17 x hx).1 with h | ⟨h, _⟩; exact h; exact h.elim), (f17 x hx).2⟩
      have h13 : ∀ x, (u 13).ownBlock = some x → gh 13 x := t13.2
      have hap : ∀ x, gh 13 x → gh 17 x → False := fun x => hc.apart 13 17 x (by kernel_rfl) (by kernel_rfl) (by omega) (by omega) (by omega) (fun t ht => by cases ht; exact hc.free _ (.inl rfl)) (fun t ht => by cases ht; exact hc.free _ (.inl rfl))
      refine ⟨v', w', fun x => v'.ownBlock = some x ∨ gh 17 x, hrun _ _ _ _ rfl rfl (by rfl) (by exact e6), hf.mono (fun x hx => .inl ⟨13, by kernel_rfl, by omega, rfl, h13 x hx⟩), ⟨y, ?_, fun x hx => .inl hx, own_frame a3 hf (fun x hx e => hap x (h13 x e) (a4 x hx)), fun x hx => ⟨.inr (a4 x hx), (hfoot x (a4 x hx)).1⟩, fun x hx e => ?_⟩, fun x e => (by cases e), fun x hx => ?_, fun x hx => ?_⟩
      · rw [HR4.out]; simpa using ho
      · have h2 := hfoot x (a4 x e)
        rcases (hv x hx).1 with h | h
        · exact hap x (h13 x h) (a4 x e)
        · omega
      · rcases hx with h | h
        · rcases (hv x h).1 with h | h
          · exact .inl ⟨13, by kernel_rfl, by omega, rfl, h13 x h⟩
          · exact .inr (Nat.le_of_eq h.symm)
        · exact .inl ⟨17, by kernel_rfl, by omega, rfl, h⟩
      · rcases hx with h | h
        · exact (hv x h).2
        · exact Nat.lt_of_lt_of_le (hfoot x h).2 hf.size
    · refine ksP (fun _ h => h.elim) (by omega) (.one (by kernel_rfl)) (by rfl) fun L u W gh hc => ?_
      have e3 : u 3 = .slice (some ⟨gw, 0, none⟩) d.good.length cw := hc.val 3 (by kernel_rfl) (by omega) _ rfl
      have e4 : u 4 = .int .i64 (k : Int) := hc.val 4 (by kernel_rfl) (by omega) _ rfl
      have hb := hc.before (.inr (.one (by kernel_rfl)))
      go_simp
      try rw [if_pos (by omega)]
    · refine ksL fun L u W gh hc => ?_
      have e19 : u 19 = .pointer (some ⟨gw, k, none⟩) := hc.val 19 (by kernel_rfl) (by omega) _ rfl
      have t18 := hc.fact 18 (by kernel_rfl) (by omega) (fun t ht => by cases ht)
      have f18 := hc.foot 18 (by kernel_rfl) (by omega) (fun t ht => by cases ht)
      have hb := hc.before (.inl rfl)
      obtain ⟨y, a1, a2, a3, a4, a5⟩ := t18
      have hBW := (HA4.out).below (hc.old (hc.free 20 (.inl rfl))) HA4.out.lt
      have hfs : Fr (fun x => x = gw) W (W.setCell ⟨gw, k, none⟩ (u 18)) := (Fr.refl _ _).one _
      obtain ⟨va, vc, ev, _⟩ := own_isSlice a1
      have hfo : ∀ x, gh 18 x → w1.heap.size ≤ x := fun x hx => by rcases (f18 x hx).1 with h | ⟨h, _⟩; exact h; exact h.elim
      have hng : ∀ x, gh 18 x → x ≠ gw := fun x hx => by have := hfo x hx; have := HA4.out.lt; omega
      have hcw : W.cell? ⟨gw, k, none⟩ = some (.slice a (d.pend k).length c) := ((hc.old (hc.free 20 (.inl rfl))).cell (p := ⟨gw, k, none⟩) HA4.out.lt).trans cwk
      refine ⟨_, _, _, run_store1 rfl (by exact e19) (by rfl) hcw (hBW.frozen k) (by rw [ev]; rfl) Try.sizeOf30, .inl ⟨rfl, rfl⟩, u 18, y, ?_, fun x hx => hfo x (a2 x hx), own_frame a3 hfs (fun x hx e => hng x (a4 x hx).1 e), fun x hx => (a4 x hx).2, ?_, (hc.fr.mono (F' := fun x => x = gw) (fun x hx => hx.elim)).trans hfs (fun x hx => .inl hx)⟩
      · exact own_frame a1 hfs (fun x hx e => hng x (a2 x hx) e)
      · have hset := hBW.set k (u 18)
        rw [List.set_append_left _ _ hkl] at hset
        exact hset
  obtain ⟨v, y, p1, p2, p3, p4, p5, p6⟩ := hP
  have HM : Hid (∃ S', Md W6 g (d.begin.put k x) F S' ∧ Fr F w W6 ∧ (∀ y, S' y → S y ∨ w.heap.size ≤ y)) := Lib.hid (by
    have hx := HXP.out
    have hgwS : ∀ q, S q → ¬ (q = gw) := fun q hq e => hd q hq ((hx q).2 (.inr (.inr e)))
    have hs1 := HF1.out.size
    refine ⟨fun q => S q ∨ (w1.heap.size ≤ q ∧ q < W6.heap.size), ⟨Bd.put_ok (Bd.begin_ok HD.out.ok) (by exact HK.out) HXL.out (by have := HD.out.ok.cnt k; exact Nat.lt_succ_of_le this), gg, cg, gw, cw, l, ?_, h2, h3, gv, rg, wv.set k v, rw', p6.blk a1 n3, a2, ?_, p5, by rw [List.length_set]; exact a5, ?_, a7, a8, a9, a10, n1, n2, n3, hx, ?_, ?_⟩, ?_, ?_⟩
    · exact p6.blk HH1.out (fun e => n2 e)
    · intro j z r hz hr
      exact ((a3 j z r hz hr).frame p6 hgwS).mono (fun q h => .inl h)
    · intro j z hz
      rw [List.getElem?_set] at hz
      show RowsS _ W6 z (if j = k then d.pend k ++ [x] else d.pend j)
      by_cases e : k = j
      · subst e
        rw [if_pos rfl, if_pos hkl] at hz
        cases hz
        rw [if_pos rfl]
        exact rows_more r4 r6 p6 hgwS p1 p2 p3 p4
      · rw [if_neg e] at hz
        rw [if_neg (fun h => e h.symm)]
        exact ((a6 j z hz).frame p6 hgwS).mono (fun q h => .inl h)
    · rintro q (h | h)
      · exact hd q h
      · intro hq
        have b1 := h1.lt; have b2 := a1.lt; have b3 := a4.lt
        rcases (hx q).1 hq with rfl | rfl | rfl <;> omega
    · rintro q (h | h)
      · exact Nat.lt_of_lt_of_le (hsl q h) p6.size
      · exact h.2
    · exact (HF1.out.mono (fun q hq => .inl (by cases hq; exact hgF))).trans (p6.mono (fun q hq => .inl ((hx q).2 (.inr (.inr hq))))) (fun q hq => .inl hq)
    · rintro q (h | h)
      · exact .inl h
      · exact .inr (by omega))
  clear p1 p2 p3 p4 p5 p6 h1 a4 r1 r2 r3 r4 r5 r6 a1 a2 a3 a5 a6 hd hsl hbr c1 cwk
  go_wp2
  go_ret
  exact ⟨rfl, HM.out⟩
end Go.Proofs.Ytgehbchaamilhaa
namespace Go.Proofs.Ytgehbchaamilhaa
open Go Go.RowKit Go.Maps
set_option maxRecDepth 100000 in
set_option maxHeartbeats 1000000 in
theorem dWrite_arg {w : World} {g n cap : Nat} {k : Int} {a : Option Addr} {d : Bd} {F S : Nat → Prop} (h : Md w g d F S) (hk : k < 0 ∨ (d.good.length : Int) ≤ k ∨ n ≠ 64) :
    Calls Try.prog 32 #[.pointer (some ⟨g, 0, none⟩), .int .i64 k, .slice a n cap] w fun e w' => e = .returned (.int .i64 1) ∧ w = w' := by
  have c00 : ∃ gg cg, w.cell? ⟨g, 0, none⟩ = some (.slice (some ⟨gg, 0, none⟩) d.good.length cg) := by
    obtain ⟨gg, cg, gw, cw, l, h1, _⟩ := h.ex
    exact ⟨gg, cg, h1.cell 0⟩
  obtain ⟨gg0, cg0, c00⟩ := c00
  by_cases h1 : k < 0
  · have a1 : decide (k < 0) = true := decide_eq_true h1
    clear h hk h1
    go_enter Try.func32, Try.ntmps32
    go_wp2
    go_ret
    exact ⟨rfl, rfl⟩
  · have a1 : decide (k < 0) = false := decide_eq_false h1
    by_cases h2 : (d.good.length : Int) ≤ k
    · have a2 : decide ((d.good.length : Int) ≤ k) = true := decide_eq_true h2
      clear h hk h1 h2
      go_enter Try.func32, Try.ntmps32
      go_wp2
      go_ret
      exact ⟨rfl, rfl⟩
    · have a2 : decide ((d.good.length : Int) ≤ k) = false := decide_eq_false h2
      have a3 : ((n : Int) != 64) = true := by simp; omega
      clear h hk h1 h2
      go_enter Try.func32, Try.ntmps32
      go_wp2
      go_ret
      exact ⟨rfl, rfl⟩
set_option maxRecDepth 100000 in
set_option maxHeartbeats 1000000 in
theorem dWrite_off {w : World} {g k cap : Nat} {a : Option Addr} {d : Bd} {F S : Nat → Prop} (h : Md w g d F S) (hk : k < d.good.length) (ho : d.ops < 1000000) (hl : d.left ≤ 9223372036854775807) (hoff : d.offN = true) :
    Calls Try.prog 32 #[.pointer (some ⟨g, 0, none⟩), .int .i64 (k : Int), .slice a 64 cap] w fun e w' => e = .returned (.int .i64 10) ∧ Md w' g d.begin F S ∧ Fr F w w' := by
  have HD := Lib.hid h
  have HO := Lib.hid ho; have HL := Lib.hid hl
  have k0 : decide ((k : Int) < 0) = false := decide_eq_false (by omega)
  have k1 : decide ((d.good.length : Int) ≤ (k : Int)) = false := decide_eq_false (by omega)
  have k2 : decide (d.good.length ≤ k) = false := decide_eq_false (by omega)
  have HOF := Lib.hid hoff
  have HG : Hid (F g) := Lib.hid (by obtain ⟨gg, cg, gw, cw, l, _, _, _, hR⟩ := h.ex; exact hR.own.1)
  have c00 : ∃ gg cg, w.cell? ⟨g, 0, none⟩ = some (.slice (some ⟨gg, 0, none⟩) d.good.length cg) := by
    obtain ⟨gg, cg, gw, cw, l, h1, _⟩ := h.ex
    exact ⟨gg, cg, h1.cell 0⟩
  obtain ⟨gg0, cg0, c00⟩ := c00
  clear h hk ho hl hoff
  go_enter Try.func32, Try.ntmps32
  go_wp2_with (go_at_call 41; (with_reducible refine (dOp_any HD.out HO.out HL.out).mono ?_); rintro e w1 ⟨rfl, hD1, hf1⟩; rw [HOF.out])
  go_ret
  exact ⟨rfl, hD1, hf1.mono (fun y hy => .inl (by cases hy; exact HG.out))⟩
/-- Write. -/
theorem dWrite_any {w : World} {g n cap : Nat} {k : Int} {a : Option Addr} {x : List UInt8} {d : Bd} {F S : Nat → Prop} (h : Md w g d F S) (hN : d.good.length ≤ 100000) (ho : d.ops < 1000000) (hl : d.left ≤ 9223372036854775807)
    (hb : RdB w a n cap x) (hbF : ∀ p, a = some p → ¬ F p.block) :
    Calls Try.prog 32 #[.pointer (some ⟨g, 0, none⟩), .int .i64 k, .slice a n cap] w fun e w' => e = .returned (.int .i64 (d.writeC k x)) ∧ ∃ S', Md w' g (d.write k x) F S' ∧ Fr F w w' ∧ (∀ y, S' y → S y ∨ w.heap.size ≤ y) := by
  have hlen := hb.hlen
  by_cases hk : k < 0 ∨ (d.good.length : Int) ≤ k ∨ n ≠ 64
  · have hc : k < 0 ∨ (d.good.length : Int) ≤ k ∨ x.length ≠ 64 := by rw [hlen]; exact hk
    refine (dWrite_arg h hk).mono ?_
    rintro e w' ⟨rfl, rfl⟩
    unfold Bd.writeC Bd.write
    rw [if_pos hc, if_pos hc]
    exact ⟨rfl, S, h, Fr.refl _ _, fun y hy => .inl hy⟩
  · have hc : ¬ (k < 0 ∨ (d.good.length : Int) ≤ k ∨ x.length ≠ 64) := by rw [hlen]; exact hk
    unfold Bd.writeC Bd.write
    rw [if_neg hc, if_neg hc]
    obtain ⟨j, rfl⟩ : ∃ j : Nat, k = j := ⟨k.toNat, by omega⟩
    obtain rfl : n = 64 := by omega
    obtain ⟨bb, qq, rfl, _⟩ := hb.get 0 (by omega)
    by_cases hof : d.offN = true
    · rw [hof]
      exact (dWrite_off h (by omega) ho hl hof).mono fun e w' ⟨he, hD, hf⟩ => ⟨he, S, hD, hf, fun y hy => .inl hy⟩
    · have hof : d.offN = false := by simpa using hof
      rw [hof]
      exact dWrite_ok h (by omega) hN ho hl hof hb (hbF _ rfl)
/-- In the midst of a flush: the first j blocks are done. -/
def Bd.flI (d : Bd) (j : Nat) : Bd := { d with good := (List.range d.good.length).map (fun i => if i < j then d.last i else d.good.getD i []), pend := fun i => if i < j then [] else d.pend i }
theorem Bd.flI_len (d : Bd) (j : Nat) : (d.flI j).good.length = d.good.length := by simp [Bd.flI]
theorem Bd.flI_get {d : Bd} {i j : Nat} (h : i < d.good.length) : (d.flI j).good[i]? = some (if i < j then d.last i else d.good.getD i []) := by
  unfold Bd.flI; simp only; rw [List.getElem?_map, List.getElem?_range h]; rfl
theorem Bd.flI_ok {d : Bd} (h : d.Ok) (j : Nat) : (d.flI j).Ok := by
  refine ⟨fun r hr => ?_, fun k r hr => ?_, fun k hk => ?_, h.left, fun k => ?_⟩
  · unfold Bd.flI at hr
    simp only [List.mem_map, List.mem_range] at hr
    obtain ⟨i, hi, rfl⟩ := hr
    split
    · exact Bd.at_len h hi (Nat.le_refl _)
    · exact Bd.at_len (n := 0) h hi (Nat.zero_le _)
  · unfold Bd.flI at hr
    simp only at hr
    split at hr
    · simp at hr
    · exact h.pend k r hr
  · rw [Bd.flI_len] at hk
    unfold Bd.flI; simp only
    split
    · rfl
    · exact h.few k hk
  · unfold Bd.flI; simp only
    split
    · exact Nat.zero_le _
    · exact h.cnt k
theorem Bd.flI_zero (d : Bd) : d.flI 0 = d := by
  have e1 : (List.range d.good.length).map (fun i => if i < 0 then d.last i else d.good.getD i []) = d.good := by
    apply List.ext_getElem?
    intro k
    rcases Nat.lt_or_ge k d.good.length with hk | hk
    · rw [List.getElem?_map, List.getElem?_range hk, List.getElem?_eq_getElem hk]; simp [hk]
    · rw [List.getElem?_eq_none (by simpa using hk), List.getElem?_eq_none hk]
  have e2 : (fun i => if i < 0 then [] else d.pend i) = d.pend := by funext i; simp
  unfold Bd.flI
  rw [e1, e2]
theorem Bd.flI_end {d : Bd} (h : d.Ok) : d.flI d.good.length = d.flushed := by
  have e1 : (List.range d.good.length).map (fun i => if i < d.good.length then d.last i else d.good.getD i []) = (List.range d.good.length).map d.last := by
    apply List.map_congr_left
    intro i hi
    rw [if_pos (List.mem_range.1 hi)]
  have e2 : (fun i => if i < d.good.length then [] else d.pend i) = fun _ => [] := by
    funext i
    split
    · rfl
    · rename_i hi; exact h.few i (by omega)
  unfold Bd.flI Bd.flushed
  rw [e1, e2]
theorem Bd.flI_last {d : Bd} {j : Nat} (hj : j < d.good.length) : (d.flI j).at j ((d.flI j).pend j).length = d.last j := by
  have e1 : (d.flI j).pend j = d.pend j := by unfold Bd.flI; simp
  have e2 : (d.flI j).good.getD j [] = d.good.getD j [] := by rw [List.getD_eq_getElem?_getD, Bd.flI_get hj]; simp
  unfold Bd.last Bd.at
  rw [e1, e2]
theorem Bd.flI_step {d : Bd} {j : Nat} (hj : j < d.good.length) : (d.flI (j + 1)).good = (d.flI j).good.set j (d.last j) ∧ ∀ i, (d.flI (j + 1)).pend i = if i = j then [] else (d.flI j).pend i := by
  constructor
  · apply List.ext_getElem?
    intro i
    rcases Nat.lt_or_ge i d.good.length with hi | hi
    · rw [Bd.flI_get hi, List.getElem?_set]
      by_cases e : j = i
      · subst e
        rw [if_pos (by omega), if_pos rfl, if_pos (by rw [Bd.flI_len]; exact hj)]
      · rw [if_neg e, Bd.flI_get hi]
        by_cases h1 : i < j
        · rw [if_pos (by omega), if_pos h1]
        · rw [if_neg (by omega), if_neg h1]
    · rw [List.getElem?_eq_none (by rw [Bd.flI_len]; exact hi), List.getElem?_eq_none (by rw [List.length_set, Bd.flI_len]; exact hi)]
  · intro i
    unfold Bd.flI; simp only
    by_cases e : i = j
    · rw [if_pos (by omega), if_pos e]
    · rw [if_neg e]
      by_cases h1 : i < j
      · rw [if_pos (by omega), if_pos h1]
      · rw [if_neg (by omega), if_neg h1]
/-- Reads as l, in blocks of S. -/
def rdW (S : Nat → Prop) (l : List UInt8) : WP := ⟨fun v w => RdS S w v l, fun _ _ _ ⟨a, n, c, e, h, hs⟩ hb => ⟨a, n, c, e, h.below hb, hs⟩⟩
set_option maxRecDepth 100000 in
set_option maxHeartbeats 2000000 in
theorem dFlush_on {w : World} {g : Nat} {d : Bd} {F S : Nat → Prop} (h : Md w g d F S) (hN : d.good.length ≤ 100000) (ho : d.ops < 1000000) (hl : d.left ≤ 9223372036854775807) (hoff : d.offN = false) :
    Calls Try.prog 33 #[.pointer (some ⟨g, 0, none⟩)] w fun e w' => e = .returned (.int .i64 0) ∧ Md w' g d.begin.flushed F S ∧ Fr F w w' := by
  have HD := Lib.hid h
  have HN := Lib.hid hN; have HO := Lib.hid ho; have HL := Lib.hid hl
  have HOF := Lib.hid hoff
  have HG : Hid (F g) := Lib.hid (by obtain ⟨gg, cg, gw, cw, l, _, _, _, hR⟩ := h.ex; exact hR.own.1)
  clear h hN ho hl hoff
  go_enter Try.func33, Try.ntmps33
  go_wp2_with (go_at_call 41; (with_reducible refine (dOp_any HD.out HO.out HL.out).mono ?_); rintro e w1 ⟨rfl, hD1, hf1⟩; rw [HOF.out])
  have HOK : Hid d.begin.Ok := Lib.hid hD1.ok
  have HGL : Hid (d.begin.good.length = d.good.length) := Lib.hid rfl
  have HM1 := Lib.hid hD1; have HF1 := Lib.hid (hf1.mono (F' := F) (fun y hy => .inl (by cases hy; exact HG.out)))
  clear hD1 hf1
  obtain ⟨D, hD⟩ : ∃ D, D = d.begin := ⟨_, rfl⟩
  rw [← hD] at HM1 HOK HGL
  have HDD := Lib.hid hD
  clear hD
  go_loopw [3] (fun iv wr => ∃ j : Nat, j ≤ D.good.length ∧ iv = .int .i64 j ∧ Md wr g (D.flI j) F S ∧ Fr F w wr) (fun iv _ => D.good.length - (intOf iv).toNat)
  case atStart => exact ⟨0, Nat.zero_le _, rfl, by rw [Bd.flI_zero]; exact HM1.out, HF1.out⟩
  case round =>
    obtain ⟨j, hj, rfl, hM, hfr⟩ := hrel
    have HM := Lib.hid hM; have HFR := Lib.hid hfr
    obtain ⟨gg, cg, gw, cw, l, h1, h2, h3, hR⟩ := hM.ex
    have c0 : wr.cell? ⟨g, 0, none⟩ = some (.slice (some ⟨gg, 0, none⟩) D.good.length cg) := by have := h1.cell 0; rw [show (mdS gg cg gw cw (D.flI j) l)[0]? = some (.slice (some ⟨gg, 0, none⟩) (D.flI j).good.length cg) from rfl, Bd.flI_len] at this; exact this
    have c1 : wr.cell? ⟨g, 1, none⟩ = some (.slice (some ⟨gw, 0, none⟩) D.good.length cw) := by have := h1.cell 1; rw [show (mdS gg cg gw cw (D.flI j) l)[1]? = some (.slice (some ⟨gw, 0, none⟩) (D.flI j).good.length cw) from rfl, Bd.flI_len] at this; exact this
    have hj8 : (j : Int) ≤ 100000 := by have := HN.out; have := HGL.out; omega
    have hj0 : (0 : Int) ≤ (j : Int) := by omega
    have hjw : IntKind.i64.wrap ((j : Int) + 1) = ((j + 1 : Nat) : Int) := by rw [IntKind.wrap_i64]; omega
    by_cases hlt : j < D.good.length
    · have hj1 : (j : Int) < (D.good.length : Int) := by omega
      obtain ⟨v0, y0, cv, hv, cy, hy⟩ := hR.cells (k := j) (by rw [Bd.flI_len]; exact hlt)
      obtain ⟨gv, rg, wv, rw', a1, a2, a3, a4, a5, a6, a7, a8, a9, a10, n1, n2, n3, hx, hd, hsl⟩ := hR.ex
      obtain ⟨a, c, rfl, _⟩ := hy
      have HH1 := Lib.hid h1; have HA1 := Lib.hid a1; have HA4 := Lib.hid a4
      have HJ : Hid (j < (D.flI j).good.length) := Lib.hid (by rw [Bd.flI_len]; exact hlt)
      have HNL : Hid ((D.flI j).good.length ≤ 100000) := Lib.hid (by rw [Bd.flI_len]; have := HN.out; have := HGL.out; omega)
      have HLA := Lib.hid (Bd.flI_last hlt)
      have HJG : Hid (j < gv.length) := Lib.hid (by rw [a2, Bd.flI_len]; exact hlt)
      have HJW : Hid (j < wv.length) := Lib.hid (by rw [a5, Bd.flI_len]; exact hlt)
      have HLT := Lib.hid hlt
      clear hM hfr hv hlt
      go_upto_region 6 with fail
      refine rgK 17 [(16, 0), (0, 1), (0, 2), (0, 3), (0, 4), (0, 5), (0, 6), (0, 7), (0, 8), (0, 9), (0, 10), (0, 11), (0, 12), (0, 13), (0, 14), (0, 15), (0, 16)] [kn (.pointer (some ⟨g, 0, none⟩)), kn (.pointer (some ⟨g, 0, none⟩)), kn (.pointer (some ⟨g, 0, none⟩)), kn (.slice (some ⟨gg, 0, none⟩) D.good.length cg), kn (.int .i64 (j : Int)), kn (.pointer (some ⟨g, 0, none⟩)), kn (.int .i64 (j : Int)), kn (.pointer (some ⟨g, 0, none⟩)), kn (.pointer (some ⟨g, 0, none⟩)), kn (.pointer (some ⟨g, 1, none⟩)), kn (.slice (some ⟨gw, 0, none⟩) D.good.length cw), kn (.int .i64 (j : Int)), kn (.pointer (some ⟨gw, j, none⟩)), kn (.slice a ((D.flI j).pend j).length c), kn (.int .i64 (((D.flI j).pend j).length : Int)), (rdW S (D.last j)), kn (.pointer (some ⟨gg, j, none⟩))] (fun W => ∃ v, RdS S W v (D.last j) ∧ Blk W gg (gv.set j v ++ rg) 26 ∧ Fr (fun x => x = gg) wr W) ?_ (fun u6 W6 hP _ => ?_)
      · refine ⟨?_, ?_, ?_, ?_, ?_, ?_, ?_, ?_, ?_, ?_, ?_, ?_, ?_, ?_, ?_, ?_, ?_, ?_, trivial⟩
        · refine ktP (by omega) (.cons (c := 16) (by kernel_rfl) (.cons (c := 3) (by kernel_rfl) (.cons (c := 2) (by kernel_rfl) (.cons (c := 1) (by kernel_rfl) (.one (by kernel_rfl)))))) (by rfl) fun u W hb hu => ?_
          go_simp
        · refine ktP (by omega) (.cons (c := 16) (by kernel_rfl) (.cons (c := 3) (by kernel_rfl) (.cons (c := 2) (by kernel_rfl) (.one (by kernel_rfl))))) (by rfl) fun u W hb hu => ?_
          have e0 : u 0 = .pointer (some ⟨g, 0, none⟩) := hu 0 (by kernel_rfl) (by omega)
          go_simp
        · refine ktP (by omega) (.cons (c := 16) (by kernel_rfl) (.cons (c := 3) (by kernel_rfl) (.one (by kernel_rfl)))) (by rfl) fun u W hb hu => ?_
          have e1 : u 1 = .pointer (some ⟨g, 0, none⟩) := hu 1 (by kernel_rfl) (by omega)
          go_simp
        · refine ktP (by omega) (.cons (c := 16) (by kernel_rfl) (.one (by kernel_rfl))) (by rfl) fun u W hb hu => ?_
          have e2 : u 2 = .pointer (some ⟨g, 0, none⟩) := hu 2 (by kernel_rfl) (by omega)
          have hc2 := (hb.cell (p := ⟨g, 0, none⟩) HH1.out.lt).trans c0
          go_simp
        · refine ktP (by omega) (.cons (c := 16) (by kernel_rfl) (.one (by kernel_rfl))) (by rfl) fun u W hb hu => ?_
          go_simp
        · refine ktP (by omega) (.cons (c := 15) (by kernel_rfl) (.one (by kernel_rfl))) (by rfl) fun u W hb hu => ?_
          go_simp
        · refine ktP (by omega) (.cons (c := 15) (by kernel_rfl) (.one (by kernel_rfl))) (by rfl) fun u W hb hu => ?_
          go_simp
        · refine ktP (by omega) (.cons (c := 15) (by kernel_rfl) (.cons (c := 14) (by kernel_rfl) (.cons (c := 13) (by kernel_rfl) (.cons (c := 12) (by kernel_rfl) (.cons (c := 10) (by kernel_rfl) (.cons (c := 9) (by kernel_rfl) (.cons (c := 8) (by kernel_rfl) (.one (by kernel_rfl))))))))) (by rfl) fun u W hb hu => ?_
          go_simp
        · refine ktP (by omega) (.cons (c := 15) (by kernel_rfl) (.cons (c := 14) (by kernel_rfl) (.cons (c := 13) (by kernel_rfl) (.cons (c := 12) (by kernel_rfl) (.cons (c := 10) (by kernel_rfl) (.cons (c := 9) (by kernel_rfl) (.one (by kernel_rfl)))))))) (by rfl) fun u W hb hu => ?_
          have e7 : u 7 = .pointer (some ⟨g, 0, none⟩) := hu 7 (by kernel_rfl) (by omega)
          go_simp
        · refine ktP (by omega) (.cons (c := 15) (by kernel_rfl) (.cons (c := 14) (by kernel_rfl) (.cons (c := 13) (by kernel_rfl) (.cons (c := 12) (by kernel_rfl) (.cons (c := 10) (by kernel_rfl) (.one (by kernel_rfl))))))) (by rfl) fun u W hb hu => ?_
          have e8 : u 8 = .pointer (some ⟨g, 0, none⟩) := hu 8 (by kernel_rfl) (by omega)
          go_simp
        · refine ktP (by omega) (.cons (c := 15) (by kernel_rfl) (.cons (c := 14) (by kernel_rfl) (.cons (c := 13) (by kernel_rfl) (.cons (c := 12) (by kernel_rfl) (.one (by kernel_rfl)))))) (by rfl) fun u W hb hu => ?_
          have e9 : u 9 = .pointer (some ⟨g, 1, none⟩) := hu 9 (by kernel_rfl) (by omega)
          have hc2 := (hb.cell (p := ⟨g, 1, none⟩) HH1.out.lt).trans c1
          go_simp
        · refine ktP (by omega) (.cons (c := 15) (by kernel_rfl) (.cons (c := 14) (by kernel_rfl) (.cons (c := 13) (by kernel_rfl) (.cons (c := 12) (by kernel_rfl) (.one (by kernel_rfl)))))) (by rfl) fun u W hb hu => ?_
          go_simp
        · refine ktP (by omega) (.cons (c := 15) (by kernel_rfl) (.cons (c := 14) (by kernel_rfl) (.cons (c := 13) (by kernel_rfl) (.one (by kernel_rfl))))) (by rfl) fun u W hb hu => ?_
          have e10 : u 10 = .slice (some ⟨gw, 0, none⟩) D.good.length cw := hu 10 (by kernel_rfl) (by omega)
          have e11 : u 11 = .int .i64 (j : Int) := hu 11 (by kernel_rfl) (by omega)
          go_simp
          try rw [if_pos (by omega)]
        · refine ktP (by omega) (.cons (c := 15) (by kernel_rfl) (.cons (c := 14) (by kernel_rfl) (.one (by kernel_rfl)))) (by rfl) fun u W hb hu => ?_
          have e12 : u 12 = .pointer (some ⟨gw, j, none⟩) := hu 12 (by kernel_rfl) (by omega)
          have hc2 := (hb.cell (p := ⟨gw, j, none⟩) HA4.out.lt).trans cy
          go_simp
        · refine ktP (by omega) (.cons (c := 15) (by kernel_rfl) (.one (by kernel_rfl))) (by rfl) fun u W hb hu => ?_
          have e13 : u 13 = .slice a ((D.flI j).pend j).length c := hu 13 (by kernel_rfl) (by omega)
          go_simp
        · refine ktC (by omega) (.one (by kernel_rfl)) fun u W hb hu K hK => ?_
          have e5 : u 5 = .pointer (some ⟨g, 0, none⟩) := hu 5 (by kernel_rfl) (by omega)
          have e6 : u 6 = .int .i64 (j : Int) := hu 6 (by kernel_rfl) (by omega)
          have e14 : u 14 = .int .i64 (((D.flI j).pend j).length : Int) := hu 14 (by kernel_rfl) (by omega)
          go_simp
          go_at_call 36
          (with_reducible refine (dAt_any (HM.out.later hb) HJ.out HNL.out (Nat.le_refl _)).mono ?_); rintro e w6 ⟨rfl, v, rfl, hv⟩
          rw [HLA.out] at hv
          have hk9 := hK.out _ _ (Below.refl _ _) hv
          first | exact hk9 | (simp only [e5, e6, e14] at hk9; exact hk9)
        · refine ktP (by omega) (.one (by kernel_rfl)) (by rfl) fun u W hb hu => ?_
          have e3 : u 3 = .slice (some ⟨gg, 0, none⟩) D.good.length cg := hu 3 (by kernel_rfl) (by omega)
          have e4 : u 4 = .int .i64 (j : Int) := hu 4 (by kernel_rfl) (by omega)
          go_simp
          try rw [if_pos (by omega)]
        · refine ktL fun u W hb hu => ?_
          have e16 : u 16 = .pointer (some ⟨gg, j, none⟩) := hu 16 (by kernel_rfl) (by omega)
          have t15 : (rdW S (D.last j)).P (u 15) W := hu 15 (by kernel_rfl) (by omega)
          obtain ⟨va, vn, vc, ev, hvr, hvs⟩ := t15
          have hBW := HA1.out.below hb HA1.out.lt
          have hcc : W.cell? ⟨gg, j, none⟩ = some v0 := (hb.cell (p := ⟨gg, j, none⟩) HA1.out.lt).trans cv
          have hfs : Fr (fun x => x = gg) W (W.setCell ⟨gg, j, none⟩ (u 15)) := (Fr.refl _ _).one _
          refine ⟨_, run_store1 rfl (by exact e16) (by rfl) hcc (hBW.frozen j) (by rw [ev]; rfl) Try.sizeOf26, u 15, ?_, ?_, (Fr.of_below hb).trans hfs (fun x hx => .inl hx)⟩
          · exact RdS.frame ⟨va, vn, vc, ev, hvr, hvs⟩ hfs (fun q hq e => hd q hq ((hx q).2 (.inr (.inl e))))
          · have hset := hBW.set j (u 15)
            rw [List.set_append_left _ _ HJG.out] at hset
            exact hset
      obtain ⟨v, p1, p2, p3⟩ := hP
      have c1' : W6.cell? ⟨g, 1, none⟩ = some (.slice (some ⟨gw, 0, none⟩) D.good.length cw) := (p3.cell (p := ⟨g, 1, none⟩) HH1.out.lt n1).trans c1
      have hB4 := p3.blk HA4.out (fun e => n3 e.symm)
      have cy' : W6.cell? ⟨gw, j, none⟩ = some (.slice a ((D.flI j).pend j).length c) := (p3.cell (p := ⟨gw, j, none⟩) HA4.out.lt (fun e => n3 e.symm)).trans cy
      have cf' := hB4.frozen
      have HM2 : Hid (∀ W, W = W6.setCell ⟨gw, j, none⟩ (.slice none 0 0) → Md W g (D.flI (j + 1)) F S ∧ Fr F w W) := Lib.hid (by
        rintro W rfl
        obtain ⟨e1, e2⟩ := Bd.flI_step HLT.out
        have hgwS : ∀ q, S q → ¬ (q = gw) := fun q hq e => hd q hq ((hx q).2 (.inr (.inr e)))
        have hggS : ∀ q, S q → ¬ (q = gg) := fun q hq e => hd q hq ((hx q).2 (.inr (.inl e)))
        have hf2 : Fr (fun x => x = gw) W6 (W6.setCell ⟨gw, j, none⟩ (.slice none 0 0)) := (Fr.refl _ _).one _
        refine ⟨⟨Bd.flI_ok HOK.out _, gg, cg, gw, cw, l, ?_, h2, h3, gv.set j v, rg, wv.set j (.slice none 0 0), rw', ?_, ?_, ?_, ?_, ?_, ?_, ?_, a8, ?_, a10, n1, n2, n3, hx, hd, fun x hx => Nat.lt_of_lt_of_le (hsl x hx) (Nat.le_trans p3.size hf2.size)⟩, ?_⟩
        · have hb := hf2.blk (p3.blk HH1.out n1) n2
          have e : mdS gg cg gw cw (D.flI (j + 1)) l = mdS gg cg gw cw (D.flI j) l := by unfold mdS; rw [Bd.flI_len, Bd.flI_len]; rfl
          rw [e]; exact hb
        · exact hf2.blk p2 n3
        · rw [List.length_set, a2, Bd.flI_len, Bd.flI_len]
        · intro k z r hz hr
          rw [e1] at hr
          rw [List.getElem?_set] at hz hr
          by_cases e : j = k
          · subst e
            rw [if_pos rfl, if_pos HJG.out] at hz
            rw [if_pos rfl, if_pos HJ.out] at hr
            cases hz; cases hr
            exact p1.frame hf2 hgwS
          · rw [if_neg e] at hz hr
            exact ((a3 k z r hz hr).frame p3 hggS).frame hf2 hgwS
        · have hset := hB4.set j (.slice none 0 0)
          rw [List.set_append_left _ _ HJW.out] at hset
          exact hset
        · rw [List.length_set, a5, Bd.flI_len, Bd.flI_len]
        · intro k z hz
          rw [e2]
          rw [List.getElem?_set] at hz
          by_cases e : j = k
          · subst e
            rw [if_pos rfl, if_pos HJW.out] at hz
            cases hz
            rw [if_pos rfl]
            exact RowsS.nil _ _
          · rw [if_neg e] at hz
            rw [if_neg (fun h => e h.symm)]
            exact ((a6 k z hz).frame p3 hggS).frame hf2 hgwS
        · rw [Bd.flI_len]; rw [Bd.flI_len] at a7; exact a7
        · rw [Bd.flI_len]; rw [Bd.flI_len] at a9; exact a9
        · exact (HFR.out.trans (p3.mono (F' := F) (fun q hq => .inl ((hx q).2 (.inr (.inl hq))))) (fun q hq => .inl hq)).trans (hf2.mono (F' := F) (fun q hq => .inl ((hx q).2 (.inr (.inr hq))))) (fun q hq => .inl hq))
      clear h1 h2 h3 hR a1 a2 a3 a4 a5 a6 a7 a8 a9 a10 n1 n2 n3 hx hd hsl p1 p2 p3 hB4 cv cy c0 c1
      go_wp2
      go_roundw
      case rel => first | exact ⟨j + 1, by have := HLT.out; omega, by go_num, HM2.out _ rfl⟩ | ((repeat apply Exists.intro); exact ⟨⟨j + 1, by have := HLT.out; omega, by go_num, HM2.out _ rfl⟩, rfl⟩)
      case measure => have := HLT.out; simp [intOf]; omega
    · obtain rfl : j = D.good.length := by omega
      clear hM h1 h2 h3 hR hfr
      go_wp2
      go_ret
      refine ⟨rfl, ?_, HFR.out⟩
      have := HM.out
      rw [Bd.flI_end HOK.out, HDD.out] at this
      exact this
set_option maxRecDepth 100000 in
set_option maxHeartbeats 1000000 in
theorem dFlush_off {w : World} {g : Nat} {d : Bd} {F S : Nat → Prop} (h : Md w g d F S) (ho : d.ops < 1000000) (hl : d.left ≤ 9223372036854775807) (hoff : d.offN = true) :
    Calls Try.prog 33 #[.pointer (some ⟨g, 0, none⟩)] w fun e w' => e = .returned (.int .i64 10) ∧ Md w' g d.begin F S ∧ Fr F w w' := by
  have HD := Lib.hid h
  have HO := Lib.hid ho; have HL := Lib.hid hl
  have HOF := Lib.hid hoff
  have HG : Hid (F g) := Lib.hid (by obtain ⟨gg, cg, gw, cw, l, _, _, _, hR⟩ := h.ex; exact hR.own.1)
  clear h ho hl hoff
  go_enter Try.func33, Try.ntmps33
  go_wp2_with (go_at_call 41; (with_reducible refine (dOp_any HD.out HO.out HL.out).mono ?_); rintro e w1 ⟨rfl, hD1, hf1⟩; rw [HOF.out])
  go_ret
  exact ⟨rfl, hD1, hf1.mono (fun y hy => .inl (by cases hy; exact HG.out))⟩
/-- Flush. -/
theorem dFlush_any {w : World} {g : Nat} {d : Bd} {F S : Nat → Prop} (h : Md w g d F S) (hN : d.good.length ≤ 100000) (ho : d.ops < 1000000) (hl : d.left ≤ 9223372036854775807) :
    Calls Try.prog 33 #[.pointer (some ⟨g, 0, none⟩)] w fun e w' => e = .returned (.int .i64 d.flushC) ∧ Md w' g d.flush F S ∧ Fr F w w' := by
  unfold Bd.flushC Bd.flush
  by_cases hof : d.offN = true
  · rw [hof]; exact dFlush_off h ho hl hof
  · have hof : d.offN = false := by simpa using hof
    rw [hof]; exact dFlush_on h hN ho hl hof
end Go.Proofs.Ytgehbchaamilhaa
namespace Go.Proofs.Ytgehbchaamilhaa
open Go Go.RowKit Go.Maps
/-- In the midst of a crash: the first k blocks are as it leaves them. -/
def Bd.cN (d : Bd) (picks : List Int) (k : Nat) : Bd := { Bd.new d.good.length with good := (List.range d.good.length).map fun i => if i < k then d.crashAt picks i else zero64 }
theorem Bd.cN_len (d : Bd) (picks : List Int) (k : Nat) : (d.cN picks k).good.length = d.good.length := by simp [Bd.cN]
theorem Bd.cN_get {d : Bd} {picks : List Int} {i k : Nat} (h : i < d.good.length) : (d.cN picks k).good[i]? = some (if i < k then d.crashAt picks i else zero64) := by
  unfold Bd.cN; simp only; rw [List.getElem?_map, List.getElem?_range h]; rfl
theorem Bd.cN_zero (d : Bd) (picks : List Int) : d.cN picks 0 = Bd.new d.good.length := by
  have e : (List.range d.good.length).map (fun i => if i < 0 then d.crashAt picks i else zero64) = List.replicate d.good.length zero64 := by
    apply List.ext_getElem?
    intro i
    rcases Nat.lt_or_ge i d.good.length with hi | hi
    · rw [List.getElem?_map, List.getElem?_range hi]; simp [hi]
    · rw [List.getElem?_eq_none (by simpa using hi), List.getElem?_eq_none (by simpa using hi)]
  unfold Bd.cN
  rw [e]; rfl
theorem Bd.cN_end (d : Bd) (picks : List Int) : d.cN picks d.good.length = d.crash picks := by
  have e : (List.range d.good.length).map (fun i => if i < d.good.length then d.crashAt picks i else zero64) = (List.range d.good.length).map (d.crashAt picks) := by
    apply List.map_congr_left
    intro i hi
    rw [if_pos (List.mem_range.1 hi)]
  unfold Bd.cN Bd.crash
  rw [e]
theorem Bd.cN_step {d : Bd} {picks : List Int} {k : Nat} (hk : k < d.good.length) : (d.cN picks (k + 1)).good = (d.cN picks k).good.set k (d.crashAt picks k) := by
  apply List.ext_getElem?
  intro i
  rcases Nat.lt_or_ge i d.good.length with hi | hi
  · rw [Bd.cN_get hi, List.getElem?_set]
    by_cases e : k = i
    · subst e
      rw [if_pos (by omega), if_pos rfl, if_pos (by rw [Bd.cN_len]; exact hk)]
    · rw [if_neg e, Bd.cN_get hi]
      by_cases h1 : i < k
      · rw [if_pos (by omega), if_pos h1]
      · rw [if_neg (by omega), if_neg h1]
  · rw [List.getElem?_eq_none (by rw [Bd.cN_len]; exact hi), List.getElem?_eq_none (by rw [List.length_set, Bd.cN_len]; exact hi)]
theorem Bd.cN_ok {d : Bd} (h : d.Ok) (picks : List Int) (k : Nat) : (d.cN picks k).Ok := by
  refine ⟨fun r hr => ?_, fun k r hr => by simp [Bd.cN, Bd.new] at hr, fun _ _ => rfl, Int.le_refl _, fun _ => Nat.zero_le _⟩
  unfold Bd.cN at hr
  simp only [List.mem_map, List.mem_range] at hr
  obtain ⟨i, hi, rfl⟩ := hr
  split
  · exact (Bd.crash_ok h picks).rows _ (by unfold Bd.crash; simp only [List.mem_map, List.mem_range]; exact ⟨i, hi, rfl⟩)
  · rfl
/-- Reads as l, in old blocks. -/
def rdSF {Z : Nat → Prop} (S : Nat → Prop) (hS : ∀ x, S x → ¬ Z x) (l : List UInt8) : FP Z := ⟨none, fun _ v w => RdS S w v l, fun _ _ _ _ h hf => h.frame hf (fun x hx hz => hS x hx hz.1)⟩
theorem own_slot {w : World} {v : Value} {l : List UInt8} (h : w.ownsRow 0 5 1 v l.length (l.map bV)) (h0 : 0 < l.length) : ∃ q c r, v = .slice (some ⟨q, 0, none⟩) l.length c ∧ Blk w q (l.map bV ++ r) 5 ∧ l.length ≤ c ∧ c ≤ maxLen := by
  rcases h.2 with ⟨_, hn⟩ | ⟨g, cap, cur, rfl, _, hg, h1, h2, h3, h4⟩
  · omega
  · refine ⟨g, cap, cur.toList.drop l.length, rfl, ?_, h1, h2⟩
    rw [Nat.mul_one] at h4
    unfold Blk
    rw [← h4, List.take_append_drop]; exact hg
theorem run_copy_32 {ev : Operand → Value} {o : Oper} {a b : Operand} {w : World} {g c s q c2 : Nat} {x y : List UInt8} {r : List Value} (ho : o.op = .call { callee := .builtin .copy, args := #[a, b], argTypes := #[26, 26] })
    (ha : ev a = .slice (some ⟨g, 0, none⟩) 64 c) (hb : ev b = .slice (some ⟨s, q, none⟩) 32 c2) (hB : Blk w g (x.map bV ++ r) 5) (hx : x.length = 64) (hr : w.rangeAt s q (y.map bV)) (hy : y.length = 64) :
    (execOp ev o).run Try.prog w = .ok (.value (goInt 32)) (w.setCells g 0 ((y.take 32).map bV)) := by
  have hl : ((y.take 32).map bV).length = 32 := by simp [hy]
  have h := run_copy_cells (P := Try.prog) w 26 26 o.type 5 g 0 64 c ⟨s, q, none⟩ 32 c2 ((y.take 32).map bV) Try.underlying26 info8 hl
    (fun j v hv => by
      rw [Addr.add_mid]
      have hj := (List.getElem?_eq_some_iff.1 hv).1
      rw [hl] at hj
      rw [List.map_take, List.getElem?_take, if_pos hj] at hv
      exact hr j v hv)
    (fun j hj => by rw [Nat.zero_add, hB.cell, List.getElem?_append_left (by rw [List.length_map, hx]; omega), List.getElem?_eq_getElem (by rw [List.length_map, hx]; omega)]; rfl) (fun j _ => hB.frozen _) (fun v hv => by rw [List.mem_map] at hv; obtain ⟨c, _, rfl⟩ := hv; rfl)
  rw [hl] at h
  unfold execOp
  simp only [ho, ha, hb, resolve, invoke, builtin, Sem.run_bind, Sem.run_pure, Result.andThen_ok, List.map_toArray, List.map_cons, List.map_nil, h]
  rfl
theorem half_over {w : World} {g : Nat} {x y : List UInt8} {r : List Value} (h : Blk w g (x.map bV ++ r) 5) (hx : x.length = 64) (hy : y.length = 64) : Blk (w.setCells g 0 ((y.take 32).map bV)) g ((y.take 32 ++ x.drop 32).map bV ++ r) 5 := by
  have e0 : Blk w g ([] ++ ((x.take 32).map bV ++ ((x.drop 32).map bV ++ r))) 5 := by rw [List.nil_append, ← List.append_assoc, ← List.map_append, List.take_append_drop]; exact h
  have := setCells_half ((y.take 32).map bV) [] _ _ w (by simp [hx, hy]) e0
  rw [List.map_append, List.append_assoc]
  exact this
theorem pick_plus {pick : Int} {n : Nat} (h : ¬ pick.tmod (2 * (n : Int) + 1) < 0) : pick.tmod (2 * (n : Int) + 1) = ((pick % ((2 * n + 1 : Nat) : Int)).toNat : Int) := by
  have e : (2 * (n : Int) + 1) = ((2 * n + 1 : Nat) : Int) := by omega
  rw [e] at h ⊢
  rw [Int.toNat_of_nonneg (Int.emod_nonneg _ (by omega))]
  have h1 := Int.tmod_eq_emod (a := pick) (b := ((2 * n + 1 : Nat) : Int))
  have h2 := Int.emod_lt_of_pos pick (show (0 : Int) < ((2 * n + 1 : Nat) : Int) by omega)
  generalize pick % ((2 * n + 1 : Nat) : Int) = r at *
  generalize pick.tmod ((2 * n + 1 : Nat) : Int) = t at *
  split at h1 <;> omega
theorem pick_minus {pick : Int} {n : Nat} (hn : n < 1000000) (h : pick.tmod (2 * (n : Int) + 1) < 0) : wrap64 (wrap64 (pick.tmod (2 * (n : Int) + 1) + 2 * (n : Int)) + 1) = ((pick % ((2 * n + 1 : Nat) : Int)).toNat : Int) := by
  have e : (2 * (n : Int) + 1) = ((2 * n + 1 : Nat) : Int) := by omega
  rw [e] at h ⊢
  rw [Int.toNat_of_nonneg (Int.emod_nonneg _ (by omega))]
  have h1 := Int.tmod_eq_emod (a := pick) (b := ((2 * n + 1 : Nat) : Int))
  have h2 := Int.emod_nonneg pick (show ((2 * n + 1 : Nat) : Int) ≠ 0 by omega)
  have h3 := Int.emod_lt_of_pos pick (show (0 : Int) < ((2 * n + 1 : Nat) : Int) by omega)
  generalize pick % ((2 * n + 1 : Nat) : Int) = r at *
  generalize pick.tmod ((2 * n + 1 : Nat) : Int) = t at *
  split at h1
  · omega
  · have h4 : t = r - ((2 * n + 1 : Nat) : Int) := by omega
    clear h1
    unfold wrap64; omega
set_option maxRecDepth 100000 in
set_option maxHeartbeats 4000000 in
theorem dCrash_any {w : World} {g np capp : Nat} {pa : Option Addr} {picks : List Int} {d : Bd} {F S : Nat → Prop} (h : Md w g d F S) (h0 : 0 < d.good.length) (hN : d.good.length ≤ 1000) (ho : d.ops < 1000000) (hp : RdI w pa np capp picks) :
    Calls Try.prog 19 #[.pointer (some ⟨g, 0, none⟩), .slice pa np capp] w fun e w' => ∃ g' F' S', e = .returned (.pointer (some ⟨g', 0, none⟩)) ∧ Md w' g' (d.crash picks) F' S' ∧ (∀ x, F' x → w.heap.size ≤ x) ∧ (∀ x, S' x → w.heap.size ≤ x) ∧ Below w.heap.size w w' := by
  have HD := Lib.hid h
  have H0 := Lib.hid h0; have H1 := Lib.hid hN; have HN : Hid (d.good.length ≤ 100000) := Lib.hid (by omega); have HO := Lib.hid ho; have HPI := Lib.hid hp
  obtain ⟨gg, cg, gw, cw, l, h1, _, _, _⟩ := h.ex
  have c0 : w.cell? ⟨g, 0, none⟩ = some (.slice (some ⟨gg, 0, none⟩) d.good.length cg) := h1.cell 0
  have HGL := Lib.hid h1.lt
  have C0 := Lib.hid c0
  clear h h0 hN ho hp h1
  go_enter Try.func19, Try.ntmps19
  go_wp2_with (go_at_call 16; (with_reducible refine (dNew_any H0.out H1.out).mono ?_); rintro e w1 ⟨gx, Fx, Sx, rfl, hDn, hFn, hSn, hb1⟩)
  have HMX := Lib.hid hDn; have HFX := Lib.hid hFn; have HSX := Lib.hid hSn; have HB1 := Lib.hid hb1
  clear hDn hFn hSn hb1 c0
  go_loopw [7, 8] (fun nv kv wr => ∃ (k : Nat) (Sx : Nat → Prop), k ≤ d.good.length ∧ kv = .int .i64 k ∧ nv = .int .i64 (d.before k : Nat) ∧ Md wr gx (d.cN picks k) Fx Sx ∧ (∀ x, Sx x → w.heap.size ≤ x) ∧ Below w.heap.size w wr) (fun _ kv _ => d.good.length - (intOf kv).toNat)
  case atStart => exact ⟨0, Sx, by omega, rfl, rfl, by rw [Bd.cN_zero]; exact HMX.out, HSX.out, HB1.out⟩
  case round =>
    clear HSX HMX
    obtain ⟨k, Sx, hk, rfl, rfl, hMx, hSx, hbw⟩ := hrel
    have HMX := Lib.hid hMx; have HSX := Lib.hid hSx; have HBW := Lib.hid hbw
    have hM := HD.out.later hbw
    have HM := Lib.hid hM
    have c0 : wr.cell? ⟨g, 0, none⟩ = some (.slice (some ⟨gg, 0, none⟩) d.good.length cg) := (hbw.cell (p := ⟨g, 0, none⟩) HGL.out).trans C0.out
    have hk8 : (k : Int) ≤ 1000 := by have := H1.out; omega
    have hk0 : (0 : Int) ≤ (k : Int) := by omega
    have hkw : IntKind.i64.wrap ((k : Int) + 1) = ((k + 1 : Nat) : Int) := by rw [IntKind.wrap_i64]; omega
    by_cases hlt : k < d.good.length
    · have hk1 : (k : Int) < (d.good.length : Int) := by omega
      obtain ⟨gg2, cg2, gw, cw, l, h1, _, _, hR⟩ := hM.ex
      have c1 : wr.cell? ⟨g, 1, none⟩ = some (.slice (some ⟨gw, 0, none⟩) d.good.length cw) := h1.cell 1
      have HGWF : Hid (gw < w.heap.size) := Lib.hid (by
        obtain ⟨gg3, cg3, gw3, cw3, l3, h13, _, _, hR3⟩ := HD.out.ex
        obtain ⟨_, _, _, _, _, _, _, a4, _⟩ := hR3.ex
        have e := h13.cell 1
        rw [← hbw.cell (p := ⟨g, 1, none⟩) HGL.out, c1] at e
        cases e
        exact a4.lt)
      have HGW : Hid (gw < wr.heap.size) := Lib.hid (by obtain ⟨gv, rg, wv, rw', _, _, _, a4, _⟩ := hR.ex; exact a4.lt)
      obtain ⟨v0, y0, _, _, cy, hy⟩ := hR.cells hlt
      obtain ⟨a, c, rfl, b0, b1, b2, ys, b3, b4, b5⟩ := hy
      have HB4 := Lib.hid b4; have HB5 := Lib.hid b5; have HYL := Lib.hid b3
      have HLT := Lib.hid hlt; have HH1 := Lib.hid h1
      have hcnt : (d.pend k).length < 1000000 := by have := HD.out.ok.cnt k; have := HO.out; omega
      have HCNT := Lib.hid hcnt
      have hbm : (d.before k : Int) ≤ 1000 := by
        have h1 := d.before_mono (Nat.le_of_lt hlt)
        have h2 := d.keys_few
        rw [Bd.keys_len] at h2
        have := H1.out
        omega
      have hb0 : (0 : Int) ≤ (d.before k : Int) := by omega
      have hbw2 : IntKind.i64.wrap ((d.before k : Int) + 1) = ((d.before k + 1 : Nat) : Int) := by rw [IntKind.wrap_i64]; omega
      clear hMx hSx hbw hM hR h1 b0 b1 b2 b3 b4 b5 hlt
      by_cases hw0 : d.pend k = []
      · obtain ⟨p, hp⟩ : ∃ p : Nat, p = 0 := ⟨_, rfl⟩
        have hR : d.crashAt picks k = d.crashRow k p := by unfold Bd.crashAt; rw [if_pos (.inl hw0), hp]; rfl
        have hPL : p ≤ 2 * (d.pend k).length := by omega
        have hbn : d.before (k + 1) = d.before k := by rw [Bd.before, if_pos hw0]; rfl
        have hl0 : (d.pend k).length = 0 := by rw [hw0]; rfl
        have z1 : decide ((0 : Int) < ((d.pend k).length : Int)) = false := decide_eq_false (by omega)
        have z2 : decide (0 < (d.pend k).length) = false := decide_eq_false (by omega)
        go_upto_region 14 with fail
        clear z1 z2 hl0 hw0
        rw [show (Value.int IntKind.i64 0 : Value) = .int .i64 ((p : Nat) : Int) by rw [hp]; rfl]
        have HR := Lib.hid hR; have HPL := Lib.hid hPL; have HBN := Lib.hid hbn; have HP0 := Lib.hid hp
        clear hR hPL hbn hp
        obtain ⟨gg9, cg9, gw9, cw9, l9, x1, x2, x3, xR⟩ := HMX.out.ex
        obtain ⟨gvx, rgx, wvx, rwx, xa1, xa2, xa3, xa4, xa5, xa6, xa7, xa8, xa9, xa10, xn1, xn2, xn3, xx, xd, xsl⟩ := xR.ex
        have cx0 : wr.cell? ⟨gx, 0, none⟩ = some (.slice (some ⟨gg9, 0, none⟩) d.good.length cg9) := by have := x1.cell 0; rw [show (mdS gg9 cg9 gw9 cw9 (d.cN picks k) l9)[0]? = some (.slice (some ⟨gg9, 0, none⟩) (d.cN picks k).good.length cg9) from rfl, Bd.cN_len] at this; exact this
        have HX1 := Lib.hid x1; have HXA := Lib.hid xa1
        have HKX : Hid (k < gvx.length) := Lib.hid (by rw [xa2, Bd.cN_len]; exact HLT.out)
        have HSL : Hid (∀ x, S x → ¬ zone (fun _ => False) wr.heap.size x) := Lib.hid (fun x hx hz => by rcases hz with h | h; exact h; have := HM.out.lt.2.1 x hx; omega)
        obtain ⟨m, hm⟩ : ∃ m, m = p / 2 := ⟨_, rfl⟩
        have HMP := Lib.hid hm
        obtain ⟨r0, hr0⟩ : ∃ r0, r0 = d.at k m := ⟨_, rfl⟩
        have HR0 := Lib.hid hr0
        have HR64 : Hid (r0.length = 64) := Lib.hid (by rw [hr0, hm]; exact Bd.at_len HD.out.ok HLT.out (by have := HPL.out; omega))
        have hpw : IntKind.i64.wrap ((p : Int) / 2) = (m : Int) := by rw [IntKind.wrap_i64]; have := HPL.out; have := HCNT.out; omega
        have HXX := Lib.hid xx
        clear hr0 hm x1 xa1 xR
        refine rgS 13 13 (fun _ => False) [(66, 0), (0, 1), (0, 2), (0, 3), (0, 4), (0, 5), (0, 6), (0, 7), (0, 8), (0, 9), (0, 10), (0, 11), (0, 12)] [kv (.pointer (some ⟨gx, 0, none⟩)), kv (.pointer (some ⟨gx, 0, none⟩)), kv (.pointer (some ⟨gx, 0, none⟩)), kv (.slice (some ⟨gg9, 0, none⟩) d.good.length cg9), kv (.int .i64 (k : Int)), (owF 5 1 0 []), kv (.pointer (some ⟨g, 0, none⟩)), kv (.int .i64 (k : Int)), kv (.int .i64 (p : Int)), kv (.int .i64 (m : Int)), (rdSF S HSL.out r0), (owF 5 1 r0.length (r0.map bV)), kv (.pointer (some ⟨gg9, k, none⟩))] [none, none, none, none, none, some 11, none, none, none, none, none, none, none] (fun W => ∃ (v : Value) (q cq : Nat) (rq : List Value), v = .slice (some ⟨q, 0, none⟩) 64 cq ∧ Blk W q (r0.map bV ++ rq) 5 ∧ wr.heap.size ≤ q ∧ Blk W gg9 (gvx.set k (.slice (some ⟨q, 0, none⟩) 64 cq) ++ rgx) 26 ∧ Fr (fun x => x = gg9) wr W ∧ 64 ≤ cq ∧ cq ≤ maxLen) ?_ (fun u6 W6 hP hv => ?_)
        · refine ⟨?_, ?_, ?_, ?_, ?_, ?_, ?_, ?_, ?_, ?_, ?_, ?_, ?_, ?_, trivial⟩
          · refine ksP (fun _ h => h.elim) (by omega) (.cons (c := 12) (by kernel_rfl) (.cons (c := 3) (by kernel_rfl) (.cons (c := 2) (by kernel_rfl) (.cons (c := 1) (by kernel_rfl) (.one (by kernel_rfl)))))) (by rfl) fun L u W gh hc => ?_
            have hb := hc.before (.inr (.cons (c := 12) (by kernel_rfl) (.cons (c := 3) (by kernel_rfl) (.cons (c := 2) (by kernel_rfl) (.cons (c := 1) (by kernel_rfl) (.one (by kernel_rfl)))))))
            go_simp
          · refine ksP (fun _ h => h.elim) (by omega) (.cons (c := 12) (by kernel_rfl) (.cons (c := 3) (by kernel_rfl) (.cons (c := 2) (by kernel_rfl) (.one (by kernel_rfl))))) (by rfl) fun L u W gh hc => ?_
            have e0 : u 0 = .pointer (some ⟨gx, 0, none⟩) := hc.val 0 (by kernel_rfl) (by omega) _ rfl
            have hb := hc.before (.inr (.cons (c := 12) (by kernel_rfl) (.cons (c := 3) (by kernel_rfl) (.cons (c := 2) (by kernel_rfl) (.one (by kernel_rfl))))))
            go_simp
          · refine ksP (fun _ h => h.elim) (by omega) (.cons (c := 12) (by kernel_rfl) (.cons (c := 3) (by kernel_rfl) (.one (by kernel_rfl)))) (by rfl) fun L u W gh hc => ?_
            have e1 : u 1 = .pointer (some ⟨gx, 0, none⟩) := hc.val 1 (by kernel_rfl) (by omega) _ rfl
            have hb := hc.before (.inr (.cons (c := 12) (by kernel_rfl) (.cons (c := 3) (by kernel_rfl) (.one (by kernel_rfl)))))
            go_simp
          · refine ksP (fun _ h => h.elim) (by omega) (.cons (c := 12) (by kernel_rfl) (.one (by kernel_rfl))) (by rfl) fun L u W gh hc => ?_
            have e2 : u 2 = .pointer (some ⟨gx, 0, none⟩) := hc.val 2 (by kernel_rfl) (by omega) _ rfl
            have hb := hc.before (.inr (.cons (c := 12) (by kernel_rfl) (.one (by kernel_rfl))))
            have hc2 := (hb.cell (p := ⟨gx, 0, none⟩) HX1.out.lt).trans cx0
            go_simp
          · refine ksP (fun _ h => h.elim) (by omega) (.cons (c := 12) (by kernel_rfl) (.one (by kernel_rfl))) (by rfl) fun L u W gh hc => ?_
            have hb := hc.before (.inr (.cons (c := 12) (by kernel_rfl) (.one (by kernel_rfl))))
            go_simp
          · refine ksM (fun _ h => h.elim) (by omega) (.cons (c := 11) (by kernel_rfl) (.one (by kernel_rfl))) fun L u W gh hc => ?_
            have hb := hc.before (.inr (.cons (c := 11) (by kernel_rfl) (.one (by kernel_rfl))))
            exact ⟨_, _, fun x => x = W.heap.size, run_new0 elB rfl, (Fr.refl _ _).alloc _, ⟨own_new (xs := []) (by rfl) (by unfold maxLen; omega), fun x hx => by cases hx; rfl⟩, fun x e => (by cases e), fun x hx => .inr (Nat.le_of_eq hx.symm), fun x hx => by subst hx; simp⟩
          · refine ksP (fun _ h => h.elim) (by omega) (.cons (c := 11) (by kernel_rfl) (.cons (c := 10) (by kernel_rfl) (.one (by kernel_rfl)))) (by rfl) fun L u W gh hc => ?_
            have hb := hc.before (.inr (.cons (c := 11) (by kernel_rfl) (.cons (c := 10) (by kernel_rfl) (.one (by kernel_rfl)))))
            go_simp
          · refine ksP (fun _ h => h.elim) (by omega) (.cons (c := 11) (by kernel_rfl) (.cons (c := 10) (by kernel_rfl) (.one (by kernel_rfl)))) (by rfl) fun L u W gh hc => ?_
            have hb := hc.before (.inr (.cons (c := 11) (by kernel_rfl) (.cons (c := 10) (by kernel_rfl) (.one (by kernel_rfl)))))
            go_simp
          · refine ksP (fun _ h => h.elim) (by omega) (.cons (c := 11) (by kernel_rfl) (.cons (c := 10) (by kernel_rfl) (.cons (c := 9) (by kernel_rfl) (.one (by kernel_rfl))))) (by rfl) fun L u W gh hc => ?_
            have hb := hc.before (.inr (.cons (c := 11) (by kernel_rfl) (.cons (c := 10) (by kernel_rfl) (.cons (c := 9) (by kernel_rfl) (.one (by kernel_rfl))))))
            go_simp
          · refine ksP (fun _ h => h.elim) (by omega) (.cons (c := 11) (by kernel_rfl) (.cons (c := 10) (by kernel_rfl) (.one (by kernel_rfl)))) (by rfl) fun L u W gh hc => ?_
            have e8 : u 8 = .int .i64 (p : Int) := hc.val 8 (by kernel_rfl) (by omega) _ rfl
            have hb := hc.before (.inr (.cons (c := 11) (by kernel_rfl) (.cons (c := 10) (by kernel_rfl) (.one (by kernel_rfl)))))
            go_simp
            try exact hpw
          · refine ksC (fun _ h => h.elim) (by omega) (.cons (c := 11) (by kernel_rfl) (.one (by kernel_rfl))) fun L u W gh hc K hK => ?_
            have e6 : u 6 = .pointer (some ⟨g, 0, none⟩) := hc.val 6 (by kernel_rfl) (by omega) _ rfl
            have e7 : u 7 = .int .i64 (k : Int) := hc.val 7 (by kernel_rfl) (by omega) _ rfl
            have e9 : u 9 = .int .i64 (m : Int) := hc.val 9 (by kernel_rfl) (by omega) _ rfl
            have hb := hc.before (.inr (.cons (c := 11) (by kernel_rfl) (.one (by kernel_rfl))))
            go_simp
            go_at_call 36
            (with_reducible refine (dAt_any (n := m) (HM.out.later hb) HLT.out HN.out (by have := HPL.out; have := HMP.out; omega)).mono ?_); rintro e w6 ⟨rfl, v, rfl, hv⟩
            rw [← HR0.out] at hv
            have hk9 := hK.out v _ (fun _ => False) (Fr.refl _ _) hv (fun x e => (by cases e)) (fun _ h => h.elim) (fun _ h => h.elim)
            first | exact hk9 | (simp only [e6, e7, e9] at hk9; exact hk9)
          · refine ksM (fun _ h => h.elim) (by omega) (.one (by kernel_rfl)) fun L u W gh hc => ?_
            have t5 := hc.fact 5 (by kernel_rfl) (by omega) (fun t ht => by cases ht; exact hc.free _ (.inl rfl))
            have f5 := hc.foot 5 (by kernel_rfl) (by omega) (fun t ht => by cases ht; exact hc.free _ (.inl rfl))
            have t10 := hc.fact 10 (by kernel_rfl) (by omega) (fun t ht => by cases ht)
            have f10 := hc.foot 10 (by kernel_rfl) (by omega) (fun t ht => by cases ht)
            have hb := hc.before (.inr (.one (by kernel_rfl)))
            obtain ⟨ra, rn, rc, ev, hr, hrs⟩ := t10
            have hnw := RdB.news hr
            obtain ⟨v', w', hrun, hf, hP, hS, hlt⟩ := app_res elB t5 hnw.1 hnw.2.1 hnw.2.2 (bytes_one r0) (by have := hr.hlen; have := HR64.out; unfold maxLen; omega) (by have := hr.hlen; have := HR64.out; omega)
            exact ⟨v', w', fun x => v'.ownBlock = some x, hrun _ _ _ _ rfl rfl (by exact rfl) (by exact ev), hf.mono (fun x hx => .inl ⟨5, by kernel_rfl, by omega, rfl, t5.2 x hx⟩), (by have := hr.hlen; rw [this]; simpa using hP), fun x e => (by cases e), fun x hx => (hS x hx).imp (fun h => ⟨5, by kernel_rfl, by omega, rfl, t5.2 x h⟩) id, hlt⟩
          · refine ksP (fun _ h => h.elim) (by omega) (.one (by kernel_rfl)) (by rfl) fun L u W gh hc => ?_
            have e3 : u 3 = .slice (some ⟨gg9, 0, none⟩) d.good.length cg9 := hc.val 3 (by kernel_rfl) (by omega) _ rfl
            have e4 : u 4 = .int .i64 (k : Int) := hc.val 4 (by kernel_rfl) (by omega) _ rfl
            have hb := hc.before (.inr (.one (by kernel_rfl)))
            go_simp
            try rw [if_pos (by omega)]
          · refine ksL fun L u W gh hc => ?_
            have e12 : u 12 = .pointer (some ⟨gg9, k, none⟩) := hc.val 12 (by kernel_rfl) (by omega) _ rfl
            have t11 := hc.fact 11 (by kernel_rfl) (by omega) (fun t ht => by cases ht)
            have f11 := hc.foot 11 (by kernel_rfl) (by omega) (fun t ht => by cases ht)
            have hb := hc.before (.inl rfl)
            obtain ⟨a1, a2⟩ := t11
            obtain ⟨q, cq, rq, ev, hqB, hq1, hq2⟩ := own_slot a1 (by have := HR64.out; omega)
            have hb := hc.old (hc.free 13 (.inl rfl))
            have hBW := HXA.out.below hb HXA.out.lt
            have hfs : Fr (fun x => x = gg9) W (W.setCell ⟨gg9, k, none⟩ (u 11)) := (Fr.refl _ _).one _
            have hqn : wr.heap.size ≤ q := by rcases (f11 q (a2 q (by rw [ev]; rfl))).1 with h | ⟨h, _⟩; exact h; exact h.elim
            obtain ⟨vo, hvo⟩ : ∃ vo, W.cell? ⟨gg9, k, none⟩ = some vo := ⟨_, by rw [hBW.cell, List.getElem?_append_left HKX.out, List.getElem?_eq_getElem HKX.out]⟩
            refine ⟨_, _, _, run_store1 rfl (by exact e12) (by rfl) hvo (hBW.frozen k) (by rw [ev]; rfl) Try.sizeOf26, .inl ⟨rfl, rfl⟩, u 11, q, cq, rq, ?_, ?_, hqn, ?_, (hc.fr.mono (F' := fun x => x = gg9) (fun x hx => hx.elim)).trans hfs (fun x hx => .inl hx), by have := HR64.out; omega, hq2⟩
            · rw [ev, HR64.out]
            · exact hfs.blk hqB (by have := HXA.out.lt; omega)
            · have hset := hBW.set k (u 11)
              rw [List.set_append_left _ _ HKX.out, ev, HR64.out] at hset
              rw [ev, HR64.out]; exact hset
        obtain ⟨v, q, cq, rq, p1, p2, p3, p4, p5, hq64, hqm⟩ := hP
        have HQ := Lib.hid p2; have HQN := Lib.hid p3; have HGV := Lib.hid p4; have HF6 := Lib.hid p5
        subst p1
        clear p2 p3 p4 p5 hv
        have hFin : ∀ (W : World) (row : List UInt8), Fr (fun x => x = q) W6 W → Blk W q (row.map bV ++ rq) 5 → row = d.crashRow k p → 64 ≤ cq ∧ cq ≤ maxLen → ∃ S', Md W gx (d.cN picks (k + 1)) Fx S' ∧ (∀ x, S' x → w.heap.size ≤ x) ∧ Below w.heap.size w W := by
          rintro W row hf hB rfl ⟨hcq1, hcq2⟩
          have hrl : (d.crashRow k p).length = 64 := Bd.crashRow_len HD.out.ok HLT.out (by have := HPL.out; omega)
          have hx := HXX.out
          have hqn := HQN.out
          have hql := hB.lt
          have l1 := HX1.out.lt; have l2 := HXA.out.lt; have l3 := xa4.lt
          have hbs := HBW.out.size
          have hf6 := HF6.out
          have hst := Bd.cN_step (picks := picks) HLT.out
          have hggS : ∀ z, Sx z → ¬ (z = gg9) := fun z hz e => xd z hz ((hx z).2 (.inr (.inl e)))
          have hqS : ∀ z, Sx z → ¬ (z = q) := fun z hz e => by have := xsl z hz; omega
          refine ⟨fun z => Sx z ∨ z = q, ⟨Bd.cN_ok HD.out.ok picks (k + 1), gg9, cg9, gw9, cw9, l9, ?_, x2, x3, gvx.set k (.slice (some ⟨q, 0, none⟩) 64 cq), rgx, wvx, rwx, hf.blk HGV.out (by omega), ?_, ?_, ?_, ?_, ?_, ?_, xa8, ?_, xa10, xn1, xn2, xn3, hx, ?_, ?_⟩, ?_, ?_⟩
          · have hb := hf.blk (hf6.blk HX1.out xn1) (by omega)
            have e : mdS gg9 cg9 gw9 cw9 (d.cN picks (k + 1)) l9 = mdS gg9 cg9 gw9 cw9 (d.cN picks k) l9 := by unfold mdS; rw [Bd.cN_len, Bd.cN_len]; rfl
            rw [e]; exact hb
          · rw [List.length_set, xa2, Bd.cN_len, Bd.cN_len]
          · intro j z r hz hr
            rw [hst] at hr
            rw [List.getElem?_set] at hz hr
            by_cases e : k = j
            · subst e
              rw [if_pos rfl, if_pos HKX.out] at hz
              rw [if_pos rfl, if_pos (by rw [Bd.cN_len]; exact HLT.out)] at hr
              cases hz; cases hr
              rw [HR.out]
              exact ⟨_, _, _, rfl, RdB.blk rq hB hrl hcq1 hcq2, fun p hp => by cases hp; exact .inr rfl⟩
            · rw [if_neg e] at hz hr
              exact (((xa3 j z r hz hr).frame hf6 hggS).frame hf hqS).mono (fun x h => .inl h)
          · exact hf.blk (hf6.blk xa4 (fun e => xn3 e.symm)) (by omega)
          · rw [xa5, Bd.cN_len, Bd.cN_len]
          · intro j z hz
            exact (((xa6 j z hz).frame hf6 hggS).frame hf hqS).mono (fun x h => .inl h)
          · rw [Bd.cN_len]; rw [Bd.cN_len] at xa7; exact xa7
          · rw [Bd.cN_len]; rw [Bd.cN_len] at xa9; exact xa9
          · rintro z (h | rfl)
            · exact xd z h
            · intro hz
              rcases (hx _).1 hz with e | e | e <;> omega
          · rintro z (h | rfl)
            · exact Nat.lt_of_lt_of_le (xsl z h) (Nat.le_trans hf6.size hf.size)
            · exact hql
          · rintro z (h | rfl)
            · exact HSX.out z h
            · omega
          · refine (HBW.out.trans (hf6.below hbs (fun z hz => by cases hz; exact HFX.out _ ((hx _).2 (.inr (.inl rfl)))))).trans (hf.below (Nat.le_trans hbs hf6.size) (fun z hz => by cases hz; omega))
        have HFIN := Lib.hid hFin
        have HXD := Lib.hid xd
        clear hFin x2 x3 xa2 xa3 xa4 xa5 xa6 xa7 xa8 xa9 xa10 xsl xx xd
        by_cases hpo : p % 2 = 1
        · have g1 : ((p : Int) % 2 == 1) = true := by rw [beq_iff_eq]; omega
          have hjl : m < (d.pend k).length := by have := HPL.out; have := HMP.out; omega
          have HJL := Lib.hid hjl
          obtain ⟨yv, hyv⟩ : ∃ yv, ys[m]? = some yv := ⟨_, List.getElem?_eq_getElem (by rw [HYL.out]; exact hjl)⟩
          obtain ⟨Y, hY⟩ : ∃ Y, (d.pend k)[m]? = some Y := ⟨_, List.getElem?_eq_getElem hjl⟩
          obtain ⟨yb, yq, rfl, hyS, hyc⟩ := HB4.out m _ hyv
          have hrd := HB5.out m _ _ hyv hY
          have HY64 : Hid (Y.length = 64) := Lib.hid (HD.out.ok.pend k _ (List.mem_of_getElem? hY))
          have HROW : Hid (Y.take 32 ++ r0.drop 32 = d.crashRow k p) := Lib.hid (by unfold Bd.crashRow; rw [if_pos hpo, ← HMP.out, List.getD_eq_getElem?_getD, hY, HR0.out]; rfl)
          obtain ⟨ya, yn, yc, rfl, hyr, hys⟩ := hrd
          obtain rfl : yn = 64 := by have := hyr.hlen; have := HY64.out; omega
          obtain ⟨sb, sq, rfl, _⟩ := hyr.get 0 (by have := HY64.out; omega)
          have HYR : Hid (RdB wr (some ⟨sb, sq, none⟩) 64 yc Y) := Lib.hid hyr
          have hyb := cell_lt hyc
          have hsb := HM.out.lt.2.1 _ (hys _ rfl)
          have HCAP : Hid (64 ≤ cq ∧ cq ≤ maxLen) := Lib.hid ⟨hq64, hqm⟩
          have hyl : (32 : Int) ≤ (yc : Int) := by have := hyr.hcap; omega
          have hyl2 : 32 ≤ yc := by have := hyr.hcap; omega
          have hp0 : (0 : Int) ≤ (m : Int) := by omega
          have hp1 : (m : Int) < ((d.pend k).length : Int) := by omega
          have HF6G : Hid (¬ (fun x => x = gg9) g ∧ ¬ (fun x => x = gg9) gw ∧ ¬ (fun x => x = gg9) yb ∧ ¬ (fun x => x = gg9) sb) := Lib.hid (by
            have hd := HD.out.lt
            have hg9 := HFX.out gg9 ((HXX.out gg9).2 (.inr (.inl rfl)))
            have hS := HD.out.lt.2.1
            have hg := HGL.out
            have hF := HD.out.lt.1
            refine ⟨fun e => ?_, fun e => ?_, fun e => ?_, fun e => ?_⟩
            · have e : g = gg9 := e
              omega
            · have e : gw = gg9 := e
              have := HGWF.out; omega
            · have e : yb = gg9 := e
              have := hS yb hyS; omega
            · have e : sb = gg9 := e
              have := hS sb (hys _ rfl); omega)
          have c1x : W6.cell? ⟨g, 1, none⟩ = some (.slice (some ⟨gw, 0, none⟩) d.good.length cw) := (HF6.out.cell (p := ⟨g, 1, none⟩) HH1.out.lt HF6G.out.1).trans c1
          have cyx : W6.cell? ⟨gw, k, none⟩ = some (.slice (some ⟨yb, yq, none⟩) (d.pend k).length c) := (HF6.out.cell (p := ⟨gw, k, none⟩) HGW.out HF6G.out.2.1).trans cy
          have cyy : W6.cell? ⟨yb, yq + m, none⟩ = some (.slice (some ⟨sb, sq, none⟩) 64 yc) := (HF6.out.cell (p := ⟨yb, yq + m, none⟩) hyb HF6G.out.2.2.1).trans hyc
          have HYR6 : Hid (W6.rangeAt sb sq (Y.map bV)) := Lib.hid (rd_range64 (HF6.out.rd HYR.out (fun p hp => by cases hp; exact HF6G.out.2.2.2)) HY64.out)
          have cgx : W6.cell? ⟨gx, 0, none⟩ = some (.slice (some ⟨gg9, 0, none⟩) d.good.length cg9) := (HF6.out.cell (p := ⟨gx, 0, none⟩) HX1.out.lt xn1).trans cx0
          have cgk : W6.cell? ⟨gg9, k, none⟩ = some (.slice (some ⟨q, 0, none⟩) 64 cq) := by rw [HGV.out.cell, List.getElem?_append_left (by rw [List.length_set]; exact HKX.out), List.getElem?_set, if_pos rfl, if_pos HKX.out]
          have hl6 := HF6.out.size
          have L6 : Hid (gx < W6.heap.size ∧ gg9 < W6.heap.size ∧ g < W6.heap.size ∧ gw < W6.heap.size ∧ yb < W6.heap.size ∧ sb < W6.heap.size) := Lib.hid ⟨Nat.lt_of_lt_of_le HX1.out.lt hl6, HGV.out.lt, Nat.lt_of_lt_of_le HH1.out.lt hl6, Nat.lt_of_lt_of_le HGW.out hl6, Nat.lt_of_lt_of_le hyb hl6, Nat.lt_of_lt_of_le hsb hl6⟩
          clear hpo hjl hyv hY hyr hys hyS hyc hyb hsb cy c1 cx0 hl6 hq64 hqm
          go_upto_region 16 with fail
          refine rgK 19 [(82, 0), (0, 1), (0, 2), (0, 3), (0, 4), (0, 5), (0, 6), (0, 7), (0, 8), (0, 9), (0, 10), (0, 11), (0, 12), (0, 13), (0, 14), (0, 15), (0, 16), (0, 17), (0, 18), (0, 19)] [kn (.pointer (some ⟨gx, 0, none⟩)), kn (.pointer (some ⟨gx, 0, none⟩)), kn (.pointer (some ⟨gx, 0, none⟩)), kn (.slice (some ⟨gg9, 0, none⟩) d.good.length cg9), kn (.int .i64 (k : Int)), kn (.pointer (some ⟨gg9, k, none⟩)), kn (.slice (some ⟨q, 0, none⟩) 64 cq), kn (.pointer (some ⟨g, 0, none⟩)), kn (.pointer (some ⟨g, 0, none⟩)), kn (.pointer (some ⟨g, 1, none⟩)), kn (.slice (some ⟨gw, 0, none⟩) d.good.length cw), kn (.int .i64 (k : Int)), kn (.pointer (some ⟨gw, k, none⟩)), kn (.slice (some ⟨yb, yq, none⟩) (d.pend k).length c), kn (.int .i64 (p : Int)), kn (.int .i64 (m : Int)), kn (.pointer (some ⟨yb, yq + m, none⟩)), kn (.slice (some ⟨sb, sq, none⟩) 64 yc), kn (.slice (some ⟨sb, sq, none⟩) 32 yc)] (fun W => Blk W q ((Y.take 32 ++ r0.drop 32).map bV ++ rq) 5 ∧ Fr (fun x => x = q) W6 W) ?_ (fun u8 W8 hP hv => ?_)
          · refine ⟨?_, ?_, ?_, ?_, ?_, ?_, ?_, ?_, ?_, ?_, ?_, ?_, ?_, ?_, ?_, ?_, ?_, ?_, ?_, ?_, trivial⟩
            · refine ktP (by omega) (.cons (c := 6) (by kernel_rfl) (.cons (c := 5) (by kernel_rfl) (.cons (c := 3) (by kernel_rfl) (.cons (c := 2) (by kernel_rfl) (.cons (c := 1) (by kernel_rfl) (.one (by kernel_rfl))))))) (by rfl) fun u W hb hu => ?_
              go_simp
            · refine ktP (by omega) (.cons (c := 6) (by kernel_rfl) (.cons (c := 5) (by kernel_rfl) (.cons (c := 3) (by kernel_rfl) (.cons (c := 2) (by kernel_rfl) (.one (by kernel_rfl)))))) (by rfl) fun u W hb hu => ?_
              have e0 : u 0 = .pointer (some ⟨gx, 0, none⟩) := hu 0 (by kernel_rfl) (by omega)
              go_simp
            · refine ktP (by omega) (.cons (c := 6) (by kernel_rfl) (.cons (c := 5) (by kernel_rfl) (.cons (c := 3) (by kernel_rfl) (.one (by kernel_rfl))))) (by rfl) fun u W hb hu => ?_
              have e1 : u 1 = .pointer (some ⟨gx, 0, none⟩) := hu 1 (by kernel_rfl) (by omega)
              go_simp
            · refine ktP (by omega) (.cons (c := 6) (by kernel_rfl) (.cons (c := 5) (by kernel_rfl) (.one (by kernel_rfl)))) (by rfl) fun u W hb hu => ?_
              have e2 : u 2 = .pointer (some ⟨gx, 0, none⟩) := hu 2 (by kernel_rfl) (by omega)
              have hc2 := (hb.cell (p := ⟨gx, 0, none⟩) L6.out.1).trans cgx
              go_simp
            · refine ktP (by omega) (.cons (c := 6) (by kernel_rfl) (.cons (c := 5) (by kernel_rfl) (.one (by kernel_rfl)))) (by rfl) fun u W hb hu => ?_
              go_simp
            · refine ktP (by omega) (.cons (c := 6) (by kernel_rfl) (.one (by kernel_rfl))) (by rfl) fun u W hb hu => ?_
              have e3 : u 3 = .slice (some ⟨gg9, 0, none⟩) d.good.length cg9 := hu 3 (by kernel_rfl) (by omega)
              have e4 : u 4 = .int .i64 (k : Int) := hu 4 (by kernel_rfl) (by omega)
              go_simp
              try rw [if_pos (by omega)]
            · refine ktP (by omega) (.one (by kernel_rfl)) (by rfl) fun u W hb hu => ?_
              have e5 : u 5 = .pointer (some ⟨gg9, k, none⟩) := hu 5 (by kernel_rfl) (by omega)
              have hc2 := (hb.cell (p := ⟨gg9, k, none⟩) L6.out.2.1).trans cgk
              go_simp
            · refine ktP (by omega) (.cons (c := 18) (by kernel_rfl) (.cons (c := 17) (by kernel_rfl) (.cons (c := 16) (by kernel_rfl) (.cons (c := 13) (by kernel_rfl) (.cons (c := 12) (by kernel_rfl) (.cons (c := 10) (by kernel_rfl) (.cons (c := 9) (by kernel_rfl) (.cons (c := 8) (by kernel_rfl) (.one (by kernel_rfl)))))))))) (by rfl) fun u W hb hu => ?_
              go_simp
            · refine ktP (by omega) (.cons (c := 18) (by kernel_rfl) (.cons (c := 17) (by kernel_rfl) (.cons (c := 16) (by kernel_rfl) (.cons (c := 13) (by kernel_rfl) (.cons (c := 12) (by kernel_rfl) (.cons (c := 10) (by kernel_rfl) (.cons (c := 9) (by kernel_rfl) (.one (by kernel_rfl))))))))) (by rfl) fun u W hb hu => ?_
              have e7 : u 7 = .pointer (some ⟨g, 0, none⟩) := hu 7 (by kernel_rfl) (by omega)
              go_simp
            · refine ktP (by omega) (.cons (c := 18) (by kernel_rfl) (.cons (c := 17) (by kernel_rfl) (.cons (c := 16) (by kernel_rfl) (.cons (c := 13) (by kernel_rfl) (.cons (c := 12) (by kernel_rfl) (.cons (c := 10) (by kernel_rfl) (.one (by kernel_rfl)))))))) (by rfl) fun u W hb hu => ?_
              have e8 : u 8 = .pointer (some ⟨g, 0, none⟩) := hu 8 (by kernel_rfl) (by omega)
              go_simp
            · refine ktP (by omega) (.cons (c := 18) (by kernel_rfl) (.cons (c := 17) (by kernel_rfl) (.cons (c := 16) (by kernel_rfl) (.cons (c := 13) (by kernel_rfl) (.cons (c := 12) (by kernel_rfl) (.one (by kernel_rfl))))))) (by rfl) fun u W hb hu => ?_
              have e9 : u 9 = .pointer (some ⟨g, 1, none⟩) := hu 9 (by kernel_rfl) (by omega)
              have hc2 := (hb.cell (p := ⟨g, 1, none⟩) L6.out.2.2.1).trans c1x
              go_simp
            · refine ktP (by omega) (.cons (c := 18) (by kernel_rfl) (.cons (c := 17) (by kernel_rfl) (.cons (c := 16) (by kernel_rfl) (.cons (c := 13) (by kernel_rfl) (.cons (c := 12) (by kernel_rfl) (.one (by kernel_rfl))))))) (by rfl) fun u W hb hu => ?_
              go_simp
            · refine ktP (by omega) (.cons (c := 18) (by kernel_rfl) (.cons (c := 17) (by kernel_rfl) (.cons (c := 16) (by kernel_rfl) (.cons (c := 13) (by kernel_rfl) (.one (by kernel_rfl)))))) (by rfl) fun u W hb hu => ?_
              have e10 : u 10 = .slice (some ⟨gw, 0, none⟩) d.good.length cw := hu 10 (by kernel_rfl) (by omega)
              have e11 : u 11 = .int .i64 (k : Int) := hu 11 (by kernel_rfl) (by omega)
              go_simp
              try rw [if_pos (by omega)]
            · refine ktP (by omega) (.cons (c := 18) (by kernel_rfl) (.cons (c := 17) (by kernel_rfl) (.cons (c := 16) (by kernel_rfl) (.one (by kernel_rfl))))) (by rfl) fun u W hb hu => ?_
              have e12 : u 12 = .pointer (some ⟨gw, k, none⟩) := hu 12 (by kernel_rfl) (by omega)
              have hc2 := (hb.cell (p := ⟨gw, k, none⟩) L6.out.2.2.2.1).trans cyx
              go_simp
            · refine ktP (by omega) (.cons (c := 18) (by kernel_rfl) (.cons (c := 17) (by kernel_rfl) (.cons (c := 16) (by kernel_rfl) (.cons (c := 15) (by kernel_rfl) (.one (by kernel_rfl)))))) (by rfl) fun u W hb hu => ?_
              go_simp
            · refine ktP (by omega) (.cons (c := 18) (by kernel_rfl) (.cons (c := 17) (by kernel_rfl) (.cons (c := 16) (by kernel_rfl) (.one (by kernel_rfl))))) (by rfl) fun u W hb hu => ?_
              have e14 : u 14 = .int .i64 (p : Int) := hu 14 (by kernel_rfl) (by omega)
              go_simp
              try exact hpw
            · refine ktP (by omega) (.cons (c := 18) (by kernel_rfl) (.cons (c := 17) (by kernel_rfl) (.one (by kernel_rfl)))) (by rfl) fun u W hb hu => ?_
              have e13 : u 13 = .slice (some ⟨yb, yq, none⟩) (d.pend k).length c := hu 13 (by kernel_rfl) (by omega)
              have e15 : u 15 = .int .i64 (m : Int) := hu 15 (by kernel_rfl) (by omega)
              go_simp
              try rw [if_pos (by omega)]
              try (simp [addr_add]; done)
            · refine ktP (by omega) (.cons (c := 18) (by kernel_rfl) (.one (by kernel_rfl))) (by rfl) fun u W hb hu => ?_
              have e16 : u 16 = .pointer (some ⟨yb, yq + m, none⟩) := hu 16 (by kernel_rfl) (by omega)
              have hc2 := (hb.cell (p := ⟨yb, yq + m, none⟩) L6.out.2.2.2.2.1).trans cyy
              go_simp
            · refine ktP (by omega) (.one (by kernel_rfl)) (by rfl) fun u W hb hu => ?_
              have e17 : u 17 = .slice (some ⟨sb, sq, none⟩) 64 yc := hu 17 (by kernel_rfl) (by omega)
              go_simp
              try rw [if_pos (by omega)]
            · refine ktV fun u W hb hu => ?_
              have e6 : u 6 = .slice (some ⟨q, 0, none⟩) 64 cq := hu 6 (by kernel_rfl) (by omega)
              have e18 : u 18 = .slice (some ⟨sb, sq, none⟩) 32 yc := hu 18 (by kernel_rfl) (by omega)
              have hBW := HQ.out.below hb HQ.out.lt
              have hrg : W.rangeAt sb sq (Y.map bV) := fun j v hv => (hb.cell (p := ⟨sb, sq + j, none⟩) L6.out.2.2.2.2.2).trans (HYR6.out j v hv)
              exact ⟨_, _, run_copy_32 rfl (by exact e6) (by exact e18) hBW HR64.out hrg HY64.out, half_over hBW HR64.out HY64.out, (Fr.of_below hb).trans (Fr.cellsS _ _ _ (Fr.refl _ _)) (fun x hx => .inl hx)⟩
          obtain ⟨p1, p2⟩ := hP
          have HEND := Lib.hid (HFIN.out W8 _ p2 p1 HROW.out HCAP.out)
          clear p1 p2 hv
          rename_i aK _
          refine aK _ _ ?_
          clear aK
          obtain rfl := HP0.out
          go_wp2
          obtain ⟨S', z1, z2, z3⟩ := HEND.out
          go_roundw
          case rel => first | exact ⟨k + 1, S', by have := HLT.out; omega, by go_num, by rw [HBN.out]; go_num, z1, z2, z3⟩ | exact ⟨k + 1, S', by have := HLT.out; omega, by go_num, by rw [HBN.out], z1, z2, z3⟩ | ((repeat apply Exists.intro); first | exact ⟨⟨k + 1, S', by have := HLT.out; omega, by go_num, by rw [HBN.out]; go_num, z1, z2, z3⟩, rfl⟩ | exact ⟨⟨k + 1, S', by have := HLT.out; omega, by go_num, by rw [HBN.out], z1, z2, z3⟩, rfl⟩)
          case measure => have := HLT.out; simp [intOf]; omega
        · have g1 : ((p : Int) % 2 == 1) = false := by rw [beq_eq_false_iff_ne]; omega
          have HROW : Hid (r0 = d.crashRow k p) := Lib.hid (by unfold Bd.crashRow; rw [if_neg hpo, HR0.out, HMP.out])
          have HEND := Lib.hid (HFIN.out W6 r0 (Fr.refl _ _) HQ.out HROW.out ⟨hq64, hqm⟩)
          clear hpo c1 cy cx0 hq64 hqm
          obtain rfl := HP0.out
          go_wp2
          obtain ⟨S', z1, z2, z3⟩ := HEND.out
          go_roundw
          case rel => first | exact ⟨k + 1, S', by have := HLT.out; omega, by go_num, by rw [HBN.out]; go_num, z1, z2, z3⟩ | exact ⟨k + 1, S', by have := HLT.out; omega, by go_num, by rw [HBN.out], z1, z2, z3⟩ | ((repeat apply Exists.intro); first | exact ⟨⟨k + 1, S', by have := HLT.out; omega, by go_num, by rw [HBN.out]; go_num, z1, z2, z3⟩, rfl⟩ | exact ⟨⟨k + 1, S', by have := HLT.out; omega, by go_num, by rw [HBN.out], z1, z2, z3⟩, rfl⟩)
          case measure => have := HLT.out; simp [intOf]; omega
      · have hl0 : 0 < (d.pend k).length := by rcases Nat.eq_zero_or_pos (d.pend k).length with h | h; exact absurd (List.eq_nil_of_length_eq_zero h) hw0; exact h
        have z1 : decide ((0 : Int) < ((d.pend k).length : Int)) = true := decide_eq_true (by omega)
        have z2 : decide (0 < (d.pend k).length) = true := decide_eq_true (by omega)
        have hbn : d.before (k + 1) = d.before k + 1 := by rw [Bd.before, if_neg hw0]
        rcases Nat.eq_zero_or_pos np with rfl | hnp
        · have hpe : picks = [] := List.eq_nil_of_length_eq_zero HPI.out.hlen
          obtain ⟨p, hp⟩ : ∃ p : Nat, p = 0 := ⟨_, rfl⟩
          have hR : d.crashAt picks k = d.crashRow k p := by unfold Bd.crashAt; rw [if_pos (.inr hpe), hp]; rfl
          have hPL : p ≤ 2 * (d.pend k).length := by omega
          go_upto_region 14 with fail
          rw [show (Value.int IntKind.i64 0 : Value) = .int .i64 ((p : Nat) : Int) by rw [hp]; rfl]
          have HR := Lib.hid hR; have HPL := Lib.hid hPL; have HBN := Lib.hid hbn; have HP0 := Lib.hid hp
          clear hR hPL hbn hp z1 z2 hpe
          obtain ⟨gg9, cg9, gw9, cw9, l9, x1, x2, x3, xR⟩ := HMX.out.ex
          obtain ⟨gvx, rgx, wvx, rwx, xa1, xa2, xa3, xa4, xa5, xa6, xa7, xa8, xa9, xa10, xn1, xn2, xn3, xx, xd, xsl⟩ := xR.ex
          have cx0 : wr.cell? ⟨gx, 0, none⟩ = some (.slice (some ⟨gg9, 0, none⟩) d.good.length cg9) := by have := x1.cell 0; rw [show (mdS gg9 cg9 gw9 cw9 (d.cN picks k) l9)[0]? = some (.slice (some ⟨gg9, 0, none⟩) (d.cN picks k).good.length cg9) from rfl, Bd.cN_len] at this; exact this
          have HX1 := Lib.hid x1; have HXA := Lib.hid xa1
          have HKX : Hid (k < gvx.length) := Lib.hid (by rw [xa2, Bd.cN_len]; exact HLT.out)
          have HSL : Hid (∀ x, S x → ¬ zone (fun _ => False) wr.heap.size x) := Lib.hid (fun x hx hz => by rcases hz with h | h; exact h; have := HM.out.lt.2.1 x hx; omega)
          obtain ⟨m, hm⟩ : ∃ m, m = p / 2 := ⟨_, rfl⟩
          have HMP := Lib.hid hm
          obtain ⟨r0, hr0⟩ : ∃ r0, r0 = d.at k m := ⟨_, rfl⟩
          have HR0 := Lib.hid hr0
          have HR64 : Hid (r0.length = 64) := Lib.hid (by rw [hr0, hm]; exact Bd.at_len HD.out.ok HLT.out (by have := HPL.out; omega))
          have hpw : IntKind.i64.wrap ((p : Int) / 2) = (m : Int) := by rw [IntKind.wrap_i64]; have := HPL.out; have := HCNT.out; omega
          have HXX := Lib.hid xx
          clear hr0 hm x1 xa1 xR
          refine rgS 13 13 (fun _ => False) [(66, 0), (0, 1), (0, 2), (0, 3), (0, 4), (0, 5), (0, 6), (0, 7), (0, 8), (0, 9), (0, 10), (0, 11), (0, 12)] [kv (.pointer (some ⟨gx, 0, none⟩)), kv (.pointer (some ⟨gx, 0, none⟩)), kv (.pointer (some ⟨gx, 0, none⟩)), kv (.slice (some ⟨gg9, 0, none⟩) d.good.length cg9), kv (.int .i64 (k : Int)), (owF 5 1 0 []), kv (.pointer (some ⟨g, 0, none⟩)), kv (.int .i64 (k : Int)), kv (.int .i64 (p : Int)), kv (.int .i64 (m : Int)), (rdSF S HSL.out r0), (owF 5 1 r0.length (r0.map bV)), kv (.pointer (some ⟨gg9, k, none⟩))] [none, none, none, none, none, some 11, none, none, none, none, none, none, none] (fun W => ∃ (v : Value) (q cq : Nat) (rq : List Value), v = .slice (some ⟨q, 0, none⟩) 64 cq ∧ Blk W q (r0.map bV ++ rq) 5 ∧ wr.heap.size ≤ q ∧ Blk W gg9 (gvx.set k (.slice (some ⟨q, 0, none⟩) 64 cq) ++ rgx) 26 ∧ Fr (fun x => x = gg9) wr W ∧ 64 ≤ cq ∧ cq ≤ maxLen) ?_ (fun u6 W6 hP hv => ?_)
          · refine ⟨?_, ?_, ?_, ?_, ?_, ?_, ?_, ?_, ?_, ?_, ?_, ?_, ?_, ?_, trivial⟩
            · refine ksP (fun _ h => h.elim) (by omega) (.cons (c := 12) (by kernel_rfl) (.cons (c := 3) (by kernel_rfl) (.cons (c := 2) (by kernel_rfl) (.cons (c := 1) (by kernel_rfl) (.one (by kernel_rfl)))))) (by rfl) fun L u W gh hc => ?_
              have hb := hc.before (.inr (.cons (c := 12) (by kernel_rfl) (.cons (c := 3) (by kernel_rfl) (.cons (c := 2) (by kernel_rfl) (.cons (c := 1) (by kernel_rfl) (.one (by kernel_rfl)))))))
              go_simp
            · refine ksP (fun _ h => h.elim) (by omega) (.cons (c := 12) (by kernel_rfl) (.cons (c := 3) (by kernel_rfl) (.cons (c := 2) (by kernel_rfl) (.one (by kernel_rfl))))) (by rfl) fun L u W gh hc => ?_
              have e0 : u 0 = .pointer (some ⟨gx, 0, none⟩) := hc.val 0 (by kernel_rfl) (by omega) _ rfl
              have hb := hc.before (.inr (.cons (c := 12) (by kernel_rfl) (.cons (c := 3) (by kernel_rfl) (.cons (c := 2) (by kernel_rfl) (.one (by kernel_rfl))))))
              go_simp
            · refine ksP (fun _ h => h.elim) (by omega) (.cons (c := 12) (by kernel_rfl) (.cons (c := 3) (by kernel_rfl) (.one (by kernel_rfl)))) (by rfl) fun L u W gh hc => ?_
              have e1 : u 1 = .pointer (some ⟨gx, 0, none⟩) := hc.val 1 (by kernel_rfl) (by omega) _ rfl
              have hb := hc.before (.inr (.cons (c := 12) (by kernel_rfl) (.cons (c := 3) (by kernel_rfl) (.one (by kernel_rfl)))))
              go_simp
            · refine ksP (fun _ h => h.elim) (by omega) (.cons (c := 12) (by kernel_rfl) (.one (by kernel_rfl))) (by rfl) fun L u W gh hc => ?_
              have e2 : u 2 = .pointer (some ⟨gx, 0, none⟩) := hc.val 2 (by kernel_rfl) (by omega) _ rfl
              have hb := hc.before (.inr (.cons (c := 12) (by kernel_rfl) (.one (by kernel_rfl))))
              have hc2 := (hb.cell (p := ⟨gx, 0, none⟩) HX1.out.lt).trans cx0
              go_simp
            · refine ksP (fun _ h => h.elim) (by omega) (.cons (c := 12) (by kernel_rfl) (.one (by kernel_rfl))) (by rfl) fun L u W gh hc => ?_
              have hb := hc.before (.inr (.cons (c := 12) (by kernel_rfl) (.one (by kernel_rfl))))
              go_simp
            · refine ksM (fun _ h => h.elim) (by omega) (.cons (c := 11) (by kernel_rfl) (.one (by kernel_rfl))) fun L u W gh hc => ?_
              have hb := hc.before (.inr (.cons (c := 11) (by kernel_rfl) (.one (by kernel_rfl))))
              exact ⟨_, _, fun x => x = W.heap.size, run_new0 elB rfl, (Fr.refl _ _).alloc _, ⟨own_new (xs := []) (by rfl) (by unfold maxLen; omega), fun x hx => by cases hx; rfl⟩, fun x e => (by cases e), fun x hx => .inr (Nat.le_of_eq hx.symm), fun x hx => by subst hx; simp⟩
            · refine ksP (fun _ h => h.elim) (by omega) (.cons (c := 11) (by kernel_rfl) (.cons (c := 10) (by kernel_rfl) (.one (by kernel_rfl)))) (by rfl) fun L u W gh hc => ?_
              have hb := hc.before (.inr (.cons (c := 11) (by kernel_rfl) (.cons (c := 10) (by kernel_rfl) (.one (by kernel_rfl)))))
              go_simp
            · refine ksP (fun _ h => h.elim) (by omega) (.cons (c := 11) (by kernel_rfl) (.cons (c := 10) (by kernel_rfl) (.one (by kernel_rfl)))) (by rfl) fun L u W gh hc => ?_
              have hb := hc.before (.inr (.cons (c := 11) (by kernel_rfl) (.cons (c := 10) (by kernel_rfl) (.one (by kernel_rfl)))))
              go_simp
            · refine ksP (fun _ h => h.elim) (by omega) (.cons (c := 11) (by kernel_rfl) (.cons (c := 10) (by kernel_rfl) (.cons (c := 9) (by kernel_rfl) (.one (by kernel_rfl))))) (by rfl) fun L u W gh hc => ?_
              have hb := hc.before (.inr (.cons (c := 11) (by kernel_rfl) (.cons (c := 10) (by kernel_rfl) (.cons (c := 9) (by kernel_rfl) (.one (by kernel_rfl))))))
              go_simp
            · refine ksP (fun _ h => h.elim) (by omega) (.cons (c := 11) (by kernel_rfl) (.cons (c := 10) (by kernel_rfl) (.one (by kernel_rfl)))) (by rfl) fun L u W gh hc => ?_
              have e8 : u 8 = .int .i64 (p : Int) := hc.val 8 (by kernel_rfl) (by omega) _ rfl
              have hb := hc.before (.inr (.cons (c := 11) (by kernel_rfl) (.cons (c := 10) (by kernel_rfl) (.one (by kernel_rfl)))))
              go_simp
              try exact hpw
            · refine ksC (fun _ h => h.elim) (by omega) (.cons (c := 11) (by kernel_rfl) (.one (by kernel_rfl))) fun L u W gh hc K hK => ?_
              have e6 : u 6 = .pointer (some ⟨g, 0, none⟩) := hc.val 6 (by kernel_rfl) (by omega) _ rfl
              have e7 : u 7 = .int .i64 (k : Int) := hc.val 7 (by kernel_rfl) (by omega) _ rfl
              have e9 : u 9 = .int .i64 (m : Int) := hc.val 9 (by kernel_rfl) (by omega) _ rfl
              have hb := hc.before (.inr (.cons (c := 11) (by kernel_rfl) (.one (by kernel_rfl))))
              go_simp
              go_at_call 36
              (with_reducible refine (dAt_any (n := m) (HM.out.later hb) HLT.out HN.out (by have := HPL.out; have := HMP.out; omega)).mono ?_); rintro e w6 ⟨rfl, v, rfl, hv⟩
              rw [← HR0.out] at hv
              have hk9 := hK.out v _ (fun _ => False) (Fr.refl _ _) hv (fun x e => (by cases e)) (fun _ h => h.elim) (fun _ h => h.elim)
              first | exact hk9 | (simp only [e6, e7, e9] at hk9; exact hk9)
            · refine ksM (fun _ h => h.elim) (by omega) (.one (by kernel_rfl)) fun L u W gh hc => ?_
              have t5 := hc.fact 5 (by kernel_rfl) (by omega) (fun t ht => by cases ht; exact hc.free _ (.inl rfl))
              have f5 := hc.foot 5 (by kernel_rfl) (by omega) (fun t ht => by cases ht; exact hc.free _ (.inl rfl))
              have t10 := hc.fact 10 (by kernel_rfl) (by omega) (fun t ht => by cases ht)
              have f10 := hc.foot 10 (by kernel_rfl) (by omega) (fun t ht => by cases ht)
              have hb := hc.before (.inr (.one (by kernel_rfl)))
              obtain ⟨ra, rn, rc, ev, hr, hrs⟩ := t10
              have hnw := RdB.news hr
              obtain ⟨v', w', hrun, hf, hP, hS, hlt⟩ := app_res elB t5 hnw.1 hnw.2.1 hnw.2.2 (bytes_one r0) (by have := hr.hlen; have := HR64.out; unfold maxLen; omega) (by have := hr.hlen; have := HR64.out; omega)
              exact ⟨v', w', fun x => v'.ownBlock = some x, hrun _ _ _ _ rfl rfl (by exact rfl) (by exact ev), hf.mono (fun x hx => .inl ⟨5, by kernel_rfl, by omega, rfl, t5.2 x hx⟩), (by have := hr.hlen; rw [this]; simpa using hP), fun x e => (by cases e), fun x hx => (hS x hx).imp (fun h => ⟨5, by kernel_rfl, by omega, rfl, t5.2 x h⟩) id, hlt⟩
            · refine ksP (fun _ h => h.elim) (by omega) (.one (by kernel_rfl)) (by rfl) fun L u W gh hc => ?_
              have e3 : u 3 = .slice (some ⟨gg9, 0, none⟩) d.good.length cg9 := hc.val 3 (by kernel_rfl) (by omega) _ rfl
              have e4 : u 4 = .int .i64 (k : Int) := hc.val 4 (by kernel_rfl) (by omega) _ rfl
              have hb := hc.before (.inr (.one (by kernel_rfl)))
              go_simp
              try rw [if_pos (by omega)]
            · refine ksL fun L u W gh hc => ?_
              have e12 : u 12 = .pointer (some ⟨gg9, k, none⟩) := hc.val 12 (by kernel_rfl) (by omega) _ rfl
              have t11 := hc.fact 11 (by kernel_rfl) (by omega) (fun t ht => by cases ht)
              have f11 := hc.foot 11 (by kernel_rfl) (by omega) (fun t ht => by cases ht)
              have hb := hc.before (.inl rfl)
              obtain ⟨a1, a2⟩ := t11
              obtain ⟨q, cq, rq, ev, hqB, hq1, hq2⟩ := own_slot a1 (by have := HR64.out; omega)
              have hb := hc.old (hc.free 13 (.inl rfl))
              have hBW := HXA.out.below hb HXA.out.lt
              have hfs : Fr (fun x => x = gg9) W (W.setCell ⟨gg9, k, none⟩ (u 11)) := (Fr.refl _ _).one _
              have hqn : wr.heap.size ≤ q := by rcases (f11 q (a2 q (by rw [ev]; rfl))).1 with h | ⟨h, _⟩; exact h; exact h.elim
              obtain ⟨vo, hvo⟩ : ∃ vo, W.cell? ⟨gg9, k, none⟩ = some vo := ⟨_, by rw [hBW.cell, List.getElem?_append_left HKX.out, List.getElem?_eq_getElem HKX.out]⟩
              refine ⟨_, _, _, run_store1 rfl (by exact e12) (by rfl) hvo (hBW.frozen k) (by rw [ev]; rfl) Try.sizeOf26, .inl ⟨rfl, rfl⟩, u 11, q, cq, rq, ?_, ?_, hqn, ?_, (hc.fr.mono (F' := fun x => x = gg9) (fun x hx => hx.elim)).trans hfs (fun x hx => .inl hx), by have := HR64.out; omega, hq2⟩
              · rw [ev, HR64.out]
              · exact hfs.blk hqB (by have := HXA.out.lt; omega)
              · have hset := hBW.set k (u 11)
                rw [List.set_append_left _ _ HKX.out, ev, HR64.out] at hset
                rw [ev, HR64.out]; exact hset
          obtain ⟨v, q, cq, rq, p1, p2, p3, p4, p5, hq64, hqm⟩ := hP
          have HQ := Lib.hid p2; have HQN := Lib.hid p3; have HGV := Lib.hid p4; have HF6 := Lib.hid p5
          subst p1
          clear p2 p3 p4 p5 hv
          have hFin : ∀ (W : World) (row : List UInt8), Fr (fun x => x = q) W6 W → Blk W q (row.map bV ++ rq) 5 → row = d.crashRow k p → 64 ≤ cq ∧ cq ≤ maxLen → ∃ S', Md W gx (d.cN picks (k + 1)) Fx S' ∧ (∀ x, S' x → w.heap.size ≤ x) ∧ Below w.heap.size w W := by
            rintro W row hf hB rfl ⟨hcq1, hcq2⟩
            have hrl : (d.crashRow k p).length = 64 := Bd.crashRow_len HD.out.ok HLT.out (by have := HPL.out; omega)
            have hx := HXX.out
            have hqn := HQN.out
            have hql := hB.lt
            have l1 := HX1.out.lt; have l2 := HXA.out.lt; have l3 := xa4.lt
            have hbs := HBW.out.size
            have hf6 := HF6.out
            have hst := Bd.cN_step (picks := picks) HLT.out
            have hggS : ∀ z, Sx z → ¬ (z = gg9) := fun z hz e => xd z hz ((hx z).2 (.inr (.inl e)))
            have hqS : ∀ z, Sx z → ¬ (z = q) := fun z hz e => by have := xsl z hz; omega
            refine ⟨fun z => Sx z ∨ z = q, ⟨Bd.cN_ok HD.out.ok picks (k + 1), gg9, cg9, gw9, cw9, l9, ?_, x2, x3, gvx.set k (.slice (some ⟨q, 0, none⟩) 64 cq), rgx, wvx, rwx, hf.blk HGV.out (by omega), ?_, ?_, ?_, ?_, ?_, ?_, xa8, ?_, xa10, xn1, xn2, xn3, hx, ?_, ?_⟩, ?_, ?_⟩
            · have hb := hf.blk (hf6.blk HX1.out xn1) (by omega)
              have e : mdS gg9 cg9 gw9 cw9 (d.cN picks (k + 1)) l9 = mdS gg9 cg9 gw9 cw9 (d.cN picks k) l9 := by unfold mdS; rw [Bd.cN_len, Bd.cN_len]; rfl
              rw [e]; exact hb
            · rw [List.length_set, xa2, Bd.cN_len, Bd.cN_len]
            · intro j z r hz hr
              rw [hst] at hr
              rw [List.getElem?_set] at hz hr
              by_cases e : k = j
              · subst e
                rw [if_pos rfl, if_pos HKX.out] at hz
                rw [if_pos rfl, if_pos (by rw [Bd.cN_len]; exact HLT.out)] at hr
                cases hz; cases hr
                rw [HR.out]
                exact ⟨_, _, _, rfl, RdB.blk rq hB hrl hcq1 hcq2, fun p hp => by cases hp; exact .inr rfl⟩
              · rw [if_neg e] at hz hr
                exact (((xa3 j z r hz hr).frame hf6 hggS).frame hf hqS).mono (fun x h => .inl h)
            · exact hf.blk (hf6.blk xa4 (fun e => xn3 e.symm)) (by omega)
            · rw [xa5, Bd.cN_len, Bd.cN_len]
            · intro j z hz
              exact (((xa6 j z hz).frame hf6 hggS).frame hf hqS).mono (fun x h => .inl h)
            · rw [Bd.cN_len]; rw [Bd.cN_len] at xa7; exact xa7
            · rw [Bd.cN_len]; rw [Bd.cN_len] at xa9; exact xa9
            · rintro z (h | rfl)
              · exact xd z h
              · intro hz
                rcases (hx _).1 hz with e | e | e <;> omega
            · rintro z (h | rfl)
              · exact Nat.lt_of_lt_of_le (xsl z h) (Nat.le_trans hf6.size hf.size)
              · exact hql
            · rintro z (h | rfl)
              · exact HSX.out z h
              · omega
            · refine (HBW.out.trans (hf6.below hbs (fun z hz => by cases hz; exact HFX.out _ ((hx _).2 (.inr (.inl rfl)))))).trans (hf.below (Nat.le_trans hbs hf6.size) (fun z hz => by cases hz; omega))
          have HFIN := Lib.hid hFin
          have HXD := Lib.hid xd
          clear hFin x2 x3 xa2 xa3 xa4 xa5 xa6 xa7 xa8 xa9 xa10 xsl xx xd
          by_cases hpo : p % 2 = 1
          · have g1 : ((p : Int) % 2 == 1) = true := by rw [beq_iff_eq]; omega
            have hjl : m < (d.pend k).length := by have := HPL.out; have := HMP.out; omega
            have HJL := Lib.hid hjl
            obtain ⟨yv, hyv⟩ : ∃ yv, ys[m]? = some yv := ⟨_, List.getElem?_eq_getElem (by rw [HYL.out]; exact hjl)⟩
            obtain ⟨Y, hY⟩ : ∃ Y, (d.pend k)[m]? = some Y := ⟨_, List.getElem?_eq_getElem hjl⟩
            obtain ⟨yb, yq, rfl, hyS, hyc⟩ := HB4.out m _ hyv
            have hrd := HB5.out m _ _ hyv hY
            have HY64 : Hid (Y.length = 64) := Lib.hid (HD.out.ok.pend k _ (List.mem_of_getElem? hY))
            have HROW : Hid (Y.take 32 ++ r0.drop 32 = d.crashRow k p) := Lib.hid (by unfold Bd.crashRow; rw [if_pos hpo, ← HMP.out, List.getD_eq_getElem?_getD, hY, HR0.out]; rfl)
            obtain ⟨ya, yn, yc, rfl, hyr, hys⟩ := hrd
            obtain rfl : yn = 64 := by have := hyr.hlen; have := HY64.out; omega
            obtain ⟨sb, sq, rfl, _⟩ := hyr.get 0 (by have := HY64.out; omega)
            have HYR : Hid (RdB wr (some ⟨sb, sq, none⟩) 64 yc Y) := Lib.hid hyr
            have hyb := cell_lt hyc
            have hsb := HM.out.lt.2.1 _ (hys _ rfl)
            have HCAP : Hid (64 ≤ cq ∧ cq ≤ maxLen) := Lib.hid ⟨hq64, hqm⟩
            have hyl : (32 : Int) ≤ (yc : Int) := by have := hyr.hcap; omega
            have hyl2 : 32 ≤ yc := by have := hyr.hcap; omega
            have hp0 : (0 : Int) ≤ (m : Int) := by omega
            have hp1 : (m : Int) < ((d.pend k).length : Int) := by omega
            have HF6G : Hid (¬ (fun x => x = gg9) g ∧ ¬ (fun x => x = gg9) gw ∧ ¬ (fun x => x = gg9) yb ∧ ¬ (fun x => x = gg9) sb) := Lib.hid (by
              have hd := HD.out.lt
              have hg9 := HFX.out gg9 ((HXX.out gg9).2 (.inr (.inl rfl)))
              have hS := HD.out.lt.2.1
              have hg := HGL.out
              have hF := HD.out.lt.1
              refine ⟨fun e => ?_, fun e => ?_, fun e => ?_, fun e => ?_⟩
              · have e : g = gg9 := e
                omega
              · have e : gw = gg9 := e
                have := HGWF.out; omega
              · have e : yb = gg9 := e
                have := hS yb hyS; omega
              · have e : sb = gg9 := e
                have := hS sb (hys _ rfl); omega)
            have c1x : W6.cell? ⟨g, 1, none⟩ = some (.slice (some ⟨gw, 0, none⟩) d.good.length cw) := (HF6.out.cell (p := ⟨g, 1, none⟩) HH1.out.lt HF6G.out.1).trans c1
            have cyx : W6.cell? ⟨gw, k, none⟩ = some (.slice (some ⟨yb, yq, none⟩) (d.pend k).length c) := (HF6.out.cell (p := ⟨gw, k, none⟩) HGW.out HF6G.out.2.1).trans cy
            have cyy : W6.cell? ⟨yb, yq + m, none⟩ = some (.slice (some ⟨sb, sq, none⟩) 64 yc) := (HF6.out.cell (p := ⟨yb, yq + m, none⟩) hyb HF6G.out.2.2.1).trans hyc
            have HYR6 : Hid (W6.rangeAt sb sq (Y.map bV)) := Lib.hid (rd_range64 (HF6.out.rd HYR.out (fun p hp => by cases hp; exact HF6G.out.2.2.2)) HY64.out)
            have cgx : W6.cell? ⟨gx, 0, none⟩ = some (.slice (some ⟨gg9, 0, none⟩) d.good.length cg9) := (HF6.out.cell (p := ⟨gx, 0, none⟩) HX1.out.lt xn1).trans cx0
            have cgk : W6.cell? ⟨gg9, k, none⟩ = some (.slice (some ⟨q, 0, none⟩) 64 cq) := by rw [HGV.out.cell, List.getElem?_append_left (by rw [List.length_set]; exact HKX.out), List.getElem?_set, if_pos rfl, if_pos HKX.out]
            have hl6 := HF6.out.size
            have L6 : Hid (gx < W6.heap.size ∧ gg9 < W6.heap.size ∧ g < W6.heap.size ∧ gw < W6.heap.size ∧ yb < W6.heap.size ∧ sb < W6.heap.size) := Lib.hid ⟨Nat.lt_of_lt_of_le HX1.out.lt hl6, HGV.out.lt, Nat.lt_of_lt_of_le HH1.out.lt hl6, Nat.lt_of_lt_of_le HGW.out hl6, Nat.lt_of_lt_of_le hyb hl6, Nat.lt_of_lt_of_le hsb hl6⟩
            clear hpo hjl hyv hY hyr hys hyS hyc hyb hsb cy c1 cx0 hl6 hq64 hqm
            go_upto_region 16 with fail
            refine rgK 19 [(82, 0), (0, 1), (0, 2), (0, 3), (0, 4), (0, 5), (0, 6), (0, 7), (0, 8), (0, 9), (0, 10), (0, 11), (0, 12), (0, 13), (0, 14), (0, 15), (0, 16), (0, 17), (0, 18), (0, 19)] [kn (.pointer (some ⟨gx, 0, none⟩)), kn (.pointer (some ⟨gx, 0, none⟩)), kn (.pointer (some ⟨gx, 0, none⟩)), kn (.slice (some ⟨gg9, 0, none⟩) d.good.length cg9), kn (.int .i64 (k : Int)), kn (.pointer (some ⟨gg9, k, none⟩)), kn (.slice (some ⟨q, 0, none⟩) 64 cq), kn (.pointer (some ⟨g, 0, none⟩)), kn (.pointer (some ⟨g, 0, none⟩)), kn (.pointer (some ⟨g, 1, none⟩)), kn (.slice (some ⟨gw, 0, none⟩) d.good.length cw), kn (.int .i64 (k : Int)), kn (.pointer (some ⟨gw, k, none⟩)), kn (.slice (some ⟨yb, yq, none⟩) (d.pend k).length c), kn (.int .i64 (p : Int)), kn (.int .i64 (m : Int)), kn (.pointer (some ⟨yb, yq + m, none⟩)), kn (.slice (some ⟨sb, sq, none⟩) 64 yc), kn (.slice (some ⟨sb, sq, none⟩) 32 yc)] (fun W => Blk W q ((Y.take 32 ++ r0.drop 32).map bV ++ rq) 5 ∧ Fr (fun x => x = q) W6 W) ?_ (fun u8 W8 hP hv => ?_)
            · refine ⟨?_, ?_, ?_, ?_, ?_, ?_, ?_, ?_, ?_, ?_, ?_, ?_, ?_, ?_, ?_, ?_, ?_, ?_, ?_, ?_, trivial⟩
              · refine ktP (by omega) (.cons (c := 6) (by kernel_rfl) (.cons (c := 5) (by kernel_rfl) (.cons (c := 3) (by kernel_rfl) (.cons (c := 2) (by kernel_rfl) (.cons (c := 1) (by kernel_rfl) (.one (by kernel_rfl))))))) (by rfl) fun u W hb hu => ?_
                go_simp
              · refine ktP (by omega) (.cons (c := 6) (by kernel_rfl) (.cons (c := 5) (by kernel_rfl) (.cons (c := 3) (by kernel_rfl) (.cons (c := 2) (by kernel_rfl) (.one (by kernel_rfl)))))) (by rfl) fun u W hb hu => ?_
                have e0 : u 0 = .pointer (some ⟨gx, 0, none⟩) := hu 0 (by kernel_rfl) (by omega)
                go_simp
              · refine ktP (by omega) (.cons (c := 6) (by kernel_rfl) (.cons (c := 5) (by kernel_rfl) (.cons (c := 3) (by kernel_rfl) (.one (by kernel_rfl))))) (by rfl) fun u W hb hu => ?_
                have e1 : u 1 = .pointer (some ⟨gx, 0, none⟩) := hu 1 (by kernel_rfl) (by omega)
                go_simp
              · refine ktP (by omega) (.cons (c := 6) (by kernel_rfl) (.cons (c := 5) (by kernel_rfl) (.one (by kernel_rfl)))) (by rfl) fun u W hb hu => ?_
                have e2 : u 2 = .pointer (some ⟨gx, 0, none⟩) := hu 2 (by kernel_rfl) (by omega)
                have hc2 := (hb.cell (p := ⟨gx, 0, none⟩) L6.out.1).trans cgx
                go_simp
              · refine ktP (by omega) (.cons (c := 6) (by kernel_rfl) (.cons (c := 5) (by kernel_rfl) (.one (by kernel_rfl)))) (by rfl) fun u W hb hu => ?_
                go_simp
              · refine ktP (by omega) (.cons (c := 6) (by kernel_rfl) (.one (by kernel_rfl))) (by rfl) fun u W hb hu => ?_
                have e3 : u 3 = .slice (some ⟨gg9, 0, none⟩) d.good.length cg9 := hu 3 (by kernel_rfl) (by omega)
                have e4 : u 4 = .int .i64 (k : Int) := hu 4 (by kernel_rfl) (by omega)
                go_simp
                try rw [if_pos (by omega)]
              · refine ktP (by omega) (.one (by kernel_rfl)) (by rfl) fun u W hb hu => ?_
                have e5 : u 5 = .pointer (some ⟨gg9, k, none⟩) := hu 5 (by kernel_rfl) (by omega)
                have hc2 := (hb.cell (p := ⟨gg9, k, none⟩) L6.out.2.1).trans cgk
                go_simp
              · refine ktP (by omega) (.cons (c := 18) (by kernel_rfl) (.cons (c := 17) (by kernel_rfl) (.cons (c := 16) (by kernel_rfl) (.cons (c := 13) (by kernel_rfl) (.cons (c := 12) (by kernel_rfl) (.cons (c := 10) (by kernel_rfl) (.cons (c := 9) (by kernel_rfl) (.cons (c := 8) (by kernel_rfl) (.one (by kernel_rfl)))))))))) (by rfl) fun u W hb hu => ?_
                go_simp
              · refine ktP (by omega) (.cons (c := 18) (by kernel_rfl) (.cons (c := 17) (by kernel_rfl) (.cons (c := 16) (by kernel_rfl) (.cons (c := 13) (by kernel_rfl) (.cons (c := 12) (by kernel_rfl) (.cons (c := 10) (by kernel_rfl) (.cons (c := 9) (by kernel_rfl) (.one (by kernel_rfl))))))))) (by rfl) fun u W hb hu => ?_
                have e7 : u 7 = .pointer (some ⟨g, 0, none⟩) := hu 7 (by kernel_rfl) (by omega)
                go_simp
              · refine ktP (by omega) (.cons (c := 18) (by kernel_rfl) (.cons (c := 17) (by kernel_rfl) (.cons (c := 16) (by kernel_rfl) (.cons (c := 13) (by kernel_rfl) (.cons (c := 12) (by kernel_rfl) (.cons (c := 10) (by kernel_rfl) (.one (by kernel_rfl)))))))) (by rfl) fun u W hb hu => ?_
                have e8 : u 8 = .pointer (some ⟨g, 0, none⟩) := hu 8 (by kernel_rfl) (by omega)
                go_simp
              · refine ktP (by omega) (.cons (c := 18) (by kernel_rfl) (.cons (c := 17) (by kernel_rfl) (.cons (c := 16) (by kernel_rfl) (.cons (c := 13) (by kernel_rfl) (.cons (c := 12) (by kernel_rfl) (.one (by kernel_rfl))))))) (by rfl) fun u W hb hu => ?_
                have e9 : u 9 = .pointer (some ⟨g, 1, none⟩) := hu 9 (by kernel_rfl) (by omega)
                have hc2 := (hb.cell (p := ⟨g, 1, none⟩) L6.out.2.2.1).trans c1x
                go_simp
              · refine ktP (by omega) (.cons (c := 18) (by kernel_rfl) (.cons (c := 17) (by kernel_rfl) (.cons (c := 16) (by kernel_rfl) (.cons (c := 13) (by kernel_rfl) (.cons (c := 12) (by kernel_rfl) (.one (by kernel_rfl))))))) (by rfl) fun u W hb hu => ?_
                go_simp
              · refine ktP (by omega) (.cons (c := 18) (by kernel_rfl) (.cons (c := 17) (by kernel_rfl) (.cons (c := 16) (by kernel_rfl) (.cons (c := 13) (by kernel_rfl) (.one (by kernel_rfl)))))) (by rfl) fun u W hb hu => ?_
                have e10 : u 10 = .slice (some ⟨gw, 0, none⟩) d.good.length cw := hu 10 (by kernel_rfl) (by omega)
                have e11 : u 11 = .int .i64 (k : Int) := hu 11 (by kernel_rfl) (by omega)
                go_simp
                try rw [if_pos (by omega)]
              · refine ktP (by omega) (.cons (c := 18) (by kernel_rfl) (.cons (c := 17) (by kernel_rfl) (.cons (c := 16) (by kernel_rfl) (.one (by kernel_rfl))))) (by rfl) fun u W hb hu => ?_
                have e12 : u 12 = .pointer (some ⟨gw, k, none⟩) := hu 12 (by kernel_rfl) (by omega)
                have hc2 := (hb.cell (p := ⟨gw, k, none⟩) L6.out.2.2.2.1).trans cyx
                go_simp
              · refine ktP (by omega) (.cons (c := 18) (by kernel_rfl) (.cons (c := 17) (by kernel_rfl) (.cons (c := 16) (by kernel_rfl) (.cons (c := 15) (by kernel_rfl) (.one (by kernel_rfl)))))) (by rfl) fun u W hb hu => ?_
                go_simp
              · refine ktP (by omega) (.cons (c := 18) (by kernel_rfl) (.cons (c := 17) (by kernel_rfl) (.cons (c := 16) (by kernel_rfl) (.one (by kernel_rfl))))) (by rfl) fun u W hb hu => ?_
                have e14 : u 14 = .int .i64 (p : Int) := hu 14 (by kernel_rfl) (by omega)
                go_simp
                try exact hpw
              · refine ktP (by omega) (.cons (c := 18) (by kernel_rfl) (.cons (c := 17) (by kernel_rfl) (.one (by kernel_rfl)))) (by rfl) fun u W hb hu => ?_
                have e13 : u 13 = .slice (some ⟨yb, yq, none⟩) (d.pend k).length c := hu 13 (by kernel_rfl) (by omega)
                have e15 : u 15 = .int .i64 (m : Int) := hu 15 (by kernel_rfl) (by omega)
                go_simp
                try rw [if_pos (by omega)]
                try (simp [addr_add]; done)
              · refine ktP (by omega) (.cons (c := 18) (by kernel_rfl) (.one (by kernel_rfl))) (by rfl) fun u W hb hu => ?_
                have e16 : u 16 = .pointer (some ⟨yb, yq + m, none⟩) := hu 16 (by kernel_rfl) (by omega)
                have hc2 := (hb.cell (p := ⟨yb, yq + m, none⟩) L6.out.2.2.2.2.1).trans cyy
                go_simp
              · refine ktP (by omega) (.one (by kernel_rfl)) (by rfl) fun u W hb hu => ?_
                have e17 : u 17 = .slice (some ⟨sb, sq, none⟩) 64 yc := hu 17 (by kernel_rfl) (by omega)
                go_simp
                try rw [if_pos (by omega)]
              · refine ktV fun u W hb hu => ?_
                have e6 : u 6 = .slice (some ⟨q, 0, none⟩) 64 cq := hu 6 (by kernel_rfl) (by omega)
                have e18 : u 18 = .slice (some ⟨sb, sq, none⟩) 32 yc := hu 18 (by kernel_rfl) (by omega)
                have hBW := HQ.out.below hb HQ.out.lt
                have hrg : W.rangeAt sb sq (Y.map bV) := fun j v hv => (hb.cell (p := ⟨sb, sq + j, none⟩) L6.out.2.2.2.2.2).trans (HYR6.out j v hv)
                exact ⟨_, _, run_copy_32 rfl (by exact e6) (by exact e18) hBW HR64.out hrg HY64.out, half_over hBW HR64.out HY64.out, (Fr.of_below hb).trans (Fr.cellsS _ _ _ (Fr.refl _ _)) (fun x hx => .inl hx)⟩
            obtain ⟨p1, p2⟩ := hP
            have HEND := Lib.hid (HFIN.out W8 _ p2 p1 HROW.out HCAP.out)
            clear p1 p2 hv
            rename_i aK _
            refine aK _ _ ?_
            clear aK
            obtain rfl := HP0.out
            go_wp2
            obtain ⟨S', z1, z2, z3⟩ := HEND.out
            go_roundw
            case rel => first | exact ⟨k + 1, S', by have := HLT.out; omega, by go_num, by rw [HBN.out]; go_num, z1, z2, z3⟩ | exact ⟨k + 1, S', by have := HLT.out; omega, by go_num, by rw [HBN.out], z1, z2, z3⟩ | ((repeat apply Exists.intro); first | exact ⟨⟨k + 1, S', by have := HLT.out; omega, by go_num, by rw [HBN.out]; go_num, z1, z2, z3⟩, rfl⟩ | exact ⟨⟨k + 1, S', by have := HLT.out; omega, by go_num, by rw [HBN.out], z1, z2, z3⟩, rfl⟩)
            case measure => have := HLT.out; simp [intOf]; omega
          · have g1 : ((p : Int) % 2 == 1) = false := by rw [beq_eq_false_iff_ne]; omega
            have HROW : Hid (r0 = d.crashRow k p) := Lib.hid (by unfold Bd.crashRow; rw [if_neg hpo, HR0.out, HMP.out])
            have HEND := Lib.hid (HFIN.out W6 r0 (Fr.refl _ _) HQ.out HROW.out ⟨hq64, hqm⟩)
            clear hpo c1 cy cx0 hq64 hqm
            obtain rfl := HP0.out
            go_wp2
            obtain ⟨S', z1, z2, z3⟩ := HEND.out
            go_roundw
            case rel => first | exact ⟨k + 1, S', by have := HLT.out; omega, by go_num, by rw [HBN.out]; go_num, z1, z2, z3⟩ | exact ⟨k + 1, S', by have := HLT.out; omega, by go_num, by rw [HBN.out], z1, z2, z3⟩ | ((repeat apply Exists.intro); first | exact ⟨⟨k + 1, S', by have := HLT.out; omega, by go_num, by rw [HBN.out]; go_num, z1, z2, z3⟩, rfl⟩ | exact ⟨⟨k + 1, S', by have := HLT.out; omega, by go_num, by rw [HBN.out], z1, z2, z3⟩, rfl⟩)
            case measure => have := HLT.out; simp [intOf]; omega
        · have hpe : picks ≠ [] := fun e => by have := HPI.out.hlen; rw [e] at this; simp at this; omega
          have y1 : decide ((0 : Int) < (np : Int)) = true := decide_eq_true (by omega)
          have y2 : decide (0 < np) = true := decide_eq_true (by omega)
          obtain ⟨pb, po, rfl, hpc⟩ := (HPI.out.below HBW.out).get (d.before k % np) (by rw [HPI.out.hlen]; exact Nat.mod_lt _ hnp)
          obtain ⟨pick, hpk2⟩ : ∃ pick, pick = picks[d.before k % np]'(by rw [HPI.out.hlen]; exact Nat.mod_lt _ hnp) := ⟨_, rfl⟩
          rw [← hpk2] at hpc
          have hpw : -9223372036854775808 ≤ pick ∧ pick ≤ 9223372036854775807 := by rw [hpk2]; exact HPI.out.wf _ (List.getElem_mem _)
          have hnp2 : (np : Int) ≠ 0 := by omega
          have hnp3 : np ≠ 0 := by omega
          have hq1 : ((d.before k : Nat) : Int).tmod (np : Int) = ((d.before k % np : Nat) : Int) := pick_rem hnp
          have hm0 : (0 : Int) ≤ ((d.before k % np : Nat) : Int) := by omega
          have hm1 : ((d.before k % np : Nat) : Int) < (np : Int) := by have := Nat.mod_lt (d.before k) hnp; omega
          have hmm : d.before k % picks.length = d.before k % np := by rw [HPI.out.hlen]
          have hpt : picks.getD (d.before k % picks.length) 0 = pick := by rw [hmm, hpk2, List.getD_eq_getElem?_getD, List.getElem?_eq_getElem (by rw [HPI.out.hlen]; exact Nat.mod_lt _ hnp)]; rfl
          obtain ⟨p, hp⟩ : ∃ p : Nat, p = (pick % ((2 * (d.pend k).length + 1 : Nat) : Int)).toNat := ⟨_, rfl⟩
          have hR : d.crashAt picks k = d.crashRow k p := by rw [Bd.crashAt_some hw0 hpe, hpt, hp]
          have hPL : p ≤ 2 * (d.pend k).length := by
            have h1 := Int.emod_lt_of_pos pick (show (0 : Int) < ((2 * (d.pend k).length + 1 : Nat) : Int) by exact Int.natCast_pos.2 (Nat.succ_pos _))
            clear hq1 hpk2 hpw hpt hm0 hm1 hR; omega
          have HPV := Lib.hid hp; have HR := Lib.hid hR; have HPL := Lib.hid hPL; have HBN := Lib.hid hbn
          clear hpt hpk2 hp hpw hpe hmm hR hPL hbn
          by_cases htn : pick.tmod (2 * ((d.pend k).length : Int) + 1) < 0
          · have HPM : Hid (wrap64 (wrap64 (pick.tmod (2 * ((d.pend k).length : Int) + 1) + 2 * ((d.pend k).length : Int)) + 1) = (p : Int)) := Lib.hid (by rw [HPV.out]; exact pick_minus HCNT.out htn)
            have ht1 : decide (pick.tmod (2 * ((d.pend k).length : Int) + 1) < 0) = true := decide_eq_true htn
            clear htn
            go_upto_region 14 with fail
            rw [HPM.out]
            clear ht1 hq1 hm0 hm1 hpc y1 y2 z1 z2
            obtain ⟨gg9, cg9, gw9, cw9, l9, x1, x2, x3, xR⟩ := HMX.out.ex
            obtain ⟨gvx, rgx, wvx, rwx, xa1, xa2, xa3, xa4, xa5, xa6, xa7, xa8, xa9, xa10, xn1, xn2, xn3, xx, xd, xsl⟩ := xR.ex
            have cx0 : wr.cell? ⟨gx, 0, none⟩ = some (.slice (some ⟨gg9, 0, none⟩) d.good.length cg9) := by have := x1.cell 0; rw [show (mdS gg9 cg9 gw9 cw9 (d.cN picks k) l9)[0]? = some (.slice (some ⟨gg9, 0, none⟩) (d.cN picks k).good.length cg9) from rfl, Bd.cN_len] at this; exact this
            have HX1 := Lib.hid x1; have HXA := Lib.hid xa1
            have HKX : Hid (k < gvx.length) := Lib.hid (by rw [xa2, Bd.cN_len]; exact HLT.out)
            have HSL : Hid (∀ x, S x → ¬ zone (fun _ => False) wr.heap.size x) := Lib.hid (fun x hx hz => by rcases hz with h | h; exact h; have := HM.out.lt.2.1 x hx; omega)
            obtain ⟨m, hm⟩ : ∃ m, m = p / 2 := ⟨_, rfl⟩
            have HMP := Lib.hid hm
            obtain ⟨r0, hr0⟩ : ∃ r0, r0 = d.at k m := ⟨_, rfl⟩
            have HR0 := Lib.hid hr0
            have HR64 : Hid (r0.length = 64) := Lib.hid (by rw [hr0, hm]; exact Bd.at_len HD.out.ok HLT.out (by have := HPL.out; omega))
            have hpw : IntKind.i64.wrap ((p : Int) / 2) = (m : Int) := by rw [IntKind.wrap_i64]; have := HPL.out; have := HCNT.out; omega
            have HXX := Lib.hid xx
            clear hr0 hm x1 xa1 xR
            refine rgS 13 13 (fun _ => False) [(66, 0), (0, 1), (0, 2), (0, 3), (0, 4), (0, 5), (0, 6), (0, 7), (0, 8), (0, 9), (0, 10), (0, 11), (0, 12)] [kv (.pointer (some ⟨gx, 0, none⟩)), kv (.pointer (some ⟨gx, 0, none⟩)), kv (.pointer (some ⟨gx, 0, none⟩)), kv (.slice (some ⟨gg9, 0, none⟩) d.good.length cg9), kv (.int .i64 (k : Int)), (owF 5 1 0 []), kv (.pointer (some ⟨g, 0, none⟩)), kv (.int .i64 (k : Int)), kv (.int .i64 (p : Int)), kv (.int .i64 (m : Int)), (rdSF S HSL.out r0), (owF 5 1 r0.length (r0.map bV)), kv (.pointer (some ⟨gg9, k, none⟩))] [none, none, none, none, none, some 11, none, none, none, none, none, none, none] (fun W => ∃ (v : Value) (q cq : Nat) (rq : List Value), v = .slice (some ⟨q, 0, none⟩) 64 cq ∧ Blk W q (r0.map bV ++ rq) 5 ∧ wr.heap.size ≤ q ∧ Blk W gg9 (gvx.set k (.slice (some ⟨q, 0, none⟩) 64 cq) ++ rgx) 26 ∧ Fr (fun x => x = gg9) wr W ∧ 64 ≤ cq ∧ cq ≤ maxLen) ?_ (fun u6 W6 hP hv => ?_)
            · refine ⟨?_, ?_, ?_, ?_, ?_, ?_, ?_, ?_, ?_, ?_, ?_, ?_, ?_, ?_, trivial⟩
              · refine ksP (fun _ h => h.elim) (by omega) (.cons (c := 12) (by kernel_rfl) (.cons (c := 3) (by kernel_rfl) (.cons (c := 2) (by kernel_rfl) (.cons (c := 1) (by kernel_rfl) (.one (by kernel_rfl)))))) (by rfl) fun L u W gh hc => ?_
                have hb := hc.before (.inr (.cons (c := 12) (by kernel_rfl) (.cons (c := 3) (by kernel_rfl) (.cons (c := 2) (by kernel_rfl) (.cons (c := 1) (by kernel_rfl) (.one (by kernel_rfl)))))))
                go_simp
              · refine ksP (fun _ h => h.elim) (by omega) (.cons (c := 12) (by kernel_rfl) (.cons (c := 3) (by kernel_rfl) (.cons (c := 2) (by kernel_rfl) (.one (by kernel_rfl))))) (by rfl) fun L u W gh hc => ?_
                have e0 : u 0 = .pointer (some ⟨gx, 0, none⟩) := hc.val 0 (by kernel_rfl) (by omega) _ rfl
                have hb := hc.before (.inr (.cons (c := 12) (by kernel_rfl) (.cons (c := 3) (by kernel_rfl) (.cons (c := 2) (by kernel_rfl) (.one (by kernel_rfl))))))
                go_simp
              · refine ksP (fun _ h => h.elim) (by omega) (.cons (c := 12) (by kernel_rfl) (.cons (c := 3) (by kernel_rfl) (.one (by kernel_rfl)))) (by rfl) fun L u W gh hc => ?_
                have e1 : u 1 = .pointer (some ⟨gx, 0, none⟩) := hc.val 1 (by kernel_rfl) (by omega) _ rfl
                have hb := hc.before (.inr (.cons (c := 12) (by kernel_rfl) (.cons (c := 3) (by kernel_rfl) (.one (by kernel_rfl)))))
                go_simp
              · refine ksP (fun _ h => h.elim) (by omega) (.cons (c := 12) (by kernel_rfl) (.one (by kernel_rfl))) (by rfl) fun L u W gh hc => ?_
                have e2 : u 2 = .pointer (some ⟨gx, 0, none⟩) := hc.val 2 (by kernel_rfl) (by omega) _ rfl
                have hb := hc.before (.inr (.cons (c := 12) (by kernel_rfl) (.one (by kernel_rfl))))
                have hc2 := (hb.cell (p := ⟨gx, 0, none⟩) HX1.out.lt).trans cx0
                go_simp
              · refine ksP (fun _ h => h.elim) (by omega) (.cons (c := 12) (by kernel_rfl) (.one (by kernel_rfl))) (by rfl) fun L u W gh hc => ?_
                have hb := hc.before (.inr (.cons (c := 12) (by kernel_rfl) (.one (by kernel_rfl))))
                go_simp
              · refine ksM (fun _ h => h.elim) (by omega) (.cons (c := 11) (by kernel_rfl) (.one (by kernel_rfl))) fun L u W gh hc => ?_
                have hb := hc.before (.inr (.cons (c := 11) (by kernel_rfl) (.one (by kernel_rfl))))
                exact ⟨_, _, fun x => x = W.heap.size, run_new0 elB rfl, (Fr.refl _ _).alloc _, ⟨own_new (xs := []) (by rfl) (by unfold maxLen; omega), fun x hx => by cases hx; rfl⟩, fun x e => (by cases e), fun x hx => .inr (Nat.le_of_eq hx.symm), fun x hx => by subst hx; simp⟩
              · refine ksP (fun _ h => h.elim) (by omega) (.cons (c := 11) (by kernel_rfl) (.cons (c := 10) (by kernel_rfl) (.one (by kernel_rfl)))) (by rfl) fun L u W gh hc => ?_
                have hb := hc.before (.inr (.cons (c := 11) (by kernel_rfl) (.cons (c := 10) (by kernel_rfl) (.one (by kernel_rfl)))))
                go_simp
              · refine ksP (fun _ h => h.elim) (by omega) (.cons (c := 11) (by kernel_rfl) (.cons (c := 10) (by kernel_rfl) (.one (by kernel_rfl)))) (by rfl) fun L u W gh hc => ?_
                have hb := hc.before (.inr (.cons (c := 11) (by kernel_rfl) (.cons (c := 10) (by kernel_rfl) (.one (by kernel_rfl)))))
                go_simp
              · refine ksP (fun _ h => h.elim) (by omega) (.cons (c := 11) (by kernel_rfl) (.cons (c := 10) (by kernel_rfl) (.cons (c := 9) (by kernel_rfl) (.one (by kernel_rfl))))) (by rfl) fun L u W gh hc => ?_
                have hb := hc.before (.inr (.cons (c := 11) (by kernel_rfl) (.cons (c := 10) (by kernel_rfl) (.cons (c := 9) (by kernel_rfl) (.one (by kernel_rfl))))))
                go_simp
              · refine ksP (fun _ h => h.elim) (by omega) (.cons (c := 11) (by kernel_rfl) (.cons (c := 10) (by kernel_rfl) (.one (by kernel_rfl)))) (by rfl) fun L u W gh hc => ?_
                have e8 : u 8 = .int .i64 (p : Int) := hc.val 8 (by kernel_rfl) (by omega) _ rfl
                have hb := hc.before (.inr (.cons (c := 11) (by kernel_rfl) (.cons (c := 10) (by kernel_rfl) (.one (by kernel_rfl)))))
                go_simp
                try exact hpw
              · refine ksC (fun _ h => h.elim) (by omega) (.cons (c := 11) (by kernel_rfl) (.one (by kernel_rfl))) fun L u W gh hc K hK => ?_
                have e6 : u 6 = .pointer (some ⟨g, 0, none⟩) := hc.val 6 (by kernel_rfl) (by omega) _ rfl
                have e7 : u 7 = .int .i64 (k : Int) := hc.val 7 (by kernel_rfl) (by omega) _ rfl
                have e9 : u 9 = .int .i64 (m : Int) := hc.val 9 (by kernel_rfl) (by omega) _ rfl
                have hb := hc.before (.inr (.cons (c := 11) (by kernel_rfl) (.one (by kernel_rfl))))
                go_simp
                go_at_call 36
                (with_reducible refine (dAt_any (n := m) (HM.out.later hb) HLT.out HN.out (by have := HPL.out; have := HMP.out; omega)).mono ?_); rintro e w6 ⟨rfl, v, rfl, hv⟩
                rw [← HR0.out] at hv
                have hk9 := hK.out v _ (fun _ => False) (Fr.refl _ _) hv (fun x e => (by cases e)) (fun _ h => h.elim) (fun _ h => h.elim)
                first | exact hk9 | (simp only [e6, e7, e9] at hk9; exact hk9)
              · refine ksM (fun _ h => h.elim) (by omega) (.one (by kernel_rfl)) fun L u W gh hc => ?_
                have t5 := hc.fact 5 (by kernel_rfl) (by omega) (fun t ht => by cases ht; exact hc.free _ (.inl rfl))
                have f5 := hc.foot 5 (by kernel_rfl) (by omega) (fun t ht => by cases ht; exact hc.free _ (.inl rfl))
                have t10 := hc.fact 10 (by kernel_rfl) (by omega) (fun t ht => by cases ht)
                have f10 := hc.foot 10 (by kernel_rfl) (by omega) (fun t ht => by cases ht)
                have hb := hc.before (.inr (.one (by kernel_rfl)))
                obtain ⟨ra, rn, rc, ev, hr, hrs⟩ := t10
                have hnw := RdB.news hr
                obtain ⟨v', w', hrun, hf, hP, hS, hlt⟩ := app_res elB t5 hnw.1 hnw.2.1 hnw.2.2 (bytes_one r0) (by have := hr.hlen; have := HR64.out; unfold maxLen; omega) (by have := hr.hlen; have := HR64.out; omega)
                exact ⟨v', w', fun x => v'.ownBlock = some x, hrun _ _ _ _ rfl rfl (by exact rfl) (by exact ev), hf.mono (fun x hx => .inl ⟨5, by kernel_rfl, by omega, rfl, t5.2 x hx⟩), (by have := hr.hlen; rw [this]; simpa using hP), fun x e => (by cases e), fun x hx => (hS x hx).imp (fun h => ⟨5, by kernel_rfl, by omega, rfl, t5.2 x h⟩) id, hlt⟩
              · refine ksP (fun _ h => h.elim) (by omega) (.one (by kernel_rfl)) (by rfl) fun L u W gh hc => ?_
                have e3 : u 3 = .slice (some ⟨gg9, 0, none⟩) d.good.length cg9 := hc.val 3 (by kernel_rfl) (by omega) _ rfl
                have e4 : u 4 = .int .i64 (k : Int) := hc.val 4 (by kernel_rfl) (by omega) _ rfl
                have hb := hc.before (.inr (.one (by kernel_rfl)))
                go_simp
                try rw [if_pos (by omega)]
              · refine ksL fun L u W gh hc => ?_
                have e12 : u 12 = .pointer (some ⟨gg9, k, none⟩) := hc.val 12 (by kernel_rfl) (by omega) _ rfl
                have t11 := hc.fact 11 (by kernel_rfl) (by omega) (fun t ht => by cases ht)
                have f11 := hc.foot 11 (by kernel_rfl) (by omega) (fun t ht => by cases ht)
                have hb := hc.before (.inl rfl)
                obtain ⟨a1, a2⟩ := t11
                obtain ⟨q, cq, rq, ev, hqB, hq1, hq2⟩ := own_slot a1 (by have := HR64.out; omega)
                have hb := hc.old (hc.free 13 (.inl rfl))
                have hBW := HXA.out.below hb HXA.out.lt
                have hfs : Fr (fun x => x = gg9) W (W.setCell ⟨gg9, k, none⟩ (u 11)) := (Fr.refl _ _).one _
                have hqn : wr.heap.size ≤ q := by rcases (f11 q (a2 q (by rw [ev]; rfl))).1 with h | ⟨h, _⟩; exact h; exact h.elim
                obtain ⟨vo, hvo⟩ : ∃ vo, W.cell? ⟨gg9, k, none⟩ = some vo := ⟨_, by rw [hBW.cell, List.getElem?_append_left HKX.out, List.getElem?_eq_getElem HKX.out]⟩
                refine ⟨_, _, _, run_store1 rfl (by exact e12) (by rfl) hvo (hBW.frozen k) (by rw [ev]; rfl) Try.sizeOf26, .inl ⟨rfl, rfl⟩, u 11, q, cq, rq, ?_, ?_, hqn, ?_, (hc.fr.mono (F' := fun x => x = gg9) (fun x hx => hx.elim)).trans hfs (fun x hx => .inl hx), by have := HR64.out; omega, hq2⟩
                · rw [ev, HR64.out]
                · exact hfs.blk hqB (by have := HXA.out.lt; omega)
                · have hset := hBW.set k (u 11)
                  rw [List.set_append_left _ _ HKX.out, ev, HR64.out] at hset
                  rw [ev, HR64.out]; exact hset
            obtain ⟨v, q, cq, rq, p1, p2, p3, p4, p5, hq64, hqm⟩ := hP
            have HQ := Lib.hid p2; have HQN := Lib.hid p3; have HGV := Lib.hid p4; have HF6 := Lib.hid p5
            subst p1
            clear p2 p3 p4 p5 hv
            have hFin : ∀ (W : World) (row : List UInt8), Fr (fun x => x = q) W6 W → Blk W q (row.map bV ++ rq) 5 → row = d.crashRow k p → 64 ≤ cq ∧ cq ≤ maxLen → ∃ S', Md W gx (d.cN picks (k + 1)) Fx S' ∧ (∀ x, S' x → w.heap.size ≤ x) ∧ Below w.heap.size w W := by
              rintro W row hf hB rfl ⟨hcq1, hcq2⟩
              have hrl : (d.crashRow k p).length = 64 := Bd.crashRow_len HD.out.ok HLT.out (by have := HPL.out; omega)
              have hx := HXX.out
              have hqn := HQN.out
              have hql := hB.lt
              have l1 := HX1.out.lt; have l2 := HXA.out.lt; have l3 := xa4.lt
              have hbs := HBW.out.size
              have hf6 := HF6.out
              have hst := Bd.cN_step (picks := picks) HLT.out
              have hggS : ∀ z, Sx z → ¬ (z = gg9) := fun z hz e => xd z hz ((hx z).2 (.inr (.inl e)))
              have hqS : ∀ z, Sx z → ¬ (z = q) := fun z hz e => by have := xsl z hz; omega
              refine ⟨fun z => Sx z ∨ z = q, ⟨Bd.cN_ok HD.out.ok picks (k + 1), gg9, cg9, gw9, cw9, l9, ?_, x2, x3, gvx.set k (.slice (some ⟨q, 0, none⟩) 64 cq), rgx, wvx, rwx, hf.blk HGV.out (by omega), ?_, ?_, ?_, ?_, ?_, ?_, xa8, ?_, xa10, xn1, xn2, xn3, hx, ?_, ?_⟩, ?_, ?_⟩
              · have hb := hf.blk (hf6.blk HX1.out xn1) (by omega)
                have e : mdS gg9 cg9 gw9 cw9 (d.cN picks (k + 1)) l9 = mdS gg9 cg9 gw9 cw9 (d.cN picks k) l9 := by unfold mdS; rw [Bd.cN_len, Bd.cN_len]; rfl
                rw [e]; exact hb
              · rw [List.length_set, xa2, Bd.cN_len, Bd.cN_len]
              · intro j z r hz hr
                rw [hst] at hr
                rw [List.getElem?_set] at hz hr
                by_cases e : k = j
                · subst e
                  rw [if_pos rfl, if_pos HKX.out] at hz
                  rw [if_pos rfl, if_pos (by rw [Bd.cN_len]; exact HLT.out)] at hr
                  cases hz; cases hr
                  rw [HR.out]
                  exact ⟨_, _, _, rfl, RdB.blk rq hB hrl hcq1 hcq2, fun p hp => by cases hp; exact .inr rfl⟩
                · rw [if_neg e] at hz hr
                  exact (((xa3 j z r hz hr).frame hf6 hggS).frame hf hqS).mono (fun x h => .inl h)
              · exact hf.blk (hf6.blk xa4 (fun e => xn3 e.symm)) (by omega)
              · rw [xa5, Bd.cN_len, Bd.cN_len]
              · intro j z hz
                exact (((xa6 j z hz).frame hf6 hggS).frame hf hqS).mono (fun x h => .inl h)
              · rw [Bd.cN_len]; rw [Bd.cN_len] at xa7; exact xa7
              · rw [Bd.cN_len]; rw [Bd.cN_len] at xa9; exact xa9
              · rintro z (h | rfl)
                · exact xd z h
                · intro hz
                  rcases (hx _).1 hz with e | e | e <;> omega
              · rintro z (h | rfl)
                · exact Nat.lt_of_lt_of_le (xsl z h) (Nat.le_trans hf6.size hf.size)
                · exact hql
              · rintro z (h | rfl)
                · exact HSX.out z h
                · omega
              · refine (HBW.out.trans (hf6.below hbs (fun z hz => by cases hz; exact HFX.out _ ((hx _).2 (.inr (.inl rfl)))))).trans (hf.below (Nat.le_trans hbs hf6.size) (fun z hz => by cases hz; omega))
            have HFIN := Lib.hid hFin
            have HXD := Lib.hid xd
            clear hFin x2 x3 xa2 xa3 xa4 xa5 xa6 xa7 xa8 xa9 xa10 xsl xx xd
            by_cases hpo : p % 2 = 1
            · have g1 : ((p : Int) % 2 == 1) = true := by rw [beq_iff_eq]; omega
              have hjl : m < (d.pend k).length := by have := HPL.out; have := HMP.out; omega
              have HJL := Lib.hid hjl
              obtain ⟨yv, hyv⟩ : ∃ yv, ys[m]? = some yv := ⟨_, List.getElem?_eq_getElem (by rw [HYL.out]; exact hjl)⟩
              obtain ⟨Y, hY⟩ : ∃ Y, (d.pend k)[m]? = some Y := ⟨_, List.getElem?_eq_getElem hjl⟩
              obtain ⟨yb, yq, rfl, hyS, hyc⟩ := HB4.out m _ hyv
              have hrd := HB5.out m _ _ hyv hY
              have HY64 : Hid (Y.length = 64) := Lib.hid (HD.out.ok.pend k _ (List.mem_of_getElem? hY))
              have HROW : Hid (Y.take 32 ++ r0.drop 32 = d.crashRow k p) := Lib.hid (by unfold Bd.crashRow; rw [if_pos hpo, ← HMP.out, List.getD_eq_getElem?_getD, hY, HR0.out]; rfl)
              obtain ⟨ya, yn, yc, rfl, hyr, hys⟩ := hrd
              obtain rfl : yn = 64 := by have := hyr.hlen; have := HY64.out; omega
              obtain ⟨sb, sq, rfl, _⟩ := hyr.get 0 (by have := HY64.out; omega)
              have HYR : Hid (RdB wr (some ⟨sb, sq, none⟩) 64 yc Y) := Lib.hid hyr
              have hyb := cell_lt hyc
              have hsb := HM.out.lt.2.1 _ (hys _ rfl)
              have HCAP : Hid (64 ≤ cq ∧ cq ≤ maxLen) := Lib.hid ⟨hq64, hqm⟩
              have hyl : (32 : Int) ≤ (yc : Int) := by have := hyr.hcap; omega
              have hyl2 : 32 ≤ yc := by have := hyr.hcap; omega
              have hp0 : (0 : Int) ≤ (m : Int) := by omega
              have hp1 : (m : Int) < ((d.pend k).length : Int) := by omega
              have HF6G : Hid (¬ (fun x => x = gg9) g ∧ ¬ (fun x => x = gg9) gw ∧ ¬ (fun x => x = gg9) yb ∧ ¬ (fun x => x = gg9) sb) := Lib.hid (by
                have hd := HD.out.lt
                have hg9 := HFX.out gg9 ((HXX.out gg9).2 (.inr (.inl rfl)))
                have hS := HD.out.lt.2.1
                have hg := HGL.out
                have hF := HD.out.lt.1
                refine ⟨fun e => ?_, fun e => ?_, fun e => ?_, fun e => ?_⟩
                · have e : g = gg9 := e
                  omega
                · have e : gw = gg9 := e
                  have := HGWF.out; omega
                · have e : yb = gg9 := e
                  have := hS yb hyS; omega
                · have e : sb = gg9 := e
                  have := hS sb (hys _ rfl); omega)
              have c1x : W6.cell? ⟨g, 1, none⟩ = some (.slice (some ⟨gw, 0, none⟩) d.good.length cw) := (HF6.out.cell (p := ⟨g, 1, none⟩) HH1.out.lt HF6G.out.1).trans c1
              have cyx : W6.cell? ⟨gw, k, none⟩ = some (.slice (some ⟨yb, yq, none⟩) (d.pend k).length c) := (HF6.out.cell (p := ⟨gw, k, none⟩) HGW.out HF6G.out.2.1).trans cy
              have cyy : W6.cell? ⟨yb, yq + m, none⟩ = some (.slice (some ⟨sb, sq, none⟩) 64 yc) := (HF6.out.cell (p := ⟨yb, yq + m, none⟩) hyb HF6G.out.2.2.1).trans hyc
              have HYR6 : Hid (W6.rangeAt sb sq (Y.map bV)) := Lib.hid (rd_range64 (HF6.out.rd HYR.out (fun p hp => by cases hp; exact HF6G.out.2.2.2)) HY64.out)
              have cgx : W6.cell? ⟨gx, 0, none⟩ = some (.slice (some ⟨gg9, 0, none⟩) d.good.length cg9) := (HF6.out.cell (p := ⟨gx, 0, none⟩) HX1.out.lt xn1).trans cx0
              have cgk : W6.cell? ⟨gg9, k, none⟩ = some (.slice (some ⟨q, 0, none⟩) 64 cq) := by rw [HGV.out.cell, List.getElem?_append_left (by rw [List.length_set]; exact HKX.out), List.getElem?_set, if_pos rfl, if_pos HKX.out]
              have hl6 := HF6.out.size
              have L6 : Hid (gx < W6.heap.size ∧ gg9 < W6.heap.size ∧ g < W6.heap.size ∧ gw < W6.heap.size ∧ yb < W6.heap.size ∧ sb < W6.heap.size) := Lib.hid ⟨Nat.lt_of_lt_of_le HX1.out.lt hl6, HGV.out.lt, Nat.lt_of_lt_of_le HH1.out.lt hl6, Nat.lt_of_lt_of_le HGW.out hl6, Nat.lt_of_lt_of_le hyb hl6, Nat.lt_of_lt_of_le hsb hl6⟩
              clear hpo hjl hyv hY hyr hys hyS hyc hyb hsb cy c1 cx0 hl6 hq64 hqm
              go_upto_region 16 with fail
              refine rgK 19 [(82, 0), (0, 1), (0, 2), (0, 3), (0, 4), (0, 5), (0, 6), (0, 7), (0, 8), (0, 9), (0, 10), (0, 11), (0, 12), (0, 13), (0, 14), (0, 15), (0, 16), (0, 17), (0, 18), (0, 19)] [kn (.pointer (some ⟨gx, 0, none⟩)), kn (.pointer (some ⟨gx, 0, none⟩)), kn (.pointer (some ⟨gx, 0, none⟩)), kn (.slice (some ⟨gg9, 0, none⟩) d.good.length cg9), kn (.int .i64 (k : Int)), kn (.pointer (some ⟨gg9, k, none⟩)), kn (.slice (some ⟨q, 0, none⟩) 64 cq), kn (.pointer (some ⟨g, 0, none⟩)), kn (.pointer (some ⟨g, 0, none⟩)), kn (.pointer (some ⟨g, 1, none⟩)), kn (.slice (some ⟨gw, 0, none⟩) d.good.length cw), kn (.int .i64 (k : Int)), kn (.pointer (some ⟨gw, k, none⟩)), kn (.slice (some ⟨yb, yq, none⟩) (d.pend k).length c), kn (.int .i64 (p : Int)), kn (.int .i64 (m : Int)), kn (.pointer (some ⟨yb, yq + m, none⟩)), kn (.slice (some ⟨sb, sq, none⟩) 64 yc), kn (.slice (some ⟨sb, sq, none⟩) 32 yc)] (fun W => Blk W q ((Y.take 32 ++ r0.drop 32).map bV ++ rq) 5 ∧ Fr (fun x => x = q) W6 W) ?_ (fun u8 W8 hP hv => ?_)
              · refine ⟨?_, ?_, ?_, ?_, ?_, ?_, ?_, ?_, ?_, ?_, ?_, ?_, ?_, ?_, ?_, ?_, ?_, ?_, ?_, ?_, trivial⟩
                · refine ktP (by omega) (.cons (c := 6) (by kernel_rfl) (.cons (c := 5) (by kernel_rfl) (.cons (c := 3) (by kernel_rfl) (.cons (c := 2) (by kernel_rfl) (.cons (c := 1) (by kernel_rfl) (.one (by kernel_rfl))))))) (by rfl) fun u W hb hu => ?_
                  go_simp
                · refine ktP (by omega) (.cons (c := 6) (by kernel_rfl) (.cons (c := 5) (by kernel_rfl) (.cons (c := 3) (by kernel_rfl) (.cons (c := 2) (by kernel_rfl) (.one (by kernel_rfl)))))) (by rfl) fun u W hb hu => ?_
                  have e0 : u 0 = .pointer (some ⟨gx, 0, none⟩) := hu 0 (by kernel_rfl) (by omega)
                  go_simp
                · refine ktP (by omega) (.cons (c := 6) (by kernel_rfl) (.cons (c := 5) (by kernel_rfl) (.cons (c := 3) (by kernel_rfl) (.one (by kernel_rfl))))) (by rfl) fun u W hb hu => ?_
                  have e1 : u 1 = .pointer (some ⟨gx, 0, none⟩) := hu 1 (by kernel_rfl) (by omega)
                  go_simp
                · refine ktP (by omega) (.cons (c := 6) (by kernel_rfl) (.cons (c := 5) (by kernel_rfl) (.one (by kernel_rfl)))) (by rfl) fun u W hb hu => ?_
                  have e2 : u 2 = .pointer (some ⟨gx, 0, none⟩) := hu 2 (by kernel_rfl) (by omega)
                  have hc2 := (hb.cell (p := ⟨gx, 0, none⟩) L6.out.1).trans cgx
                  go_simp
                · refine ktP (by omega) (.cons (c := 6) (by kernel_rfl) (.cons (c := 5) (by kernel_rfl) (.one (by kernel_rfl)))) (by rfl) fun u W hb hu => ?_
                  go_simp
                · refine ktP (by omega) (.cons (c := 6) (by kernel_rfl) (.one (by kernel_rfl))) (by rfl) fun u W hb hu => ?_
                  have e3 : u 3 = .slice (some ⟨gg9, 0, none⟩) d.good.length cg9 := hu 3 (by kernel_rfl) (by omega)
                  have e4 : u 4 = .int .i64 (k : Int) := hu 4 (by kernel_rfl) (by omega)
                  go_simp
                  try rw [if_pos (by omega)]
                · refine ktP (by omega) (.one (by kernel_rfl)) (by rfl) fun u W hb hu => ?_
                  have e5 : u 5 = .pointer (some ⟨gg9, k, none⟩) := hu 5 (by kernel_rfl) (by omega)
                  have hc2 := (hb.cell (p := ⟨gg9, k, none⟩) L6.out.2.1).trans cgk
                  go_simp
                · refine ktP (by omega) (.cons (c := 18) (by kernel_rfl) (.cons (c := 17) (by kernel_rfl) (.cons (c := 16) (by kernel_rfl) (.cons (c := 13) (by kernel_rfl) (.cons (c := 12) (by kernel_rfl) (.cons (c := 10) (by kernel_rfl) (.cons (c := 9) (by kernel_rfl) (.cons (c := 8) (by kernel_rfl) (.one (by kernel_rfl)))))))))) (by rfl) fun u W hb hu => ?_
                  go_simp
                · refine ktP (by omega) (.cons (c := 18) (by kernel_rfl) (.cons (c := 17) (by kernel_rfl) (.cons (c := 16) (by kernel_rfl) (.cons (c := 13) (by kernel_rfl) (.cons (c := 12) (by kernel_rfl) (.cons (c := 10) (by kernel_rfl) (.cons (c := 9) (by kernel_rfl) (.one (by kernel_rfl))))))))) (by rfl) fun u W hb hu => ?_
                  have e7 : u 7 = .pointer (some ⟨g, 0, none⟩) := hu 7 (by kernel_rfl) (by omega)
                  go_simp
                · refine ktP (by omega) (.cons (c := 18) (by kernel_rfl) (.cons (c := 17) (by kernel_rfl) (.cons (c := 16) (by kernel_rfl) (.cons (c := 13) (by kernel_rfl) (.cons (c := 12) (by kernel_rfl) (.cons (c := 10) (by kernel_rfl) (.one (by kernel_rfl)))))))) (by rfl) fun u W hb hu => ?_
                  have e8 : u 8 = .pointer (some ⟨g, 0, none⟩) := hu 8 (by kernel_rfl) (by omega)
                  go_simp
                · refine ktP (by omega) (.cons (c := 18) (by kernel_rfl) (.cons (c := 17) (by kernel_rfl) (.cons (c := 16) (by kernel_rfl) (.cons (c := 13) (by kernel_rfl) (.cons (c := 12) (by kernel_rfl) (.one (by kernel_rfl))))))) (by rfl) fun u W hb hu => ?_
                  have e9 : u 9 = .pointer (some ⟨g, 1, none⟩) := hu 9 (by kernel_rfl) (by omega)
                  have hc2 := (hb.cell (p := ⟨g, 1, none⟩) L6.out.2.2.1).trans c1x
                  go_simp
                · refine ktP (by omega) (.cons (c := 18) (by kernel_rfl) (.cons (c := 17) (by kernel_rfl) (.cons (c := 16) (by kernel_rfl) (.cons (c := 13) (by kernel_rfl) (.cons (c := 12) (by kernel_rfl) (.one (by kernel_rfl))))))) (by rfl) fun u W hb hu => ?_
                  go_simp
                · refine ktP (by omega) (.cons (c := 18) (by kernel_rfl) (.cons (c := 17) (by kernel_rfl) (.cons (c := 16) (by kernel_rfl) (.cons (c := 13) (by kernel_rfl) (.one (by kernel_rfl)))))) (by rfl) fun u W hb hu => ?_
                  have e10 : u 10 = .slice (some ⟨gw, 0, none⟩) d.good.length cw := hu 10 (by kernel_rfl) (by omega)
                  have e11 : u 11 = .int .i64 (k : Int) := hu 11 (by kernel_rfl) (by omega)
                  go_simp
                  try rw [if_pos (by omega)]
                · refine ktP (by omega) (.cons (c := 18) (by kernel_rfl) (.cons (c := 17) (by kernel_rfl) (.cons (c := 16) (by kernel_rfl) (.one (by kernel_rfl))))) (by rfl) fun u W hb hu => ?_
                  have e12 : u 12 = .pointer (some ⟨gw, k, none⟩) := hu 12 (by kernel_rfl) (by omega)
                  have hc2 := (hb.cell (p := ⟨gw, k, none⟩) L6.out.2.2.2.1).trans cyx
                  go_simp
                · refine ktP (by omega) (.cons (c := 18) (by kernel_rfl) (.cons (c := 17) (by kernel_rfl) (.cons (c := 16) (by kernel_rfl) (.cons (c := 15) (by kernel_rfl) (.one (by kernel_rfl)))))) (by rfl) fun u W hb hu => ?_
                  go_simp
                · refine ktP (by omega) (.cons (c := 18) (by kernel_rfl) (.cons (c := 17) (by kernel_rfl) (.cons (c := 16) (by kernel_rfl) (.one (by kernel_rfl))))) (by rfl) fun u W hb hu => ?_
                  have e14 : u 14 = .int .i64 (p : Int) := hu 14 (by kernel_rfl) (by omega)
                  go_simp
                  try exact hpw
                · refine ktP (by omega) (.cons (c := 18) (by kernel_rfl) (.cons (c := 17) (by kernel_rfl) (.one (by kernel_rfl)))) (by rfl) fun u W hb hu => ?_
                  have e13 : u 13 = .slice (some ⟨yb, yq, none⟩) (d.pend k).length c := hu 13 (by kernel_rfl) (by omega)
                  have e15 : u 15 = .int .i64 (m : Int) := hu 15 (by kernel_rfl) (by omega)
                  go_simp
                  try rw [if_pos (by omega)]
                  try (simp [addr_add]; done)
                · refine ktP (by omega) (.cons (c := 18) (by kernel_rfl) (.one (by kernel_rfl))) (by rfl) fun u W hb hu => ?_
                  have e16 : u 16 = .pointer (some ⟨yb, yq + m, none⟩) := hu 16 (by kernel_rfl) (by omega)
                  have hc2 := (hb.cell (p := ⟨yb, yq + m, none⟩) L6.out.2.2.2.2.1).trans cyy
                  go_simp
                · refine ktP (by omega) (.one (by kernel_rfl)) (by rfl) fun u W hb hu => ?_
                  have e17 : u 17 = .slice (some ⟨sb, sq, none⟩) 64 yc := hu 17 (by kernel_rfl) (by omega)
                  go_simp
                  try rw [if_pos (by omega)]
                · refine ktV fun u W hb hu => ?_
                  have e6 : u 6 = .slice (some ⟨q, 0, none⟩) 64 cq := hu 6 (by kernel_rfl) (by omega)
                  have e18 : u 18 = .slice (some ⟨sb, sq, none⟩) 32 yc := hu 18 (by kernel_rfl) (by omega)
                  have hBW := HQ.out.below hb HQ.out.lt
                  have hrg : W.rangeAt sb sq (Y.map bV) := fun j v hv => (hb.cell (p := ⟨sb, sq + j, none⟩) L6.out.2.2.2.2.2).trans (HYR6.out j v hv)
                  exact ⟨_, _, run_copy_32 rfl (by exact e6) (by exact e18) hBW HR64.out hrg HY64.out, half_over hBW HR64.out HY64.out, (Fr.of_below hb).trans (Fr.cellsS _ _ _ (Fr.refl _ _)) (fun x hx => .inl hx)⟩
              obtain ⟨p1, p2⟩ := hP
              have HEND := Lib.hid (HFIN.out W8 _ p2 p1 HROW.out HCAP.out)
              clear p1 p2 hv
              rename_i aK _
              refine aK _ _ ?_
              clear aK
              go_wp2
              obtain ⟨S', z1, z2, z3⟩ := HEND.out
              go_roundw
              case rel => first | exact ⟨k + 1, S', by have := HLT.out; omega, by go_num, by rw [HBN.out]; go_num, z1, z2, z3⟩ | exact ⟨k + 1, S', by have := HLT.out; omega, by go_num, by rw [HBN.out], z1, z2, z3⟩ | ((repeat apply Exists.intro); first | exact ⟨⟨k + 1, S', by have := HLT.out; omega, by go_num, by rw [HBN.out]; go_num, z1, z2, z3⟩, rfl⟩ | exact ⟨⟨k + 1, S', by have := HLT.out; omega, by go_num, by rw [HBN.out], z1, z2, z3⟩, rfl⟩)
              case measure => have := HLT.out; simp [intOf]; omega
            · have g1 : ((p : Int) % 2 == 1) = false := by rw [beq_eq_false_iff_ne]; omega
              have HROW : Hid (r0 = d.crashRow k p) := Lib.hid (by unfold Bd.crashRow; rw [if_neg hpo, HR0.out, HMP.out])
              have HEND := Lib.hid (HFIN.out W6 r0 (Fr.refl _ _) HQ.out HROW.out ⟨hq64, hqm⟩)
              clear hpo c1 cy cx0 hq64 hqm
              go_wp2
              obtain ⟨S', z1, z2, z3⟩ := HEND.out
              go_roundw
              case rel => first | exact ⟨k + 1, S', by have := HLT.out; omega, by go_num, by rw [HBN.out]; go_num, z1, z2, z3⟩ | exact ⟨k + 1, S', by have := HLT.out; omega, by go_num, by rw [HBN.out], z1, z2, z3⟩ | ((repeat apply Exists.intro); first | exact ⟨⟨k + 1, S', by have := HLT.out; omega, by go_num, by rw [HBN.out]; go_num, z1, z2, z3⟩, rfl⟩ | exact ⟨⟨k + 1, S', by have := HLT.out; omega, by go_num, by rw [HBN.out], z1, z2, z3⟩, rfl⟩)
              case measure => have := HLT.out; simp [intOf]; omega
          · have HPP : Hid (pick.tmod (2 * ((d.pend k).length : Int) + 1) = (p : Int)) := Lib.hid (by rw [HPV.out]; exact pick_plus htn)
            have ht1 : decide (pick.tmod (2 * ((d.pend k).length : Int) + 1) < 0) = false := decide_eq_false htn
            clear htn
            go_upto_region 14 with fail
            rw [HPP.out]
            clear ht1 hq1 hm0 hm1 hpc y1 y2 z1 z2
            obtain ⟨gg9, cg9, gw9, cw9, l9, x1, x2, x3, xR⟩ := HMX.out.ex
            obtain ⟨gvx, rgx, wvx, rwx, xa1, xa2, xa3, xa4, xa5, xa6, xa7, xa8, xa9, xa10, xn1, xn2, xn3, xx, xd, xsl⟩ := xR.ex
            have cx0 : wr.cell? ⟨gx, 0, none⟩ = some (.slice (some ⟨gg9, 0, none⟩) d.good.length cg9) := by have := x1.cell 0; rw [show (mdS gg9 cg9 gw9 cw9 (d.cN picks k) l9)[0]? = some (.slice (some ⟨gg9, 0, none⟩) (d.cN picks k).good.length cg9) from rfl, Bd.cN_len] at this; exact this
            have HX1 := Lib.hid x1; have HXA := Lib.hid xa1
            have HKX : Hid (k < gvx.length) := Lib.hid (by rw [xa2, Bd.cN_len]; exact HLT.out)
            have HSL : Hid (∀ x, S x → ¬ zone (fun _ => False) wr.heap.size x) := Lib.hid (fun x hx hz => by rcases hz with h | h; exact h; have := HM.out.lt.2.1 x hx; omega)
            obtain ⟨m, hm⟩ : ∃ m, m = p / 2 := ⟨_, rfl⟩
            have HMP := Lib.hid hm
            obtain ⟨r0, hr0⟩ : ∃ r0, r0 = d.at k m := ⟨_, rfl⟩
            have HR0 := Lib.hid hr0
            have HR64 : Hid (r0.length = 64) := Lib.hid (by rw [hr0, hm]; exact Bd.at_len HD.out.ok HLT.out (by have := HPL.out; omega))
            have hpw : IntKind.i64.wrap ((p : Int) / 2) = (m : Int) := by rw [IntKind.wrap_i64]; have := HPL.out; have := HCNT.out; omega
            have HXX := Lib.hid xx
            clear hr0 hm x1 xa1 xR
            refine rgS 13 13 (fun _ => False) [(66, 0), (0, 1), (0, 2), (0, 3), (0, 4), (0, 5), (0, 6), (0, 7), (0, 8), (0, 9), (0, 10), (0, 11), (0, 12)] [kv (.pointer (some ⟨gx, 0, none⟩)), kv (.pointer (some ⟨gx, 0, none⟩)), kv (.pointer (some ⟨gx, 0, none⟩)), kv (.slice (some ⟨gg9, 0, none⟩) d.good.length cg9), kv (.int .i64 (k : Int)), (owF 5 1 0 []), kv (.pointer (some ⟨g, 0, none⟩)), kv (.int .i64 (k : Int)), kv (.int .i64 (p : Int)), kv (.int .i64 (m : Int)), (rdSF S HSL.out r0), (owF 5 1 r0.length (r0.map bV)), kv (.pointer (some ⟨gg9, k, none⟩))] [none, none, none, none, none, some 11, none, none, none, none, none, none, none] (fun W => ∃ (v : Value) (q cq : Nat) (rq : List Value), v = .slice (some ⟨q, 0, none⟩) 64 cq ∧ Blk W q (r0.map bV ++ rq) 5 ∧ wr.heap.size ≤ q ∧ Blk W gg9 (gvx.set k (.slice (some ⟨q, 0, none⟩) 64 cq) ++ rgx) 26 ∧ Fr (fun x => x = gg9) wr W ∧ 64 ≤ cq ∧ cq ≤ maxLen) ?_ (fun u6 W6 hP hv => ?_)
            · refine ⟨?_, ?_, ?_, ?_, ?_, ?_, ?_, ?_, ?_, ?_, ?_, ?_, ?_, ?_, trivial⟩
              · refine ksP (fun _ h => h.elim) (by omega) (.cons (c := 12) (by kernel_rfl) (.cons (c := 3) (by kernel_rfl) (.cons (c := 2) (by kernel_rfl) (.cons (c := 1) (by kernel_rfl) (.one (by kernel_rfl)))))) (by rfl) fun L u W gh hc => ?_
                have hb := hc.before (.inr (.cons (c := 12) (by kernel_rfl) (.cons (c := 3) (by kernel_rfl) (.cons (c := 2) (by kernel_rfl) (.cons (c := 1) (by kernel_rfl) (.one (by kernel_rfl)))))))
                go_simp
              · refine ksP (fun _ h => h.elim) (by omega) (.cons (c := 12) (by kernel_rfl) (.cons (c := 3) (by kernel_rfl) (.cons (c := 2) (by kernel_rfl) (.one (by kernel_rfl))))) (by rfl) fun L u W gh hc => ?_
                have e0 : u 0 = .pointer (some ⟨gx, 0, none⟩) := hc.val 0 (by kernel_rfl) (by omega) _ rfl
                have hb := hc.before (.inr (.cons (c := 12) (by kernel_rfl) (.cons (c := 3) (by kernel_rfl) (.cons (c := 2) (by kernel_rfl) (.one (by kernel_rfl))))))
                go_simp
              · refine ksP (fun _ h => h.elim) (by omega) (.cons (c := 12) (by kernel_rfl) (.cons (c := 3) (by kernel_rfl) (.one (by kernel_rfl)))) (by rfl) fun L u W gh hc => ?_
                have e1 : u 1 = .pointer (some ⟨gx, 0, none⟩) := hc.val 1 (by kernel_rfl) (by omega) _ rfl
                have hb := hc.before (.inr (.cons (c := 12) (by kernel_rfl) (.cons (c := 3) (by kernel_rfl) (.one (by kernel_rfl)))))
                go_simp
              · refine ksP (fun _ h => h.elim) (by omega) (.cons (c := 12) (by kernel_rfl) (.one (by kernel_rfl))) (by rfl) fun L u W gh hc => ?_
                have e2 : u 2 = .pointer (some ⟨gx, 0, none⟩) := hc.val 2 (by kernel_rfl) (by omega) _ rfl
                have hb := hc.before (.inr (.cons (c := 12) (by kernel_rfl) (.one (by kernel_rfl))))
                have hc2 := (hb.cell (p := ⟨gx, 0, none⟩) HX1.out.lt).trans cx0
                go_simp
              · refine ksP (fun _ h => h.elim) (by omega) (.cons (c := 12) (by kernel_rfl) (.one (by kernel_rfl))) (by rfl) fun L u W gh hc => ?_
                have hb := hc.before (.inr (.cons (c := 12) (by kernel_rfl) (.one (by kernel_rfl))))
                go_simp
              · refine ksM (fun _ h => h.elim) (by omega) (.cons (c := 11) (by kernel_rfl) (.one (by kernel_rfl))) fun L u W gh hc => ?_
                have hb := hc.before (.inr (.cons (c := 11) (by kernel_rfl) (.one (by kernel_rfl))))
                exact ⟨_, _, fun x => x = W.heap.size, run_new0 elB rfl, (Fr.refl _ _).alloc _, ⟨own_new (xs := []) (by rfl) (by unfold maxLen; omega), fun x hx => by cases hx; rfl⟩, fun x e => (by cases e), fun x hx => .inr (Nat.le_of_eq hx.symm), fun x hx => by subst hx; simp⟩
              · refine ksP (fun _ h => h.elim) (by omega) (.cons (c := 11) (by kernel_rfl) (.cons (c := 10) (by kernel_rfl) (.one (by kernel_rfl)))) (by rfl) fun L u W gh hc => ?_
                have hb := hc.before (.inr (.cons (c := 11) (by kernel_rfl) (.cons (c := 10) (by kernel_rfl) (.one (by kernel_rfl)))))
                go_simp
              · refine ksP (fun _ h => h.elim) (by omega) (.cons (c := 11) (by kernel_rfl) (.cons (c := 10) (by kernel_rfl) (.one (by kernel_rfl)))) (by rfl) fun L u W gh hc => ?_
                have hb := hc.before (.inr (.cons (c := 11) (by kernel_rfl) (.cons (c := 10) (by kernel_rfl) (.one (by kernel_rfl)))))
                go_simp
              · refine ksP (fun _ h => h.elim) (by omega) (.cons (c := 11) (by kernel_rfl) (.cons (c := 10) (by kernel_rfl) (.cons (c := 9) (by kernel_rfl) (.one (by kernel_rfl))))) (by rfl) fun L u W gh hc => ?_
                have hb := hc.before (.inr (.cons (c := 11) (by kernel_rfl) (.cons (c := 10) (by kernel_rfl) (.cons (c := 9) (by kernel_rfl) (.one (by kernel_rfl))))))
                go_simp
              · refine ksP (fun _ h => h.elim) (by omega) (.cons (c := 11) (by kernel_rfl) (.cons (c := 10) (by kernel_rfl) (.one (by kernel_rfl)))) (by rfl) fun L u W gh hc => ?_
                have e8 : u 8 = .int .i64 (p : Int) := hc.val 8 (by kernel_rfl) (by omega) _ rfl
                have hb := hc.before (.inr (.cons (c := 11) (by kernel_rfl) (.cons (c := 10) (by kernel_rfl) (.one (by kernel_rfl)))))
                go_simp
                try exact hpw
              · refine ksC (fun _ h => h.elim) (by omega) (.cons (c := 11) (by kernel_rfl) (.one (by kernel_rfl))) fun L u W gh hc K hK => ?_
                have e6 : u 6 = .pointer (some ⟨g, 0, none⟩) := hc.val 6 (by kernel_rfl) (by omega) _ rfl
                have e7 : u 7 = .int .i64 (k : Int) := hc.val 7 (by kernel_rfl) (by omega) _ rfl
                have e9 : u 9 = .int .i64 (m : Int) := hc.val 9 (by kernel_rfl) (by omega) _ rfl
                have hb := hc.before (.inr (.cons (c := 11) (by kernel_rfl) (.one (by kernel_rfl))))
                go_simp
                go_at_call 36
                (with_reducible refine (dAt_any (n := m) (HM.out.later hb) HLT.out HN.out (by have := HPL.out; have := HMP.out; omega)).mono ?_); rintro e w6 ⟨rfl, v, rfl, hv⟩
                rw [← HR0.out] at hv
                have hk9 := hK.out v _ (fun _ => False) (Fr.refl _ _) hv (fun x e => (by cases e)) (fun _ h => h.elim) (fun _ h => h.elim)
                first | exact hk9 | (simp only [e6, e7, e9] at hk9; exact hk9)
              · refine ksM (fun _ h => h.elim) (by omega) (.one (by kernel_rfl)) fun L u W gh hc => ?_
                have t5 := hc.fact 5 (by kernel_rfl) (by omega) (fun t ht => by cases ht; exact hc.free _ (.inl rfl))
                have f5 := hc.foot 5 (by kernel_rfl) (by omega) (fun t ht => by cases ht; exact hc.free _ (.inl rfl))
                have t10 := hc.fact 10 (by kernel_rfl) (by omega) (fun t ht => by cases ht)
                have f10 := hc.foot 10 (by kernel_rfl) (by omega) (fun t ht => by cases ht)
                have hb := hc.before (.inr (.one (by kernel_rfl)))
                obtain ⟨ra, rn, rc, ev, hr, hrs⟩ := t10
                have hnw := RdB.news hr
                obtain ⟨v', w', hrun, hf, hP, hS, hlt⟩ := app_res elB t5 hnw.1 hnw.2.1 hnw.2.2 (bytes_one r0) (by have := hr.hlen; have := HR64.out; unfold maxLen; omega) (by have := hr.hlen; have := HR64.out; omega)
                exact ⟨v', w', fun x => v'.ownBlock = some x, hrun _ _ _ _ rfl rfl (by exact rfl) (by exact ev), hf.mono (fun x hx => .inl ⟨5, by kernel_rfl, by omega, rfl, t5.2 x hx⟩), (by have := hr.hlen; rw [this]; simpa using hP), fun x e => (by cases e), fun x hx => (hS x hx).imp (fun h => ⟨5, by kernel_rfl, by omega, rfl, t5.2 x h⟩) id, hlt⟩
              · refine ksP (fun _ h => h.elim) (by omega) (.one (by kernel_rfl)) (by rfl) fun L u W gh hc => ?_
                have e3 : u 3 = .slice (some ⟨gg9, 0, none⟩) d.good.length cg9 := hc.val 3 (by kernel_rfl) (by omega) _ rfl
                have e4 : u 4 = .int .i64 (k : Int) := hc.val 4 (by kernel_rfl) (by omega) _ rfl
                have hb := hc.before (.inr (.one (by kernel_rfl)))
                go_simp
                try rw [if_pos (by omega)]
              · refine ksL fun L u W gh hc => ?_
                have e12 : u 12 = .pointer (some ⟨gg9, k, none⟩) := hc.val 12 (by kernel_rfl) (by omega) _ rfl
                have t11 := hc.fact 11 (by kernel_rfl) (by omega) (fun t ht => by cases ht)
                have f11 := hc.foot 11 (by kernel_rfl) (by omega) (fun t ht => by cases ht)
                have hb := hc.before (.inl rfl)
                obtain ⟨a1, a2⟩ := t11
                obtain ⟨q, cq, rq, ev, hqB, hq1, hq2⟩ := own_slot a1 (by have := HR64.out; omega)
                have hb := hc.old (hc.free 13 (.inl rfl))
                have hBW := HXA.out.below hb HXA.out.lt
                have hfs : Fr (fun x => x = gg9) W (W.setCell ⟨gg9, k, none⟩ (u 11)) := (Fr.refl _ _).one _
                have hqn : wr.heap.size ≤ q := by rcases (f11 q (a2 q (by rw [ev]; rfl))).1 with h | ⟨h, _⟩; exact h; exact h.elim
                obtain ⟨vo, hvo⟩ : ∃ vo, W.cell? ⟨gg9, k, none⟩ = some vo := ⟨_, by rw [hBW.cell, List.getElem?_append_left HKX.out, List.getElem?_eq_getElem HKX.out]⟩
                refine ⟨_, _, _, run_store1 rfl (by exact e12) (by rfl) hvo (hBW.frozen k) (by rw [ev]; rfl) Try.sizeOf26, .inl ⟨rfl, rfl⟩, u 11, q, cq, rq, ?_, ?_, hqn, ?_, (hc.fr.mono (F' := fun x => x = gg9) (fun x hx => hx.elim)).trans hfs (fun x hx => .inl hx), by have := HR64.out; omega, hq2⟩
                · rw [ev, HR64.out]
                · exact hfs.blk hqB (by have := HXA.out.lt; omega)
                · have hset := hBW.set k (u 11)
                  rw [List.set_append_left _ _ HKX.out, ev, HR64.out] at hset
                  rw [ev, HR64.out]; exact hset
            obtain ⟨v, q, cq, rq, p1, p2, p3, p4, p5, hq64, hqm⟩ := hP
            have HQ := Lib.hid p2; have HQN := Lib.hid p3; have HGV := Lib.hid p4; have HF6 := Lib.hid p5
            subst p1
            clear p2 p3 p4 p5 hv
            have hFin : ∀ (W : World) (row : List UInt8), Fr (fun x => x = q) W6 W → Blk W q (row.map bV ++ rq) 5 → row = d.crashRow k p → 64 ≤ cq ∧ cq ≤ maxLen → ∃ S', Md W gx (d.cN picks (k + 1)) Fx S' ∧ (∀ x, S' x → w.heap.size ≤ x) ∧ Below w.heap.size w W := by
              rintro W row hf hB rfl ⟨hcq1, hcq2⟩
              have hrl : (d.crashRow k p).length = 64 := Bd.crashRow_len HD.out.ok HLT.out (by have := HPL.out; omega)
              have hx := HXX.out
              have hqn := HQN.out
              have hql := hB.lt
              have l1 := HX1.out.lt; have l2 := HXA.out.lt; have l3 := xa4.lt
              have hbs := HBW.out.size
              have hf6 := HF6.out
              have hst := Bd.cN_step (picks := picks) HLT.out
              have hggS : ∀ z, Sx z → ¬ (z = gg9) := fun z hz e => xd z hz ((hx z).2 (.inr (.inl e)))
              have hqS : ∀ z, Sx z → ¬ (z = q) := fun z hz e => by have := xsl z hz; omega
              refine ⟨fun z => Sx z ∨ z = q, ⟨Bd.cN_ok HD.out.ok picks (k + 1), gg9, cg9, gw9, cw9, l9, ?_, x2, x3, gvx.set k (.slice (some ⟨q, 0, none⟩) 64 cq), rgx, wvx, rwx, hf.blk HGV.out (by omega), ?_, ?_, ?_, ?_, ?_, ?_, xa8, ?_, xa10, xn1, xn2, xn3, hx, ?_, ?_⟩, ?_, ?_⟩
              · have hb := hf.blk (hf6.blk HX1.out xn1) (by omega)
                have e : mdS gg9 cg9 gw9 cw9 (d.cN picks (k + 1)) l9 = mdS gg9 cg9 gw9 cw9 (d.cN picks k) l9 := by unfold mdS; rw [Bd.cN_len, Bd.cN_len]; rfl
                rw [e]; exact hb
              · rw [List.length_set, xa2, Bd.cN_len, Bd.cN_len]
              · intro j z r hz hr
                rw [hst] at hr
                rw [List.getElem?_set] at hz hr
                by_cases e : k = j
                · subst e
                  rw [if_pos rfl, if_pos HKX.out] at hz
                  rw [if_pos rfl, if_pos (by rw [Bd.cN_len]; exact HLT.out)] at hr
                  cases hz; cases hr
                  rw [HR.out]
                  exact ⟨_, _, _, rfl, RdB.blk rq hB hrl hcq1 hcq2, fun p hp => by cases hp; exact .inr rfl⟩
                · rw [if_neg e] at hz hr
                  exact (((xa3 j z r hz hr).frame hf6 hggS).frame hf hqS).mono (fun x h => .inl h)
              · exact hf.blk (hf6.blk xa4 (fun e => xn3 e.symm)) (by omega)
              · rw [xa5, Bd.cN_len, Bd.cN_len]
              · intro j z hz
                exact (((xa6 j z hz).frame hf6 hggS).frame hf hqS).mono (fun x h => .inl h)
              · rw [Bd.cN_len]; rw [Bd.cN_len] at xa7; exact xa7
              · rw [Bd.cN_len]; rw [Bd.cN_len] at xa9; exact xa9
              · rintro z (h | rfl)
                · exact xd z h
                · intro hz
                  rcases (hx _).1 hz with e | e | e <;> omega
              · rintro z (h | rfl)
                · exact Nat.lt_of_lt_of_le (xsl z h) (Nat.le_trans hf6.size hf.size)
                · exact hql
              · rintro z (h | rfl)
                · exact HSX.out z h
                · omega
              · refine (HBW.out.trans (hf6.below hbs (fun z hz => by cases hz; exact HFX.out _ ((hx _).2 (.inr (.inl rfl)))))).trans (hf.below (Nat.le_trans hbs hf6.size) (fun z hz => by cases hz; omega))
            have HFIN := Lib.hid hFin
            have HXD := Lib.hid xd
            clear hFin x2 x3 xa2 xa3 xa4 xa5 xa6 xa7 xa8 xa9 xa10 xsl xx xd
            by_cases hpo : p % 2 = 1
            · have g1 : ((p : Int) % 2 == 1) = true := by rw [beq_iff_eq]; omega
              have hjl : m < (d.pend k).length := by have := HPL.out; have := HMP.out; omega
              have HJL := Lib.hid hjl
              obtain ⟨yv, hyv⟩ : ∃ yv, ys[m]? = some yv := ⟨_, List.getElem?_eq_getElem (by rw [HYL.out]; exact hjl)⟩
              obtain ⟨Y, hY⟩ : ∃ Y, (d.pend k)[m]? = some Y := ⟨_, List.getElem?_eq_getElem hjl⟩
              obtain ⟨yb, yq, rfl, hyS, hyc⟩ := HB4.out m _ hyv
              have hrd := HB5.out m _ _ hyv hY
              have HY64 : Hid (Y.length = 64) := Lib.hid (HD.out.ok.pend k _ (List.mem_of_getElem? hY))
              have HROW : Hid (Y.take 32 ++ r0.drop 32 = d.crashRow k p) := Lib.hid (by unfold Bd.crashRow; rw [if_pos hpo, ← HMP.out, List.getD_eq_getElem?_getD, hY, HR0.out]; rfl)
              obtain ⟨ya, yn, yc, rfl, hyr, hys⟩ := hrd
              obtain rfl : yn = 64 := by have := hyr.hlen; have := HY64.out; omega
              obtain ⟨sb, sq, rfl, _⟩ := hyr.get 0 (by have := HY64.out; omega)
              have HYR : Hid (RdB wr (some ⟨sb, sq, none⟩) 64 yc Y) := Lib.hid hyr
              have hyb := cell_lt hyc
              have hsb := HM.out.lt.2.1 _ (hys _ rfl)
              have HCAP : Hid (64 ≤ cq ∧ cq ≤ maxLen) := Lib.hid ⟨hq64, hqm⟩
              have hyl : (32 : Int) ≤ (yc : Int) := by have := hyr.hcap; omega
              have hyl2 : 32 ≤ yc := by have := hyr.hcap; omega
              have hp0 : (0 : Int) ≤ (m : Int) := by omega
              have hp1 : (m : Int) < ((d.pend k).length : Int) := by omega
              have HF6G : Hid (¬ (fun x => x = gg9) g ∧ ¬ (fun x => x = gg9) gw ∧ ¬ (fun x => x = gg9) yb ∧ ¬ (fun x => x = gg9) sb) := Lib.hid (by
                have hd := HD.out.lt
                have hg9 := HFX.out gg9 ((HXX.out gg9).2 (.inr (.inl rfl)))
                have hS := HD.out.lt.2.1
                have hg := HGL.out
                have hF := HD.out.lt.1
                refine ⟨fun e => ?_, fun e => ?_, fun e => ?_, fun e => ?_⟩
                · have e : g = gg9 := e
                  omega
                · have e : gw = gg9 := e
                  have := HGWF.out; omega
                · have e : yb = gg9 := e
                  have := hS yb hyS; omega
                · have e : sb = gg9 := e
                  have := hS sb (hys _ rfl); omega)
              have c1x : W6.cell? ⟨g, 1, none⟩ = some (.slice (some ⟨gw, 0, none⟩) d.good.length cw) := (HF6.out.cell (p := ⟨g, 1, none⟩) HH1.out.lt HF6G.out.1).trans c1
              have cyx : W6.cell? ⟨gw, k, none⟩ = some (.slice (some ⟨yb, yq, none⟩) (d.pend k).length c) := (HF6.out.cell (p := ⟨gw, k, none⟩) HGW.out HF6G.out.2.1).trans cy
              have cyy : W6.cell? ⟨yb, yq + m, none⟩ = some (.slice (some ⟨sb, sq, none⟩) 64 yc) := (HF6.out.cell (p := ⟨yb, yq + m, none⟩) hyb HF6G.out.2.2.1).trans hyc
              have HYR6 : Hid (W6.rangeAt sb sq (Y.map bV)) := Lib.hid (rd_range64 (HF6.out.rd HYR.out (fun p hp => by cases hp; exact HF6G.out.2.2.2)) HY64.out)
              have cgx : W6.cell? ⟨gx, 0, none⟩ = some (.slice (some ⟨gg9, 0, none⟩) d.good.length cg9) := (HF6.out.cell (p := ⟨gx, 0, none⟩) HX1.out.lt xn1).trans cx0
              have cgk : W6.cell? ⟨gg9, k, none⟩ = some (.slice (some ⟨q, 0, none⟩) 64 cq) := by rw [HGV.out.cell, List.getElem?_append_left (by rw [List.length_set]; exact HKX.out), List.getElem?_set, if_pos rfl, if_pos HKX.out]
              have hl6 := HF6.out.size
              have L6 : Hid (gx < W6.heap.size ∧ gg9 < W6.heap.size ∧ g < W6.heap.size ∧ gw < W6.heap.size ∧ yb < W6.heap.size ∧ sb < W6.heap.size) := Lib.hid ⟨Nat.lt_of_lt_of_le HX1.out.lt hl6, HGV.out.lt, Nat.lt_of_lt_of_le HH1.out.lt hl6, Nat.lt_of_lt_of_le HGW.out hl6, Nat.lt_of_lt_of_le hyb hl6, Nat.lt_of_lt_of_le hsb hl6⟩
              clear hpo hjl hyv hY hyr hys hyS hyc hyb hsb cy c1 cx0 hl6 hq64 hqm
              go_upto_region 16 with fail
              refine rgK 19 [(82, 0), (0, 1), (0, 2), (0, 3), (0, 4), (0, 5), (0, 6), (0, 7), (0, 8), (0, 9), (0, 10), (0, 11), (0, 12), (0, 13), (0, 14), (0, 15), (0, 16), (0, 17), (0, 18), (0, 19)] [kn (.pointer (some ⟨gx, 0, none⟩)), kn (.pointer (some ⟨gx, 0, none⟩)), kn (.pointer (some ⟨gx, 0, none⟩)), kn (.slice (some ⟨gg9, 0, none⟩) d.good.length cg9), kn (.int .i64 (k : Int)), kn (.pointer (some ⟨gg9, k, none⟩)), kn (.slice (some ⟨q, 0, none⟩) 64 cq), kn (.pointer (some ⟨g, 0, none⟩)), kn (.pointer (some ⟨g, 0, none⟩)), kn (.pointer (some ⟨g, 1, none⟩)), kn (.slice (some ⟨gw, 0, none⟩) d.good.length cw), kn (.int .i64 (k : Int)), kn (.pointer (some ⟨gw, k, none⟩)), kn (.slice (some ⟨yb, yq, none⟩) (d.pend k).length c), kn (.int .i64 (p : Int)), kn (.int .i64 (m : Int)), kn (.pointer (some ⟨yb, yq + m, none⟩)), kn (.slice (some ⟨sb, sq, none⟩) 64 yc), kn (.slice (some ⟨sb, sq, none⟩) 32 yc)] (fun W => Blk W q ((Y.take 32 ++ r0.drop 32).map bV ++ rq) 5 ∧ Fr (fun x => x = q) W6 W) ?_ (fun u8 W8 hP hv => ?_)
              · refine ⟨?_, ?_, ?_, ?_, ?_, ?_, ?_, ?_, ?_, ?_, ?_, ?_, ?_, ?_, ?_, ?_, ?_, ?_, ?_, ?_, trivial⟩
                · refine ktP (by omega) (.cons (c := 6) (by kernel_rfl) (.cons (c := 5) (by kernel_rfl) (.cons (c := 3) (by kernel_rfl) (.cons (c := 2) (by kernel_rfl) (.cons (c := 1) (by kernel_rfl) (.one (by kernel_rfl))))))) (by rfl) fun u W hb hu => ?_
                  go_simp
                · refine ktP (by omega) (.cons (c := 6) (by kernel_rfl) (.cons (c := 5) (by kernel_rfl) (.cons (c := 3) (by kernel_rfl) (.cons (c := 2) (by kernel_rfl) (.one (by kernel_rfl)))))) (by rfl) fun u W hb hu => ?_
                  have e0 : u 0 = .pointer (some ⟨gx, 0, none⟩) := hu 0 (by kernel_rfl) (by omega)
                  go_simp
                · refine ktP (by omega) (.cons (c := 6) (by kernel_rfl) (.cons (c := 5) (by kernel_rfl) (.cons (c := 3) (by kernel_rfl) (.one (by kernel_rfl))))) (by rfl) fun u W hb hu => ?_
                  have e1 : u 1 = .pointer (some ⟨gx, 0, none⟩) := hu 1 (by kernel_rfl) (by omega)
                  go_simp
                · refine ktP (by omega) (.cons (c := 6) (by kernel_rfl) (.cons (c := 5) (by kernel_rfl) (.one (by kernel_rfl)))) (by rfl) fun u W hb hu => ?_
                  have e2 : u 2 = .pointer (some ⟨gx, 0, none⟩) := hu 2 (by kernel_rfl) (by omega)
                  have hc2 := (hb.cell (p := ⟨gx, 0, none⟩) L6.out.1).trans cgx
                  go_simp
                · refine ktP (by omega) (.cons (c := 6) (by kernel_rfl) (.cons (c := 5) (by kernel_rfl) (.one (by kernel_rfl)))) (by rfl) fun u W hb hu => ?_
                  go_simp
                · refine ktP (by omega) (.cons (c := 6) (by kernel_rfl) (.one (by kernel_rfl))) (by rfl) fun u W hb hu => ?_
                  have e3 : u 3 = .slice (some ⟨gg9, 0, none⟩) d.good.length cg9 := hu 3 (by kernel_rfl) (by omega)
                  have e4 : u 4 = .int .i64 (k : Int) := hu 4 (by kernel_rfl) (by omega)
                  go_simp
                  try rw [if_pos (by omega)]
                · refine ktP (by omega) (.one (by kernel_rfl)) (by rfl) fun u W hb hu => ?_
                  have e5 : u 5 = .pointer (some ⟨gg9, k, none⟩) := hu 5 (by kernel_rfl) (by omega)
                  have hc2 := (hb.cell (p := ⟨gg9, k, none⟩) L6.out.2.1).trans cgk
                  go_simp
                · refine ktP (by omega) (.cons (c := 18) (by kernel_rfl) (.cons (c := 17) (by kernel_rfl) (.cons (c := 16) (by kernel_rfl) (.cons (c := 13) (by kernel_rfl) (.cons (c := 12) (by kernel_rfl) (.cons (c := 10) (by kernel_rfl) (.cons (c := 9) (by kernel_rfl) (.cons (c := 8) (by kernel_rfl) (.one (by kernel_rfl)))))))))) (by rfl) fun u W hb hu => ?_
                  go_simp
                · refine ktP (by omega) (.cons (c := 18) (by kernel_rfl) (.cons (c := 17) (by kernel_rfl) (.cons (c := 16) (by kernel_rfl) (.cons (c := 13) (by kernel_rfl) (.cons (c := 12) (by kernel_rfl) (.cons (c := 10) (by kernel_rfl) (.cons (c := 9) (by kernel_rfl) (.one (by kernel_rfl))))))))) (by rfl) fun u W hb hu => ?_
                  have e7 : u 7 = .pointer (some ⟨g, 0, none⟩) := hu 7 (by kernel_rfl) (by omega)
                  go_simp
                · refine ktP (by omega) (.cons (c := 18) (by kernel_rfl) (.cons (c := 17) (by kernel_rfl) (.cons (c := 16) (by kernel_rfl) (.cons (c := 13) (by kernel_rfl) (.cons (c := 12) (by kernel_rfl) (.cons (c := 10) (by kernel_rfl) (.one (by kernel_rfl)))))))) (by rfl) fun u W hb hu => ?_
                  have e8 : u 8 = .pointer (some ⟨g, 0, none⟩) := hu 8 (by kernel_rfl) (by omega)
                  go_simp
                · refine ktP (by omega) (.cons (c := 18) (by kernel_rfl) (.cons (c := 17) (by kernel_rfl) (.cons (c := 16) (by kernel_rfl) (.cons (c := 13) (by kernel_rfl) (.cons (c := 12) (by kernel_rfl) (.one (by kernel_rfl))))))) (by rfl) fun u W hb hu => ?_
                  have e9 : u 9 = .pointer (some ⟨g, 1, none⟩) := hu 9 (by kernel_rfl) (by omega)
                  have hc2 := (hb.cell (p := ⟨g, 1, none⟩) L6.out.2.2.1).trans c1x
                  go_simp
                · refine ktP (by omega) (.cons (c := 18) (by kernel_rfl) (.cons (c := 17) (by kernel_rfl) (.cons (c := 16) (by kernel_rfl) (.cons (c := 13) (by kernel_rfl) (.cons (c := 12) (by kernel_rfl) (.one (by kernel_rfl))))))) (by rfl) fun u W hb hu => ?_
                  go_simp
                · refine ktP (by omega) (.cons (c := 18) (by kernel_rfl) (.cons (c := 17) (by kernel_rfl) (.cons (c := 16) (by kernel_rfl) (.cons (c := 13) (by kernel_rfl) (.one (by kernel_rfl)))))) (by rfl) fun u W hb hu => ?_
                  have e10 : u 10 = .slice (some ⟨gw, 0, none⟩) d.good.length cw := hu 10 (by kernel_rfl) (by omega)
                  have e11 : u 11 = .int .i64 (k : Int) := hu 11 (by kernel_rfl) (by omega)
                  go_simp
                  try rw [if_pos (by omega)]
                · refine ktP (by omega) (.cons (c := 18) (by kernel_rfl) (.cons (c := 17) (by kernel_rfl) (.cons (c := 16) (by kernel_rfl) (.one (by kernel_rfl))))) (by rfl) fun u W hb hu => ?_
                  have e12 : u 12 = .pointer (some ⟨gw, k, none⟩) := hu 12 (by kernel_rfl) (by omega)
                  have hc2 := (hb.cell (p := ⟨gw, k, none⟩) L6.out.2.2.2.1).trans cyx
                  go_simp
                · refine ktP (by omega) (.cons (c := 18) (by kernel_rfl) (.cons (c := 17) (by kernel_rfl) (.cons (c := 16) (by kernel_rfl) (.cons (c := 15) (by kernel_rfl) (.one (by kernel_rfl)))))) (by rfl) fun u W hb hu => ?_
                  go_simp
                · refine ktP (by omega) (.cons (c := 18) (by kernel_rfl) (.cons (c := 17) (by kernel_rfl) (.cons (c := 16) (by kernel_rfl) (.one (by kernel_rfl))))) (by rfl) fun u W hb hu => ?_
                  have e14 : u 14 = .int .i64 (p : Int) := hu 14 (by kernel_rfl) (by omega)
                  go_simp
                  try exact hpw
                · refine ktP (by omega) (.cons (c := 18) (by kernel_rfl) (.cons (c := 17) (by kernel_rfl) (.one (by kernel_rfl)))) (by rfl) fun u W hb hu => ?_
                  have e13 : u 13 = .slice (some ⟨yb, yq, none⟩) (d.pend k).length c := hu 13 (by kernel_rfl) (by omega)
                  have e15 : u 15 = .int .i64 (m : Int) := hu 15 (by kernel_rfl) (by omega)
                  go_simp
                  try rw [if_pos (by omega)]
                  try (simp [addr_add]; done)
                · refine ktP (by omega) (.cons (c := 18) (by kernel_rfl) (.one (by kernel_rfl))) (by rfl) fun u W hb hu => ?_
                  have e16 : u 16 = .pointer (some ⟨yb, yq + m, none⟩) := hu 16 (by kernel_rfl) (by omega)
                  have hc2 := (hb.cell (p := ⟨yb, yq + m, none⟩) L6.out.2.2.2.2.1).trans cyy
                  go_simp
                · refine ktP (by omega) (.one (by kernel_rfl)) (by rfl) fun u W hb hu => ?_
                  have e17 : u 17 = .slice (some ⟨sb, sq, none⟩) 64 yc := hu 17 (by kernel_rfl) (by omega)
                  go_simp
                  try rw [if_pos (by omega)]
                · refine ktV fun u W hb hu => ?_
                  have e6 : u 6 = .slice (some ⟨q, 0, none⟩) 64 cq := hu 6 (by kernel_rfl) (by omega)
                  have e18 : u 18 = .slice (some ⟨sb, sq, none⟩) 32 yc := hu 18 (by kernel_rfl) (by omega)
                  have hBW := HQ.out.below hb HQ.out.lt
                  have hrg : W.rangeAt sb sq (Y.map bV) := fun j v hv => (hb.cell (p := ⟨sb, sq + j, none⟩) L6.out.2.2.2.2.2).trans (HYR6.out j v hv)
                  exact ⟨_, _, run_copy_32 rfl (by exact e6) (by exact e18) hBW HR64.out hrg HY64.out, half_over hBW HR64.out HY64.out, (Fr.of_below hb).trans (Fr.cellsS _ _ _ (Fr.refl _ _)) (fun x hx => .inl hx)⟩
              obtain ⟨p1, p2⟩ := hP
              have HEND := Lib.hid (HFIN.out W8 _ p2 p1 HROW.out HCAP.out)
              clear p1 p2 hv
              rename_i aK _
              refine aK _ _ ?_
              clear aK
              go_wp2
              obtain ⟨S', z1, z2, z3⟩ := HEND.out
              go_roundw
              case rel => first | exact ⟨k + 1, S', by have := HLT.out; omega, by go_num, by rw [HBN.out]; go_num, z1, z2, z3⟩ | exact ⟨k + 1, S', by have := HLT.out; omega, by go_num, by rw [HBN.out], z1, z2, z3⟩ | ((repeat apply Exists.intro); first | exact ⟨⟨k + 1, S', by have := HLT.out; omega, by go_num, by rw [HBN.out]; go_num, z1, z2, z3⟩, rfl⟩ | exact ⟨⟨k + 1, S', by have := HLT.out; omega, by go_num, by rw [HBN.out], z1, z2, z3⟩, rfl⟩)
              case measure => have := HLT.out; simp [intOf]; omega
            · have g1 : ((p : Int) % 2 == 1) = false := by rw [beq_eq_false_iff_ne]; omega
              have HROW : Hid (r0 = d.crashRow k p) := Lib.hid (by unfold Bd.crashRow; rw [if_neg hpo, HR0.out, HMP.out])
              have HEND := Lib.hid (HFIN.out W6 r0 (Fr.refl _ _) HQ.out HROW.out ⟨hq64, hqm⟩)
              clear hpo c1 cy cx0 hq64 hqm
              go_wp2
              obtain ⟨S', z1, z2, z3⟩ := HEND.out
              go_roundw
              case rel => first | exact ⟨k + 1, S', by have := HLT.out; omega, by go_num, by rw [HBN.out]; go_num, z1, z2, z3⟩ | exact ⟨k + 1, S', by have := HLT.out; omega, by go_num, by rw [HBN.out], z1, z2, z3⟩ | ((repeat apply Exists.intro); first | exact ⟨⟨k + 1, S', by have := HLT.out; omega, by go_num, by rw [HBN.out]; go_num, z1, z2, z3⟩, rfl⟩ | exact ⟨⟨k + 1, S', by have := HLT.out; omega, by go_num, by rw [HBN.out], z1, z2, z3⟩, rfl⟩)
              case measure => have := HLT.out; simp [intOf]; omega
    · obtain rfl : k = d.good.length := by omega
      have HME : Hid (Md wr gx (d.crash picks) Fx Sx) := Lib.hid (by rw [Bd.cN_end] at hMx; exact hMx)
      clear hMx hM hlt
      go_wp2
      go_ret
      exact ⟨gx, Fx, Sx, rfl, HME.out, fun x hx => HFX.out x hx, HSX.out, HBW.out⟩
end Go.Proofs.Ytgehbchaamilhaa
namespace Go.Proofs.Ytgehbchaamilhaa
open Go Go.RowKit Go.Maps
end Go.Proofs.Ytgehbchaamilhaa
namespace Go.Proofs.Ytgehbchaamilhaa
open Go Go.RowKit
/-- j of the calls have come up; P j holds. -/
def JQ (c : List Nat) (Pj : Nat → World → Prop) (L : Nat → Bool) (_u : Nat → Value) (W : World) : Prop := ∃ j, j ≤ c.length ∧ (∀ t k, c[t]? = some k → L k = decide (t < j)) ∧ Pj j W
def GQ (X : List Value) (i : Nat) (_L : Nat → Bool) (u : Nat → Value) (_W : World) : Prop := u i = X.getD i undef
section
variable {c : List Nat} {Pj : Nat → World → Prop} {X : List Value} {ops : Array Oper} {wt : Nat → Nat → Bool} {Q : Exit → Act → World → Prop} {fr : (Nat → Value) → Array Value} {df : List Deferred} {i : Nat} {o : Oper}
theorem soft_GQ : Soft wt (GQ X) := ⟨fun _ _ _ _ _ _ hki _ h => by unfold GQ at *; rw [putV_ne hki]; exact h, fun _ _ _ _ _ _ h => h⟩
/-- An operation that reads. -/
theorem kkP (hi : i ∉ c) (hr : ∀ u W j, Pj j W → (∀ t k, c[t]? = some k → Path wt i k → t < j) → (∀ t k, c[t]? = some k → Path wt k i → j ≤ t) → (∀ d, wt i d = true → u d = X.getD d undef) → (execOp (⟨fr u, df⟩ : Act).eval o).run Try.prog W = .ok (.value (X.getD i undef)) W) (hg : o.guard = none := by rfl) :
    StepAt Try.prog ops wt Q fr df (GQ X) (JQ c Pj) i o := by
  intro L u W hcl hJ hG hL hdep K hK
  rw [if_pos (by simp [Region.wanted, hg])]
  obtain ⟨j, hj, hc, hP⟩ := hJ
  unfold Oper.wp
  rw [hr u W j hP (fun t k hk hp => by have h1 := hp.first hcl hdep; rw [hc t k hk] at h1; exact of_decide_eq_true h1) (fun t k hk hp => by have h1 := notL hcl hp hL; rw [hc t k hk] at h1; have := of_decide_eq_false h1; omega) (fun d hd => hG d (hdep d hd))]
  refine hK.out _ W ⟨j, hj, fun t k hk => ?_, hP⟩ (fun k hk hki _ h => by unfold GQ at *; rw [putV_ne hki]; exact h) (by unfold GQ; exact putV_same _ _ _)
  have hne : k ≠ i := fun e => hi (by rw [← e]; exact List.mem_of_getElem? hk)
  rw [putL_ne hne]; exact hc t k hk
/-- A call. -/
theorem kkC {t : Nat} (ht : c[t]? = some i) (hnd : c.Nodup) (hord : ∀ s k, s < t → c[s]? = some k → Path wt i k) (hr : ∀ u W, Pj t W → (∀ d, wt i d = true → u d = X.getD d undef) → ∀ K : Act → World → Prop, Shut (∀ w', Pj (t + 1) w' → K ((⟨fr u, df⟩ : Act).put o.dst (X.getD i undef)) w') → Oper.wp Try.prog o ⟨fr u, df⟩ W K Q) (hg : o.guard = none := by rfl) :
    StepAt Try.prog ops wt Q fr df (GQ X) (JQ c Pj) i o := by
  intro L u W hcl hJ hG hL hdep K hK
  rw [if_pos (by simp [Region.wanted, hg])]
  obtain ⟨j, hj, hc, hP⟩ := hJ
  have htl := (List.getElem?_eq_some_iff.1 ht).1
  have hjt : j = t := by
    have h1 := hc t i ht
    rw [hL] at h1
    have h2 := of_decide_eq_false h1.symm
    rcases Nat.lt_or_ge j t with h | h
    · obtain ⟨k, hk⟩ : ∃ k, c[j]? = some k := ⟨_, List.getElem?_eq_getElem (by omega)⟩
      have h3 := (hord j k h hk).first hcl hdep
      rw [hc j k hk] at h3
      have := of_decide_eq_true h3
      omega
    · omega
  subst hjt
  refine hr u W hP (fun d hd => hG d (hdep d hd)) K (fun w' hP' => ?_)
  refine hK.out _ w' ⟨j + 1, htl, fun s k hk => ?_, hP'⟩ (fun k hk hki _ h => by unfold GQ at *; rw [putV_ne hki]; exact h) (by unfold GQ; exact putV_same _ _ _)
  by_cases e : s = j
  · subst e
    rw [ht] at hk; cases hk
    rw [putL_same]; simp
  · have hki : k ≠ i := fun h => by
      subst h
      have h1 := (List.getElem?_eq_some_iff.1 hk); have h2 := (List.getElem?_eq_some_iff.1 ht)
      exact e ((List.getElem_inj (h₀ := h1.1) (h₁ := h2.1) hnd).1 (h1.2.trans h2.2.symm))
    rw [putL_ne hki, hc s k hk]
    simp only [decide_eq_decide]; omega
end
section
variable {F : List Value} {fr : (Nat → Value) → Array Value} {df : List Deferred} {ops : Array Oper} {id : Nat} {Q : Exit → Act → World → Prop} {w : World}
theorem rgQ (n : Nat) (p : List (Nat × Nat)) (X : List Value) (c : List Nat) (Pj : Nat → World → Prop) (hP0 : Pj 0 w.drew) (hcn : ∀ k ∈ c, k < n)
    (hsteps : AllSteps Try.prog ops (waitsOn .any ops) Q fr df (GQ X) (JQ c Pj) 0 ops.toList)
    (hdone : ∀ u W, Pj c.length W → (∀ k, k < n → u k = X.getD k undef) → Q .normal ⟨fr u, df⟩ W)
    (hF : ∀ u, (mrg F p u).toArray = fr u := by intro u; dsimp only [mrg]; try exact rfl)
    (hc : okP p ops = true := by kernel_rfl) (hn : ops.size = n := by kernel_rfl) (hm : Try.prog.follows .mixedOrders = true := by kernel_rfl) (he : earlier .any ops = true := by kernel_rfl) : (Code.region id ops true).wp Try.prog Q ⟨F.toArray, df⟩ w := by
  obtain ⟨u0, hu⟩ := mrg_self p F (by simp only [okP, Bool.and_eq_true] at hc; exact hc.1)
  refine wp_region_mid (a := ⟨F.toArray, df⟩) fr (GQ X) (JQ c Pj) u0 hm he (okP_put hc hF) (by rw [← hF, hu]) ⟨0, Nat.zero_le _, fun t k hk => by simp, hP0⟩ soft_GQ (fun _ => hsteps) (fun L u W hall hJ hG => ?_)
  obtain ⟨j, hj, hcj, hP⟩ := hJ
  have : j = c.length := by
    rcases Nat.lt_or_ge j c.length with h | h
    · have h1 := hcj j _ (List.getElem?_eq_getElem h)
      rw [hall _ (by rw [hn]; exact hcn _ (List.getElem_mem h))] at h1
      have := of_decide_eq_true h1.symm
      omega
    · omega
  subst this
  exact hdone u W hP (fun k hk => hG k (by omega))
end
end Go.Proofs.Ytgehbchaamilhaa
namespace Go.Proofs.Ytgehbchaamilhaa
open Go Go.RowKit Go.Maps
theorem round_neg {k n : Int} (hn : 0 < n) (h : k.tmod n < 0) : k.tmod n + n = k % n := by
  have h1 := Int.tmod_eq_emod (a := k) (b := n)
  have h2 := Int.emod_nonneg k (show n ≠ 0 by omega)
  have h3 : (n.natAbs : Int) = n := by omega
  generalize k % n = r at *
  generalize k.tmod n = t at *
  split at h1 <;> omega
theorem round_pos {k n : Int} (hn : 0 < n) (h : ¬ k.tmod n < 0) : k.tmod n = k % n := by
  have h1 := Int.tmod_eq_emod (a := k) (b := n)
  have h2 := Int.emod_lt_of_pos k hn
  have h3 : (n.natAbs : Int) = n := by omega
  generalize k % n = r at *
  generalize k.tmod n = t at *
  split at h1 <;> omega
set_option maxRecDepth 100000 in
set_option maxHeartbeats 1000000 in
theorem alRound_any {k n : Int} {w : World} (hn : 0 < n) (hn2 : n ≤ 4611686018427387904) : Calls Try.prog 11 #[.int .i64 k, .int .i64 n] w fun e w' => e = .returned (.int .i64 (k % n)) ∧ w = w' := by
  have hz : n ≠ 0 := by omega
  by_cases ht : k.tmod n < 0
  · have hd : decide (k.tmod n < 0) = true := decide_eq_true ht
    have hlo : -n < k.tmod n := Int.lt_tmod_of_pos k hn
    have HE := Lib.hid (round_neg hn ht)
    have hw : IntKind.i64.wrap (k.tmod n + n) = k.tmod n + n := by rw [IntKind.wrap_i64]; omega
    obtain ⟨t, hte⟩ : ∃ t, k.tmod n = t := ⟨_, rfl⟩
    rw [hte] at hd hlo HE hw ht
    go_enter Try.func11, Try.ntmps11
    go_wp2
    go_ret
    rw [← HE.out]
    exact ⟨rfl, rfl⟩
  · have hd : decide (k.tmod n < 0) = false := decide_eq_false ht
    have HE := Lib.hid (round_pos hn ht)
    obtain ⟨t, hte⟩ : ∃ t, k.tmod n = t := ⟨_, rfl⟩
    rw [hte] at hd HE ht
    go_enter Try.func11, Try.ntmps11
    go_wp2
    go_ret
    rw [← HE.out]
    exact ⟨rfl, rfl⟩
/-- Byte i of the bytes that hang on k. -/
def alBy (k : Int) (i : Nat) : UInt8 := UInt8.ofNat ((wrap64 (wrap64 (wrap64 ((i : Int) * i) + wrap64 (k * 7)) + 1) % 251).toNat)
def alB (n : Nat) (k : Int) : List UInt8 := (List.range n).map (alBy k)
theorem alB_len (n : Nat) (k : Int) : (alB n k).length = n := by simp [alB]
def alR (n : Nat) (k : Int) (i : Nat) : List Value := row n fun j => if j < i then bV (alBy k j) else bV 0
theorem alBy_val (k : Int) (i : Nat) : ((alBy k i).toNat : Int) = wrap64 (wrap64 (wrap64 ((i : Int) * i) + wrap64 (k * 7)) + 1) % 251 := by
  have h1 := Int.emod_nonneg (wrap64 (wrap64 (wrap64 ((i : Int) * i) + wrap64 (k * 7)) + 1)) (show (251 : Int) ≠ 0 by omega)
  have h2 := Int.emod_lt_of_pos (wrap64 (wrap64 (wrap64 ((i : Int) * i) + wrap64 (k * 7)) + 1)) (show (0 : Int) < 251 by omega)
  unfold alBy
  generalize wrap64 (wrap64 (wrap64 ((i : Int) * i) + wrap64 (k * 7)) + 1) % 251 = r at *
  have h3 : r.toNat < 256 := by omega
  rw [UInt8.toNat_ofNat', Nat.mod_eq_of_lt h3]; omega
theorem mkB (n : Nat) (h : n ≤ 1000000) (w : World) : (Instr.makeSlice 26 (.int .i64 (n : Int)) (.int .i64 (n : Int))).run Try.prog w = .ok (.slice (some ⟨w.heap.size, 0, none⟩) n n) (w.alloc (.cells (List.replicate n (bV 0)).toArray 5)) := by
  obtain ⟨i, hi, hz, hs, hb⟩ := elB.info
  have hr := run_make (P := Try.prog) w 26 5 i _ Try.underlying26 hi hz .i64 .i64 n n (by omega) (Int.le_refl _) (by rw [hb]; omega) (by omega)
  have e : (Value.int .u8 0).cells = (List.replicate 1 (bV 0)).toArray := rfl
  simp only [Int.toNat_natCast, hs, e, Nat.mul_one] at hr
  rw [made_const (v := bV 0) (by simp) (fun j hj => by simp at hj; subst hj; rfl)] at hr
  exact hr
set_option maxRecDepth 100000 in
set_option maxHeartbeats 1000000 in
theorem alBlock_any {n : Nat} {k : Int} {w : World} (hn : n ≤ 100000) : Calls Try.prog 10 #[.int .i64 (n : Int), .int .i64 k] w fun e w' => ∃ q, e = .returned (.slice (some ⟨q, 0, none⟩) n n) ∧ w.heap.size ≤ q ∧ Blk w' q ((alB n k).map bV) 5 ∧ Below w.heap.size w w' := by
  have hmk := mkB n (by omega)
  have HN := Lib.hid hn
  have hmax : max (n : Int) 0 = (n : Int) := by omega
  clear hn
  go_enter Try.func10, Try.ntmps10
  go_wp2
  refine wp_gen (fun W => Blk W w.heap.size (alR n k 0) 5 ∧ Below w.heap.size w W) ⟨?_, (Below.refl _ _).alloc (Nat.le_refl _) _⟩ (fun w1 hW => ?_)
  · have h := Blk.new w (List.replicate n (bV 0)).toArray 5
    rw [List.toList_toArray] at h
    have e : alR n k 0 = List.replicate n (bV 0) := by
      unfold alR row
      apply List.ext_getElem?
      intro i
      rcases Nat.lt_or_ge i n with hi | hi
      · rw [List.getElem?_map, List.getElem?_range hi]; simp [hi]
      · rw [List.getElem?_eq_none (by simpa using hi), List.getElem?_eq_none (by simpa using hi)]
    rw [e]; exact h
  have HW := Lib.hid hW
  clear hW hmk hmax
  go_loopw [6] (fun iv wr => ∃ i : Nat, i ≤ n ∧ iv = .int .i64 i ∧ Blk wr w.heap.size (alR n k i) 5 ∧ Below w.heap.size w wr) (fun iv _ => n - (intOf iv).toNat)
  case atStart => exact ⟨0, Nat.zero_le _, rfl, HW.out.1, HW.out.2⟩
  case round =>
    obtain ⟨i, hi, rfl, hB, hbw⟩ := hrel
    have hn8 : (n : Int) ≤ 100000 := by have := HN.out; omega
    have hi8 : (i : Int) ≤ 100000 := by omega
    have hi0 : (0 : Int) ≤ (i : Int) := by omega
    have hiw : IntKind.i64.wrap ((i : Int) + 1) = ((i + 1 : Nat) : Int) := by rw [IntKind.wrap_i64]; omega
    have HB := Lib.hid hB; have HBW := Lib.hid hbw
    by_cases hlt : i < n
    · have hi1 : (i : Int) < (n : Int) := by omega
      have hcc : wr.cell? ⟨w.heap.size, i, none⟩ = some (bV 0) := by have h := hB.at hlt; rw [if_neg (Nat.lt_irrefl i)] at h; exact h
      have hff := hB.frozen
      have HLT := Lib.hid hlt
      obtain ⟨v, hv⟩ : ∃ v, v = wrap64 (wrap64 (wrap64 ((i : Int) * i) + wrap64 (k * 7)) + 1) % 251 := ⟨_, rfl⟩
      have HV := Lib.hid hv
      have hv0 : 0 ≤ v ∧ v < 251 := by rw [hv]; exact ⟨Int.emod_nonneg _ (by omega), Int.emod_lt_of_pos _ (by omega)⟩
      have hvw : IntKind.u8.wrap v = v := by rw [IntKind.wrap_u8]; omega
      have HS : Hid ((alR n k i).set i (.int .u8 v) = alR n k (i + 1)) := Lib.hid (row_set i _ (by rw [if_pos (by omega)]; unfold bV; rw [alBy_val, ← hv]) (fun j hj hne => by
        by_cases h : j < i
        · rw [if_pos (by omega), if_pos h]
        · rw [if_neg (by omega), if_neg h]))
      unfold bV at hcc
      clear hv hB hbw hlt hi
      go_wp2_with (go_at_call 11; (with_reducible refine (alRound_any (by omega) (by omega)).mono ?_); rintro e wz ⟨rfl, rfl⟩)
      have HI : Hid (i + 1 ≤ n) := Lib.hid (by have := HLT.out; omega)
      go_roundw
      case rel => exact ⟨i + 1, HI.out, by go_num, by rw [← HV.out, ← HS.out]; exact HB.out.set i _, HBW.out.setCell (Nat.le_refl _) _⟩
      case measure => have := HI.out; simp [intOf]; omega
    · obtain rfl : i = n := by omega
      have HE : Hid (alR i k i = (alB i k).map bV) := Lib.hid (by
        unfold alR row alB
        rw [List.map_map]
        apply List.map_congr_left
        intro j hj
        rw [if_pos (List.mem_range.1 hj)]; rfl)
      clear hB hbw hlt
      go_wp2
      go_ret
      exact ⟨w.heap.size, rfl, Nat.le_refl _, by rw [← HE.out]; exact HB.out, HBW.out⟩
end Go.Proofs.Ytgehbchaamilhaa
namespace Go.Proofs.Ytgehbchaamilhaa
open Go Go.RowKit Go.Maps
theorem ints1 (v : Int) (w : World) : (Instr.buildSlice 37 1 #[(0, .int .i64 v)]).run Try.prog w = .ok (.slice (some ⟨w.heap.size, 0, none⟩) 1 1) (w.alloc (.cells #[.int .i64 v] 3)) := by
  exact new1_instr (z := .int .i64 0) (bytes := 8) ⟨Try.underlying37, elT_info (by kernel_rfl), rfl, by omega⟩ rfl
/-- The device of the document's example. -/
def awD : Bd := (Bd.new 2).write 0 (alB 64 1)
theorem awD_code : (Bd.new 2).writeC 0 (alB 64 1) = 0 := by decide +kernel
theorem awD_len : awD.good.length = 2 := by decide +kernel
theorem awD_ops : awD.ops = 1 := by decide +kernel
theorem awC_row : (awD.crash [2]).last 0 = alB 64 1 := by decide +kernel
theorem awC_len : (awD.crash [2]).good.length = 2 := by decide +kernel
theorem alB_first : alBy 1 0 = 8 := by decide +kernel
theorem Blk.rd {w : World} {q n : Nat} {l : List UInt8} (h : Blk w q (l.map bV) 5) (hl : l.length = n) (hm : n ≤ maxLen) : RdB w (some ⟨q, 0, none⟩) n n l := RdB.blk [] (by rw [List.append_nil]; exact h) hl (Nat.le_refl _) hm
set_option maxRecDepth 100000 in
set_option maxHeartbeats 1000000 in
theorem bAwake_any (w : World) : Calls Try.prog 15 #[] w fun e w' => e = .returned (.bool true) ∧ Below w.heap.size w w' := by
  have hn2 : ∀ w, Calls Try.prog 9 #[.int .i64 2] w fun e w' => ∃ g F, e = .returned (.tuple #[.pointer (some ⟨g, 0, none⟩), .int .i64 0]) ∧ Dv w' g (Bd.new 2) F ∧ (∀ x, F x → w.heap.size ≤ x) ∧ Below w.heap.size w w' := fun w => bNew_any (n := 2) (by omega) (by omega)
  have hn0 : ∀ w, Calls Try.prog 9 #[.int .i64 0] w fun e w' => e = .returned (.tuple #[.pointer none, .int .i64 1]) ∧ w = w' := fun w => bNew_no (n := 0) w (by omega)
  have hb1 : ∀ w, Calls Try.prog 10 #[.int .i64 64, .int .i64 1] w fun e w' => ∃ q, e = .returned (.slice (some ⟨q, 0, none⟩) 64 64) ∧ w.heap.size ≤ q ∧ Blk w' q ((alB 64 1).map bV) 5 ∧ Below w.heap.size w w' := fun w => alBlock_any (n := 64) (k := 1) (by omega)
  have hr0 : ∀ {w : World} {g : Nat} {d : Bd} {F : Nat → Prop}, Dv w g d F → 0 < d.good.length → d.good.length ≤ 100000 → Calls Try.prog 14 #[.pointer (some ⟨g, 0, none⟩), .int .i64 0] w fun e w' => ∃ q, e = .returned (.tuple #[.slice (some ⟨q, 0, none⟩) 64 64, .int .i64 0]) ∧ w.heap.size ≤ q ∧ RdB w' (some ⟨q, 0, none⟩) 64 64 (d.last 0) ∧ Below w.heap.size w w' := fun h h0 hN => bRead_any (k := 0) h h0 hN
  have HN2 := Lib.hid hn2; have HN0 := Lib.hid hn0; have HB1 := Lib.hid hb1; have HR0 := @hr0
  have hi := ints1
  clear hn2 hn0 hb1 hr0
  go_enter Try.func15, Try.ntmps15
  go_wp2_with (first
    | (go_at_call 9; (with_reducible refine (HN2.out _).mono ?_); rintro e w1 ⟨g, F, rfl, hD, hF, hbl⟩)
    | (go_at_call 9; (with_reducible refine (HN0.out _).mono ?_); rintro e wz ⟨rfl, rfl⟩)
    | (go_at_call 10; (with_reducible refine (HB1.out _).mono ?_); rintro e w2 ⟨q, rfl, hq, hB, hbl2⟩)
    | (go_at_call 12; go_loud (with_reducible refine (bWrite_any (k := 0) (x := alB 64 1) (hD.later hbl2) (by simp [Bd.new]) (by simp [Bd.new]) (by simp [Bd.new]) (hB.rd (alB_len 64 1) (by unfold maxLen; omega)) (fun p hp h => by cases hp; exact absurd (hD.lt q h) (Nat.not_lt.2 hq))).mono ?_); rintro e w3 ⟨rfl, F3, hD3, hfr3, hF3⟩; rw [awD_code]; change Dv w3 g awD F3 at hD3)
    | (go_at_call 13; go_must ((with_reducible refine (bCrash_any (picks := [2]) (hD3.later ((Below.refl _ _).alloc (Nat.le_refl _) (.cells #[.int .i64 2] 3))) (by rw [awD_len]; omega) (by rw [awD_len]; omega) (by rw [awD_ops]; omega) (RdI.blk (n := 1) (cap := 1) (l := [2]) [] (Blk.new w3 #[.int .i64 2] 3) rfl (by omega) (by unfold maxLen; omega) (by simp))).mono ?_)); rintro e w5 ⟨g5, F5, rfl, hD5, hF5, hbl5⟩)
    | (go_at_call 14; go_must ((with_reducible refine (HR0 hD5 (by rw [awC_len]; omega) (by rw [awC_len]; omega)).mono ?_)); rintro e w6 ⟨q6, rfl, hq6, hR6, hbl6⟩; rw [awC_row] at hR6; have hc6 : w6.cell? ⟨q6, 0, none⟩ = some (.int .u8 8) := by
        obtain ⟨b, o, e, hc⟩ := hR6.get 0 (by rw [alB_len]; omega)
        cases e
        rw [Nat.zero_add] at hc
        rw [hc]
        simp [bV, alB, alB_first]))
  go_ret
  have hfr : Below w.heap.size w w3 := by
    have h2 := hbl.trans (hbl2.mono hbl.size)
    exact h2.trans (hfr3.below h2.size hF)
  refine ⟨rfl, ?_⟩
  have h4 := hfr.trans (((Below.refl _ _).alloc (Nat.le_refl _) (.cells #[.int .i64 2] 3)).mono (B' := w.heap.size) hfr.size)
  exact (h4.trans (hbl5.mono h4.size)).trans (hbl6.mono (Nat.le_trans h4.size hbl5.size))
end Go.Proofs.Ytgehbchaamilhaa
namespace Go.Proofs.Ytgehbchaamilhaa
open Go Go.RowKit Go.Maps
/-- The program's device and the document's, both d, apart. -/
structure Tw (w : World) (g m : Nat) (d : Bd) (F FM S : Nat → Prop) : Prop where
  dv : Dv w g d F
  md : Md w m d FM S
  ap : ∀ x, F x → ¬ FM x ∧ ¬ S x
theorem Tw.later {w w' : World} {g m : Nat} {d : Bd} {F FM S : Nat → Prop} (h : Tw w g m d F FM S) (hb : Below w.heap.size w w') : Tw w' g m d F FM S := ⟨h.dv.later hb, h.md.later hb, h.ap⟩
/-- What a step writes. -/
def stB (n : Int) : List UInt8 := if n < 0 then (alB 64 n).take (n % 64).toNat else alB 64 n
/-- A step. -/
def Bd.step (d : Bd) (kind k n : Int) : Bd := if kind = 1 then d.write k (stB n) else if kind = 2 then d.flush else if kind = 3 then d.cutAt k else d
theorem Bd.write_len (d : Bd) (k : Int) (b : List UInt8) : (d.write k b).good.length = d.good.length := by
  unfold Bd.write
  split
  · rfl
  · split <;> rfl
theorem Bd.flush_len (d : Bd) : d.flush.good.length = d.good.length := by
  unfold Bd.flush
  split
  · rfl
  · simp [Bd.flushed]; rfl
theorem Bd.step_len (d : Bd) (kind k n : Int) : (d.step kind k n).good.length = d.good.length := by
  unfold Bd.step
  split
  · exact d.write_len _ _
  · split
    · exact d.flush_len
    · split <;> rfl
theorem Bd.begin_left (d : Bd) {z : Int} (h : d.left ≤ z) : d.begin.left ≤ z := by
  unfold Bd.begin
  simp only
  split
  · exact h
  · split <;> omega
theorem Bd.step_ops (d : Bd) (kind k n : Int) : (d.step kind k n).ops ≤ d.ops + 1 := by
  unfold Bd.step Bd.write Bd.flush
  split
  · split
    · omega
    · split <;> exact Nat.le_refl _
  · split
    · split <;> exact Nat.le_refl _
    · split
      · exact Nat.le_succ _
      · exact Nat.le_succ _
theorem Bd.step_left (d : Bd) (kind k n : Int) (h : d.left ≤ 9223372036854775807) (hk : k ≤ 9223372036854775807) : (d.step kind k n).left ≤ 9223372036854775807 := by
  have hb := d.begin_left h
  unfold Bd.step Bd.write Bd.flush
  split
  · split
    · exact h
    · split
      · exact hb
      · exact hb
  · split
    · split
      · exact hb
      · exact hb
    · split
      · unfold Bd.cutAt; simp only; omega
      · exact h
/-- What a step leaves. -/
def TwD (w w' : World) (g m : Nat) (d : Bd) (F FM S : Nat → Prop) : Prop := ∃ F' S', Tw w' g m d F' FM S' ∧ Fr (fun x => F x ∨ FM x) w w' ∧ (∀ x, F' x → F x ∨ w.heap.size ≤ x) ∧ ∀ x, S' x → S x ∨ w.heap.size ≤ x
theorem rd_take {w : World} {a : Option Addr} {n cap r : Nat} {l : List UInt8} (h : RdB w a n cap l) (hr : r ≤ n) : RdB w a r cap (l.take r) := by
  refine ⟨by rw [List.length_take, h.hlen, Nat.min_eq_left hr], Nat.le_trans hr h.hcap, h.hmax, fun i hi => ?_, h.hnil⟩
  rw [List.length_take] at hi
  obtain ⟨b, o, e, hc⟩ := h.get i (by omega)
  exact ⟨b, o, e, by rw [List.getElem_take]; exact hc⟩
theorem ord1 {wt : Nat → Nat → Bool} {a b i s k : Nat} (hs : s < 1) (hk : [a, b][s]? = some k) (hp : Path wt i a) : Path wt i k := by
  obtain rfl : s = 0 := by omega
  simp at hk
  subst hk; exact hp
set_option maxRecDepth 100000 in
set_option maxHeartbeats 2000000 in
theorem bDoes_write {w : World} {g m : Nat} {k n : Int} {d : Bd} {F FM S : Nat → Prop} (h : Tw w g m d F FM S) (hN : d.good.length ≤ 1000) (ho : d.ops < 1000000) (hl : d.left ≤ 9223372036854775807) :
    Calls Try.prog 17 #[.pointer (some ⟨g, 0, none⟩), .pointer (some ⟨m, 0, none⟩), .agg #[.int .i64 1, .int .i64 k, .int .i64 n]] w fun e w' => e = .returned (.bool true) ∧ TwD w w' g m (d.write k (stB n)) F FM S := by
  have HT := Lib.hid h
  have HN : Hid (d.good.length ≤ 100000) := Lib.hid (by omega); have HO := Lib.hid ho; have HL := Lib.hid hl
  have hb1 : ∀ w, Calls Try.prog 10 #[.int .i64 64, .int .i64 n] w fun e w' => ∃ q, e = .returned (.slice (some ⟨q, 0, none⟩) 64 64) ∧ w.heap.size ≤ q ∧ Blk w' q ((alB 64 n).map bV) 5 ∧ Below w.heap.size w w' := fun w => alBlock_any (n := 64) (k := n) (by omega)
  have HB1 := Lib.hid hb1
  clear h hN ho hl hb1
  by_cases hn : n < 0
  · have a1 : decide (n < 0) = true := decide_eq_true hn
    obtain ⟨r, hr⟩ : ∃ r : Nat, n % 64 = (r : Int) := ⟨(n % 64).toNat, by omega⟩
    have hr64 : r ≤ 64 := by omega
    have HX : Hid (stB n = (alB 64 n).take r) := Lib.hid (by unfold stB; rw [if_pos hn, hr]; rfl)
    have hr0 : (0 : Int) ≤ (r : Int) := by omega
    have hr1 : (r : Int) ≤ 64 := by omega
    have HR := Lib.hid hr; have HR64 := Lib.hid hr64
    clear hn hr
    go_enter Try.func17, Try.ntmps17
    go_upto_region 1 with fail
    refine wp_gen (fun W => Blk W w.heap.size [.int .i64 1, .int .i64 k, .int .i64 n] 42 ∧ Below w.heap.size w W) ⟨Blk.new w _ 42, (Below.refl _ _).alloc (Nat.le_refl _) _⟩ (fun w1 hW => ?_)
    obtain ⟨hX, hbx⟩ := hW
    have HXB := Lib.hid hX; have HBX := Lib.hid hbx
    have x0 : w1.cell? ⟨w.heap.size, 0, none⟩ = some (.int .i64 1) := hX.cell 0
    have x2 : w1.cell? ⟨w.heap.size, 2, none⟩ = some (.int .i64 n) := hX.cell 2
    clear hX hbx
    go_upto_region 6 with (first
      | (go_at_call 10; (with_reducible refine (HB1.out _).mono ?_); rintro e w2 ⟨q, rfl, hq, hB, hbl⟩; have y2 : w2.cell? ⟨w.heap.size, 2, none⟩ = some (.int .i64 n) := (hbl.cell (p := ⟨w.heap.size, 2, none⟩) HXB.out.lt).trans x2)
      | (go_at_call 11; (with_reducible refine (alRound_any (n := 64) (by omega) (by omega)).mono ?_); rintro e wz ⟨rfl, rfl⟩; rw [HR.out]))
    have hrd : RdB w2 (some ⟨q, 0, none⟩) r 64 (stB n) := by rw [HX.out]; exact rd_take (hB.rd (alB_len 64 n) (by unfold maxLen; omega)) HR64.out
    clear hB a1 hr0 hr1 hr64 HX HR
    have HT2 := Lib.hid (HT.out.later (Below.call HBX.out hbl))
    have HRD := Lib.hid hrd
    have HXC : Hid (w2.cell? ⟨w.heap.size, 1, none⟩ = some (.int .i64 k) ∧ w.heap.size < w2.heap.size) := Lib.hid ⟨(hbl.cell (p := ⟨w.heap.size, 1, none⟩) HXB.out.lt).trans (HXB.out.cell 1), Nat.lt_of_lt_of_le HXB.out.lt hbl.size⟩
    have HNF : Hid (¬ F w.heap.size) := Lib.hid (fun h => Nat.lt_irrefl _ (HT.out.dv.lt _ h))
    have HQ : Hid (w.heap.size ≤ q) := Lib.hid (Nat.le_trans HBX.out.size hq)
    have HB2 := Lib.hid (Below.call HBX.out hbl)
    clear x0 x2 y2 hrd hbl hq
    refine rgQ 12 [(6, 11), (16, 0), (0, 1), (0, 2), (0, 3), (0, 4), (0, 5), (0, 6), (0, 7), (0, 8), (0, 9), (0, 10)] [.pointer (some ⟨g, 0, none⟩), .pointer (some ⟨w.heap.size, 1, none⟩), .int .i64 k, .slice (some ⟨q, 0, none⟩) r 64, .int .i64 (d.writeC k (stB n)), .pointer (some ⟨m, 0, none⟩), .pointer (some ⟨w.heap.size, 1, none⟩), .int .i64 k, .slice (some ⟨q, 0, none⟩) r 64, .int .i64 (d.writeC k (stB n)), .bool true, .bool true] [4, 9] (fun j W => if j = 0 then Below w2.heap.size w2 W else if j = 1 then (∃ F', Dv W g (d.write k (stB n)) F' ∧ Fr F w2 W ∧ ∀ y, F' y → F y ∨ w2.heap.size ≤ y) else TwD w2 W g m (d.write k (stB n)) F FM S) ?_ (by intro k hk; simp at hk; omega) ?_ (fun u6 W6 hP hv => ?_)
    · simp only [if_pos]; exact (Below.refl _ _).drew
    · refine ⟨?_, ?_, ?_, ?_, ?_, ?_, ?_, ?_, ?_, ?_, ?_, ?_, trivial⟩
      · refine kkP (by decide) fun u W j hP h1 h2 hu => ?_
        clear hP h1 h2
        go_simp
      · refine kkP (by decide) fun u W j hP h1 h2 hu => ?_
        clear hP h1 h2
        go_simp
      · refine kkP (by decide) fun u W j hP h1 h2 hu => ?_
        have e1 : u 1 = .pointer (some ⟨w.heap.size, 1, none⟩) := hu 1 (by kernel_rfl)
        have hj : j = 0 := by have := h2 0 4 rfl (.one (by kernel_rfl)); omega
        subst hj
        have hP : Below w2.heap.size w2 W := by simpa using hP
        have hcx : W.cell? ⟨w.heap.size, 1, none⟩ = some (.int .i64 k) := (hP.cell (p := ⟨w.heap.size, 1, none⟩) HXC.out.2).trans HXC.out.1
        go_simp
      · refine kkP (by decide) fun u W j hP h1 h2 hu => ?_
        clear hP h1 h2
        go_simp
      · refine kkC (t := 0) rfl (by decide) (fun s k hs => absurd hs (Nat.not_lt_zero s)) fun u W hP hu K hK => ?_
        have e0 : u 0 = .pointer (some ⟨g, 0, none⟩) := hu 0 (by kernel_rfl)
        have e2 : u 2 = .int .i64 k := hu 2 (by kernel_rfl)
        have e3 : u 3 = .slice (some ⟨q, 0, none⟩) r 64 := hu 3 (by kernel_rfl)
        have hP : Below w2.heap.size w2 W := by simpa using hP
        go_simp
        go_at_call 12
        (with_reducible refine (bWrite_any (HT2.out.dv.later hP) HN.out HO.out HL.out (HRD.out.below hP) (fun p hp h => by cases hp; exact absurd (HT.out.dv.lt _ h) (Nat.not_lt.2 HQ.out))).mono ?_); rintro e w6 ⟨rfl, F', hD', hf', hF'⟩
        have hk9 := hK.out w6 (by simp only [Nat.reduceAdd, if_neg (show ¬ (1 : Nat) = 0 by omega), if_true]; exact ⟨F', hD', (Fr.of_below hP).trans hf' (fun y hy => .inl hy), fun y hy => (hF' y hy).imp id (fun h => Nat.le_trans hP.size h)⟩)
        first | exact hk9 | (simp only [List.getD_cons_zero, List.getD_cons_succ, e0, e2, e3] at hk9; exact hk9)
      · refine kkP (by decide) fun u W j hP h1 h2 hu => ?_
        clear hP h1 h2
        go_simp
      · refine kkP (by decide) fun u W j hP h1 h2 hu => ?_
        clear hP h1 h2
        go_simp
      · refine kkP (by decide) fun u W j hP h1 h2 hu => ?_
        have e6 : u 6 = .pointer (some ⟨w.heap.size, 1, none⟩) := hu 6 (by kernel_rfl)
        have hj : j = 0 ∨ j = 1 := by have := h2 1 9 rfl (.one (by kernel_rfl)); omega
        have hcx : W.cell? ⟨w.heap.size, 1, none⟩ = some (.int .i64 k) := by
          rcases hj with rfl | rfl
          · have hP : Below w2.heap.size w2 W := by simpa using hP
            exact (hP.cell (p := ⟨w.heap.size, 1, none⟩) HXC.out.2).trans HXC.out.1
          · have hP : ∃ F', Dv W g (d.write k (stB n)) F' ∧ Fr F w2 W ∧ ∀ y, F' y → F y ∨ w2.heap.size ≤ y := by simpa using hP
            obtain ⟨F', _, hf', _⟩ := hP
            exact (hf'.cell (p := ⟨w.heap.size, 1, none⟩) HXC.out.2 HNF.out).trans HXC.out.1
        clear hP h1 h2 hj
        go_simp
      · refine kkP (by decide) fun u W j hP h1 h2 hu => ?_
        clear hP h1 h2
        go_simp
      · refine kkC (t := 1) rfl (by decide) (fun s k hs hk => ord1 hs hk (.one (by kernel_rfl))) fun u W hP hu K hK => ?_
        have e5 : u 5 = .pointer (some ⟨m, 0, none⟩) := hu 5 (by kernel_rfl)
        have e7 : u 7 = .int .i64 k := hu 7 (by kernel_rfl)
        have e8 : u 8 = .slice (some ⟨q, 0, none⟩) r 64 := hu 8 (by kernel_rfl)
        have e4 : u 4 = .int .i64 (d.writeC k (stB n)) := hu 4 (by kernel_rfl)
        have hP : ∃ F', Dv W g (d.write k (stB n)) F' ∧ Fr F w2 W ∧ ∀ y, F' y → F y ∨ w2.heap.size ≤ y := by simpa using hP
        obtain ⟨F', hD', hf', hF'⟩ := hP
        have hM' := HT2.out.md.frame hf' (fun x hx h => (HT.out.ap x h).1 hx) (fun x hx h => (HT.out.ap x h).2 hx)
        have hR' : RdB W (some ⟨q, 0, none⟩) r 64 (stB n) := hf'.rd HRD.out (fun p hp h => by cases hp; exact absurd (HT.out.dv.lt _ h) (Nat.not_lt.2 HQ.out))
        go_simp
        go_at_call 32
        (with_reducible refine (dWrite_any hM' HN.out HO.out HL.out hR' (fun p hp h => by cases hp; exact absurd (HT.out.md.lt.1 _ h) (Nat.not_lt.2 HQ.out))).mono ?_); rintro e w6 ⟨rfl, S', hM9, hf9, hS9⟩
        have hFM : ∀ x, FM x → x < w2.heap.size := HT2.out.md.lt.1
        have hTw : TwD w2 w6 g m (d.write k (stB n)) F FM S := ⟨F', S', ⟨hD'.frame hf9 (fun x hx h => by
            rcases hF' x hx with h1 | h1
            · exact (HT.out.ap x h1).1 h
            · have := hFM x h; omega), hM9, fun x hx => ⟨fun h => by
            rcases hF' x hx with h1 | h1
            · exact (HT.out.ap x h1).1 h
            · have := hFM x h; omega, fun h => by
            have hl := hD'.lt x hx
            rcases hS9 x h with h2 | h2
            · rcases hF' x hx with h1 | h1
              · exact (HT.out.ap x h1).2 h2
              · have := HT2.out.md.lt.2.1 x h2; omega
            · omega⟩⟩, (hf'.mono (F' := fun x => F x ∨ FM x) (fun x hx => .inl (.inl hx))).trans (hf9.mono (F' := fun x => F x ∨ FM x) (fun x hx => .inl (.inr hx))) (fun x hx => .inl hx), hF', fun x hx => (hS9 x hx).imp id (fun h => Nat.le_trans hf'.size h)⟩
        have hk9 := hK.out w6 (by simpa using hTw)
        first | exact hk9 | (simp only [List.getD_cons_zero, List.getD_cons_succ, e4, e5, e7, e8] at hk9; exact hk9)
      · refine kkP (by decide) fun u W j hP h1 h2 hu => ?_
        have e4 : u 4 = .int .i64 (d.writeC k (stB n)) := hu 4 (by kernel_rfl)
        have e9 : u 9 = .int .i64 (d.writeC k (stB n)) := hu 9 (by kernel_rfl)
        clear hP h1 h2
        go_simp
        try simp
      · refine kkP (by decide) fun u W j hP h1 h2 hu => ?_
        have e10 : u 10 = .bool true := hu 10 (by kernel_rfl)
        clear hP h1 h2
        go_simp
    have HTW : Hid (TwD w2 W6 g m (d.write k (stB n)) F FM S) := Lib.hid (by simpa using hP)
    have hu11 : u6 11 = .bool true := hv 11 (by omega)
    clear hP hv
    go_wp2
    go_ret
    obtain ⟨F', S', t1, t2, t3, t4⟩ := HTW.out
    exact ⟨congrArg Ending.returned hu11, F', S', t1, (Fr.of_below (F := fun x => F x ∨ FM x) HB2.out).trans t2 (fun x hx => .inl hx), fun x hx => (t3 x hx).imp id (fun h => Nat.le_trans HB2.out.size h), fun x hx => (t4 x hx).imp id (fun h => Nat.le_trans HB2.out.size h)⟩
  · have a1 : decide (n < 0) = false := decide_eq_false hn
    have HX : Hid (stB n = alB 64 n) := Lib.hid (by unfold stB; rw [if_neg hn])
    clear hn
    go_enter Try.func17, Try.ntmps17
    go_upto_region 1 with fail
    refine wp_gen (fun W => Blk W w.heap.size [.int .i64 1, .int .i64 k, .int .i64 n] 42 ∧ Below w.heap.size w W) ⟨Blk.new w _ 42, (Below.refl _ _).alloc (Nat.le_refl _) _⟩ (fun w1 hW => ?_)
    obtain ⟨hX, hbx⟩ := hW
    have HXB := Lib.hid hX; have HBX := Lib.hid hbx
    have x0 : w1.cell? ⟨w.heap.size, 0, none⟩ = some (.int .i64 1) := hX.cell 0
    have x2 : w1.cell? ⟨w.heap.size, 2, none⟩ = some (.int .i64 n) := hX.cell 2
    clear hX hbx
    go_upto_region 6 with (first
      | (go_at_call 10; (with_reducible refine (HB1.out _).mono ?_); rintro e w2 ⟨q, rfl, hq, hB, hbl⟩; have y2 : w2.cell? ⟨w.heap.size, 2, none⟩ = some (.int .i64 n) := (hbl.cell (p := ⟨w.heap.size, 2, none⟩) HXB.out.lt).trans x2)
      | fail)
    have hrd : RdB w2 (some ⟨q, 0, none⟩) 64 64 (stB n) := by rw [HX.out]; exact hB.rd (alB_len 64 n) (by unfold maxLen; omega)
    clear hB a1 HX
    have HT2 := Lib.hid (HT.out.later (Below.call HBX.out hbl))
    have HRD := Lib.hid hrd
    have HXC : Hid (w2.cell? ⟨w.heap.size, 1, none⟩ = some (.int .i64 k) ∧ w.heap.size < w2.heap.size) := Lib.hid ⟨(hbl.cell (p := ⟨w.heap.size, 1, none⟩) HXB.out.lt).trans (HXB.out.cell 1), Nat.lt_of_lt_of_le HXB.out.lt hbl.size⟩
    have HNF : Hid (¬ F w.heap.size) := Lib.hid (fun h => Nat.lt_irrefl _ (HT.out.dv.lt _ h))
    have HQ : Hid (w.heap.size ≤ q) := Lib.hid (Nat.le_trans HBX.out.size hq)
    have HB2 := Lib.hid (Below.call HBX.out hbl)
    clear x0 x2 y2 hrd hbl hq
    refine rgQ 12 [(6, 11), (16, 0), (0, 1), (0, 2), (0, 3), (0, 4), (0, 5), (0, 6), (0, 7), (0, 8), (0, 9), (0, 10)] [.pointer (some ⟨g, 0, none⟩), .pointer (some ⟨w.heap.size, 1, none⟩), .int .i64 k, .slice (some ⟨q, 0, none⟩) 64 64, .int .i64 (d.writeC k (stB n)), .pointer (some ⟨m, 0, none⟩), .pointer (some ⟨w.heap.size, 1, none⟩), .int .i64 k, .slice (some ⟨q, 0, none⟩) 64 64, .int .i64 (d.writeC k (stB n)), .bool true, .bool true] [4, 9] (fun j W => if j = 0 then Below w2.heap.size w2 W else if j = 1 then (∃ F', Dv W g (d.write k (stB n)) F' ∧ Fr F w2 W ∧ ∀ y, F' y → F y ∨ w2.heap.size ≤ y) else TwD w2 W g m (d.write k (stB n)) F FM S) ?_ (by intro k hk; simp at hk; omega) ?_ (fun u6 W6 hP hv => ?_)
    · simp only [if_pos]; exact (Below.refl _ _).drew
    · refine ⟨?_, ?_, ?_, ?_, ?_, ?_, ?_, ?_, ?_, ?_, ?_, ?_, trivial⟩
      · refine kkP (by decide) fun u W j hP h1 h2 hu => ?_
        clear hP h1 h2
        go_simp
      · refine kkP (by decide) fun u W j hP h1 h2 hu => ?_
        clear hP h1 h2
        go_simp
      · refine kkP (by decide) fun u W j hP h1 h2 hu => ?_
        have e1 : u 1 = .pointer (some ⟨w.heap.size, 1, none⟩) := hu 1 (by kernel_rfl)
        have hj : j = 0 := by have := h2 0 4 rfl (.one (by kernel_rfl)); omega
        subst hj
        have hP : Below w2.heap.size w2 W := by simpa using hP
        have hcx : W.cell? ⟨w.heap.size, 1, none⟩ = some (.int .i64 k) := (hP.cell (p := ⟨w.heap.size, 1, none⟩) HXC.out.2).trans HXC.out.1
        go_simp
      · refine kkP (by decide) fun u W j hP h1 h2 hu => ?_
        clear hP h1 h2
        go_simp
      · refine kkC (t := 0) rfl (by decide) (fun s k hs => absurd hs (Nat.not_lt_zero s)) fun u W hP hu K hK => ?_
        have e0 : u 0 = .pointer (some ⟨g, 0, none⟩) := hu 0 (by kernel_rfl)
        have e2 : u 2 = .int .i64 k := hu 2 (by kernel_rfl)
        have e3 : u 3 = .slice (some ⟨q, 0, none⟩) 64 64 := hu 3 (by kernel_rfl)
        have hP : Below w2.heap.size w2 W := by simpa using hP
        go_simp
        go_at_call 12
        (with_reducible refine (bWrite_any (HT2.out.dv.later hP) HN.out HO.out HL.out (HRD.out.below hP) (fun p hp h => by cases hp; exact absurd (HT.out.dv.lt _ h) (Nat.not_lt.2 HQ.out))).mono ?_); rintro e w6 ⟨rfl, F', hD', hf', hF'⟩
        have hk9 := hK.out w6 (by simp only [Nat.reduceAdd, if_neg (show ¬ (1 : Nat) = 0 by omega), if_true]; exact ⟨F', hD', (Fr.of_below hP).trans hf' (fun y hy => .inl hy), fun y hy => (hF' y hy).imp id (fun h => Nat.le_trans hP.size h)⟩)
        first | exact hk9 | (simp only [List.getD_cons_zero, List.getD_cons_succ, e0, e2, e3] at hk9; exact hk9)
      · refine kkP (by decide) fun u W j hP h1 h2 hu => ?_
        clear hP h1 h2
        go_simp
      · refine kkP (by decide) fun u W j hP h1 h2 hu => ?_
        clear hP h1 h2
        go_simp
      · refine kkP (by decide) fun u W j hP h1 h2 hu => ?_
        have e6 : u 6 = .pointer (some ⟨w.heap.size, 1, none⟩) := hu 6 (by kernel_rfl)
        have hj : j = 0 ∨ j = 1 := by have := h2 1 9 rfl (.one (by kernel_rfl)); omega
        have hcx : W.cell? ⟨w.heap.size, 1, none⟩ = some (.int .i64 k) := by
          rcases hj with rfl | rfl
          · have hP : Below w2.heap.size w2 W := by simpa using hP
            exact (hP.cell (p := ⟨w.heap.size, 1, none⟩) HXC.out.2).trans HXC.out.1
          · have hP : ∃ F', Dv W g (d.write k (stB n)) F' ∧ Fr F w2 W ∧ ∀ y, F' y → F y ∨ w2.heap.size ≤ y := by simpa using hP
            obtain ⟨F', _, hf', _⟩ := hP
            exact (hf'.cell (p := ⟨w.heap.size, 1, none⟩) HXC.out.2 HNF.out).trans HXC.out.1
        clear hP h1 h2 hj
        go_simp
      · refine kkP (by decide) fun u W j hP h1 h2 hu => ?_
        clear hP h1 h2
        go_simp
      · refine kkC (t := 1) rfl (by decide) (fun s k hs hk => ord1 hs hk (.one (by kernel_rfl))) fun u W hP hu K hK => ?_
        have e5 : u 5 = .pointer (some ⟨m, 0, none⟩) := hu 5 (by kernel_rfl)
        have e7 : u 7 = .int .i64 k := hu 7 (by kernel_rfl)
        have e8 : u 8 = .slice (some ⟨q, 0, none⟩) 64 64 := hu 8 (by kernel_rfl)
        have e4 : u 4 = .int .i64 (d.writeC k (stB n)) := hu 4 (by kernel_rfl)
        have hP : ∃ F', Dv W g (d.write k (stB n)) F' ∧ Fr F w2 W ∧ ∀ y, F' y → F y ∨ w2.heap.size ≤ y := by simpa using hP
        obtain ⟨F', hD', hf', hF'⟩ := hP
        have hM' := HT2.out.md.frame hf' (fun x hx h => (HT.out.ap x h).1 hx) (fun x hx h => (HT.out.ap x h).2 hx)
        have hR' : RdB W (some ⟨q, 0, none⟩) 64 64 (stB n) := hf'.rd HRD.out (fun p hp h => by cases hp; exact absurd (HT.out.dv.lt _ h) (Nat.not_lt.2 HQ.out))
        go_simp
        go_at_call 32
        (with_reducible refine (dWrite_any hM' HN.out HO.out HL.out hR' (fun p hp h => by cases hp; exact absurd (HT.out.md.lt.1 _ h) (Nat.not_lt.2 HQ.out))).mono ?_); rintro e w6 ⟨rfl, S', hM9, hf9, hS9⟩
        have hFM : ∀ x, FM x → x < w2.heap.size := HT2.out.md.lt.1
        have hTw : TwD w2 w6 g m (d.write k (stB n)) F FM S := ⟨F', S', ⟨hD'.frame hf9 (fun x hx h => by
            rcases hF' x hx with h1 | h1
            · exact (HT.out.ap x h1).1 h
            · have := hFM x h; omega), hM9, fun x hx => ⟨fun h => by
            rcases hF' x hx with h1 | h1
            · exact (HT.out.ap x h1).1 h
            · have := hFM x h; omega, fun h => by
            have hl := hD'.lt x hx
            rcases hS9 x h with h2 | h2
            · rcases hF' x hx with h1 | h1
              · exact (HT.out.ap x h1).2 h2
              · have := HT2.out.md.lt.2.1 x h2; omega
            · omega⟩⟩, (hf'.mono (F' := fun x => F x ∨ FM x) (fun x hx => .inl (.inl hx))).trans (hf9.mono (F' := fun x => F x ∨ FM x) (fun x hx => .inl (.inr hx))) (fun x hx => .inl hx), hF', fun x hx => (hS9 x hx).imp id (fun h => Nat.le_trans hf'.size h)⟩
        have hk9 := hK.out w6 (by simpa using hTw)
        first | exact hk9 | (simp only [List.getD_cons_zero, List.getD_cons_succ, e4, e5, e7, e8] at hk9; exact hk9)
      · refine kkP (by decide) fun u W j hP h1 h2 hu => ?_
        have e4 : u 4 = .int .i64 (d.writeC k (stB n)) := hu 4 (by kernel_rfl)
        have e9 : u 9 = .int .i64 (d.writeC k (stB n)) := hu 9 (by kernel_rfl)
        clear hP h1 h2
        go_simp
        try simp
      · refine kkP (by decide) fun u W j hP h1 h2 hu => ?_
        have e10 : u 10 = .bool true := hu 10 (by kernel_rfl)
        clear hP h1 h2
        go_simp
    have HTW : Hid (TwD w2 W6 g m (d.write k (stB n)) F FM S) := Lib.hid (by simpa using hP)
    have hu11 : u6 11 = .bool true := hv 11 (by omega)
    clear hP hv
    go_wp2
    go_ret
    obtain ⟨F', S', t1, t2, t3, t4⟩ := HTW.out
    exact ⟨congrArg Ending.returned hu11, F', S', t1, (Fr.of_below (F := fun x => F x ∨ FM x) HB2.out).trans t2 (fun x hx => .inl hx), fun x hx => (t3 x hx).imp id (fun h => Nat.le_trans HB2.out.size h), fun x hx => (t4 x hx).imp id (fun h => Nat.le_trans HB2.out.size h)⟩
end Go.Proofs.Ytgehbchaamilhaa
namespace Go.Proofs.Ytgehbchaamilhaa
open Go Go.RowKit Go.Maps
theorem Tw.mdF {w w' : World} {g m : Nat} {d : Bd} {F FM S : Nat → Prop} (h : Tw w g m d F FM S) (hf : Fr F w w') : Md w' m d FM S := h.md.frame hf (fun x hx h1 => (h.ap x h1).1 hx) (fun x hx h1 => (h.ap x h1).2 hx)
theorem Tw.own {w : World} {g m : Nat} {d : Bd} {F FM S : Nat → Prop} (h : Tw w g m d F FM S) : F g := by obtain ⟨gb, c, mb, _, hR⟩ := h.dv.ex; exact hR.own
theorem Tw.mdG {w w' : World} {g m : Nat} {d : Bd} {F FM S : Nat → Prop} (h : Tw w g m d F FM S) (hf : Fr (fun x => x = g) w w') : Md w' m d FM S := h.mdF (hf.mono (fun x hx => .inl (by cases hx; exact h.own)))
set_option maxRecDepth 100000 in
set_option maxHeartbeats 2000000 in
theorem bDoes_flush {w : World} {g m : Nat} {k n : Int} {d : Bd} {F FM S : Nat → Prop} (h : Tw w g m d F FM S) (h0 : 0 < d.good.length) (hN : d.good.length ≤ 1000) (ho : d.ops < 1000000) (hl : d.left ≤ 9223372036854775807) :
    Calls Try.prog 17 #[.pointer (some ⟨g, 0, none⟩), .pointer (some ⟨m, 0, none⟩), .agg #[.int .i64 2, .int .i64 k, .int .i64 n]] w fun e w' => e = .returned (.bool true) ∧ TwD w w' g m d.flush F FM S := by
  have HT := Lib.hid h
  have H0 := Lib.hid h0; have HN : Hid (d.good.length ≤ 100000) := Lib.hid (by omega); have HO := Lib.hid ho; have HL := Lib.hid hl
  clear h h0 hN ho hl
  go_enter Try.func17, Try.ntmps17
  go_upto_region 1 with fail
  refine wp_gen (fun W => Blk W w.heap.size [.int .i64 2, .int .i64 k, .int .i64 n] 42 ∧ Below w.heap.size w W) ⟨Blk.new w _ 42, (Below.refl _ _).alloc (Nat.le_refl _) _⟩ (fun w1 hW => ?_)
  obtain ⟨hX, hbx⟩ := hW
  have x0 : w1.cell? ⟨w.heap.size, 0, none⟩ = some (.int .i64 2) := hX.cell 0
  have HBX := Lib.hid hbx
  have HTB := Lib.hid (HT.out.later hbx)
  clear hX hbx
  go_wp2_with (first
    | (go_at_call 21; (with_reducible refine (bFlush_any HTB.out.dv H0.out HN.out HO.out HL.out).mono ?_); rintro e w2 ⟨rfl, F', hD, hf, hF'⟩)
    | (go_at_call 33; (with_reducible refine (dFlush_any (HTB.out.mdF hf) HN.out HO.out HL.out).mono ?_); rintro e w3 ⟨rfl, hM, hf3⟩))
  go_ret
  have hFM : ∀ x, FM x → x < w1.heap.size := HTB.out.md.lt.1
  have hSM : ∀ x, S x → x < w1.heap.size := HTB.out.md.lt.2.1
  have hap : ∀ x, F' x → ¬ FM x ∧ ¬ S x := fun x hx => by
    rcases hF' x hx with h | h
    · exact HTB.out.ap x h
    · exact ⟨fun h2 => by have := hFM x h2; omega, fun h2 => by have := hSM x h2; omega⟩
  exact ⟨by simp, F', S, ⟨hD.frame hf3 (fun x hx => (hap x hx).1), hM, hap⟩, (Fr.of_below (F := fun x => F x ∨ FM x) HBX.out).trans ((hf.mono (F' := fun x => F x ∨ FM x) (fun x hx => .inl (.inl hx))).trans (hf3.mono (F' := fun x => F x ∨ FM x) (fun x hx => .inl (.inr hx))) (fun x hx => .inl hx)) (fun x hx => .inl hx), fun x hx => (hF' x hx).imp id (fun h => Nat.le_trans HBX.out.size h), fun x hx => .inl hx⟩
set_option maxRecDepth 100000 in
set_option maxHeartbeats 2000000 in
theorem bDoes_cut {w : World} {g m : Nat} {k n : Int} {d : Bd} {F FM S : Nat → Prop} (h : Tw w g m d F FM S) (hk : -9223372036854775808 ≤ k) :
    Calls Try.prog 17 #[.pointer (some ⟨g, 0, none⟩), .pointer (some ⟨m, 0, none⟩), .agg #[.int .i64 3, .int .i64 k, .int .i64 n]] w fun e w' => e = .returned (.bool true) ∧ TwD w w' g m (d.cutAt k) F FM S := by
  have HT := Lib.hid h; have HK := Lib.hid hk
  clear h hk
  go_enter Try.func17, Try.ntmps17
  go_upto_region 1 with fail
  refine wp_gen (fun W => Blk W w.heap.size [.int .i64 3, .int .i64 k, .int .i64 n] 42 ∧ Below w.heap.size w W) ⟨Blk.new w _ 42, (Below.refl _ _).alloc (Nat.le_refl _) _⟩ (fun w1 hW => ?_)
  obtain ⟨hX, hbx⟩ := hW
  have x0 : w1.cell? ⟨w.heap.size, 0, none⟩ = some (.int .i64 3) := hX.cell 0
  have x1 : w1.cell? ⟨w.heap.size, 1, none⟩ = some (.int .i64 k) := hX.cell 1
  have HXB := Lib.hid hX
  have HBX := Lib.hid hbx
  have HTB := Lib.hid (HT.out.later hbx)
  clear hX hbx
  go_wp2_with (first
    | (go_at_call 20; (with_reducible refine (bCut_any HTB.out.dv).mono ?_); rintro e w2 ⟨rfl, hD, hf⟩; have y1 : w2.cell? ⟨w.heap.size, 1, none⟩ = some (.int .i64 k) := (hf.cell (p := ⟨w.heap.size, 1, none⟩) HXB.out.lt (fun h => by have h : w.heap.size = g := h; have h2 := HT.out.dv.lt g (by obtain ⟨gb, c, mb, _, hR⟩ := HT.out.dv.ex; exact hR.own); omega)).trans x1)
    | (go_at_call 34; (with_reducible refine (dCut_any (HTB.out.mdG hf) HK.out).mono ?_); rintro e w3 ⟨rfl, hM, hf3⟩))
  go_ret
  have hFg : F g := by obtain ⟨gb, c, mb, _, hR⟩ := HT.out.dv.ex; exact hR.own
  have hFm : FM m := by obtain ⟨gg, cg, gw, cw, l, _, _, _, hR⟩ := HT.out.md.ex; exact hR.own.1
  exact ⟨rfl, F, S, ⟨hD.frame hf3 (fun x hx h => by cases h; exact (HT.out.ap _ hx).1 hFm), hM, HT.out.ap⟩, (Fr.of_below (F := fun x => F x ∨ FM x) HBX.out).trans ((hf.mono (F' := fun x => F x ∨ FM x) (fun x hx => .inl (.inl (by cases hx; exact hFg)))).trans (hf3.mono (F' := fun x => F x ∨ FM x) (fun x hx => .inl (.inr (by cases hx; exact hFm)))) (fun x hx => .inl hx)) (fun x hx => .inl hx), fun x hx => .inl hx, fun x hx => .inl hx⟩
set_option maxRecDepth 100000 in
set_option maxHeartbeats 2000000 in
theorem bDoes_none {w : World} {g m : Nat} {kind k n : Int} {d : Bd} {F FM S : Nat → Prop} (h : Tw w g m d F FM S) (h1 : kind ≠ 1) (h2 : kind ≠ 2) (h3 : kind ≠ 3) :
    Calls Try.prog 17 #[.pointer (some ⟨g, 0, none⟩), .pointer (some ⟨m, 0, none⟩), .agg #[.int .i64 kind, .int .i64 k, .int .i64 n]] w fun e w' => e = .returned (.bool true) ∧ TwD w w' g m d F FM S := by
  have HT := Lib.hid h
  have e1 : (kind == 1) = false := beq_eq_false_iff_ne.2 h1
  have e2 : (kind == 2) = false := beq_eq_false_iff_ne.2 h2
  have e3 : (kind == 3) = false := beq_eq_false_iff_ne.2 h3
  clear h h1 h2 h3
  go_enter Try.func17, Try.ntmps17
  go_upto_region 1 with fail
  refine wp_gen (fun W => Blk W w.heap.size [.int .i64 kind, .int .i64 k, .int .i64 n] 42 ∧ Below w.heap.size w W) ⟨Blk.new w _ 42, (Below.refl _ _).alloc (Nat.le_refl _) _⟩ (fun w1 hW => ?_)
  obtain ⟨hX, hbx⟩ := hW
  have x0 : w1.cell? ⟨w.heap.size, 0, none⟩ = some (.int .i64 kind) := hX.cell 0
  have HBX := Lib.hid hbx
  have HTB := Lib.hid (HT.out.later hbx)
  clear hX hbx
  go_wp2
  go_ret
  exact ⟨rfl, F, S, HTB.out, Fr.of_below HBX.out, fun x hx => .inl hx, fun x hx => .inl hx⟩
theorem bDoes_any {w : World} {g m : Nat} {kind k n : Int} {d : Bd} {F FM S : Nat → Prop} (h : Tw w g m d F FM S) (h0 : 0 < d.good.length) (hN : d.good.length ≤ 1000) (ho : d.ops < 1000000) (hl : d.left ≤ 9223372036854775807) (hk : -9223372036854775808 ≤ k) :
    Calls Try.prog 17 #[.pointer (some ⟨g, 0, none⟩), .pointer (some ⟨m, 0, none⟩), .agg #[.int .i64 kind, .int .i64 k, .int .i64 n]] w fun e w' => e = .returned (.bool true) ∧ TwD w w' g m (d.step kind k n) F FM S := by
  unfold Bd.step
  by_cases h1 : kind = 1
  · subst h1; rw [if_pos rfl]; exact bDoes_write h hN ho hl
  · rw [if_neg h1]
    by_cases h2 : kind = 2
    · subst h2; rw [if_pos rfl]; exact bDoes_flush h h0 hN ho hl
    · rw [if_neg h2]
      by_cases h3 : kind = 3
      · subst h3; rw [if_pos rfl]; exact bDoes_cut h hk
      · rw [if_neg h3]; exact bDoes_none h h1 h2 h3
end Go.Proofs.Ytgehbchaamilhaa
