/- What BL rests on, part 2 of 2: my own texts, put together (merge.py). -/
import Derived.WalkKit
import Derived.ProofKit
import Derived.Lib.Hide
import Derived.OpenShut
import Derived.Test.YtgehbchaamilhaaRows
import Derived.WalkSpells
import Derived.StillTactics
import Derived.Laws.Pointers
import Derived.Laws.CopyOwn
import Derived.Laws.AppendOwnNone
import Derived.Deep.RegionHeld3
import Derived.RowKit3
import Derived.BigQuiet
import Derived.Deep.QuietTactic
import Derived.Deep.LoopGhost
import Derived.Deep.DeepFit
import Derived.WalkLawsBesides
import Derived.Shelf.Spec.BitsCarry
import Derived.Deep.MidRow
import Derived.Deep.WholeRow
import Derived.Laws.Rows
import Derived.Deep.DeepCutAuto
import Derived.Maps.RangeWalk
import Derived.Laws.MakeOwn
import Derived.Laws.IdiomStrings
import Derived.Maps.AppendAt
import Derived.Laws.CopyRow
import Derived.Laws.IdiomCopy
import Derived.Shelf.SlIterI.Nil
import Derived.Shelf.SlIterI.Sorted
import Derived.Shelf.SortM.Plain
import Derived.Shelf.SortM.SortNone
import Derived.Laws.AppendOwn
import Derived.Lib.BufferMore
import Derived.Laws.OwnMore
import Derived.Deep.Slices
import Derived.Deep.Fields
import Derived.ChangeSame
import Derived.ShutString
import Derived.ChangeOld
import Derived.Test.YtgehbchaamilhaaZBLA
namespace Go.Proofs.Ytgehbchaamilhaa
open Go Go.RowKit Go.Maps
theorem build_none (w : World) : (Instr.buildSlice 59 0 #[]).run Try.prog w = .ok (.slice (some ⟨w.heap.size, 0, none⟩) 0 0) (w.alloc (.cells #[] 64)) := by
  obtain ⟨i, hi, hz, hs, hb⟩ := infoRow
  simp [Instr.buildSlice, Sem.run_bind, run_underlying Try.underlying59, sizeOf, typeInfo, zeroValue, hi, hs, hz, newRow, Instr.fill]
  congr 2
  exact Array.eq_empty_of_size_eq_zero (by simp)
/-- A slice of these rows, in a block of its own from B on. -/
def NewR (B : Nat) (l : List (List UInt8)) : WP := ⟨fun v w => ∃ q c r, v = .slice (some ⟨q, 0, none⟩) l.length c ∧ B ≤ q ∧ Blk w q (rowsV l ++ r) 64 ∧ (rowsV l ++ r).length = c * 64 ∧ l.length ≤ c ∧ c ≤ maxLen,
  fun _ _ _ ⟨q, c, r, e, hq, hB, h⟩ hb => ⟨q, c, r, e, hq, hB.below hb hB.lt, h⟩⟩
theorem NewR.own {w : World} {B : Nat} {l : List (List UInt8)} {v : Value} (h : w.ownsRow B 64 64 v l.length (rowsV l)) (h0 : l ≠ []) : (NewR B l).P v w := by
  obtain ⟨hl, hr⟩ := h
  rcases hr with ⟨_, hn⟩ | ⟨g, cap, cur, rfl, hb, hg, h1, h2, h3, h4⟩
  · exact absurd (List.eq_nil_of_length_eq_zero hn) h0
  · refine ⟨g, cap, cur.toList.drop (l.length * 64), rfl, hb, ?_, ?_, h1, h2⟩
    · unfold Blk
      rw [← h4, List.take_append_drop]; exact hg
    · rw [← h4, List.take_append_drop, Array.length_toList]; exact h3
set_option maxRecDepth 100000 in
set_option maxHeartbeats 1000000 in
theorem bCloneR_any {w : World} {s c : Nat} {l : List (List UInt8)} {r : List Value} (hB : Blk w s (rowsV l ++ r) 64) (hl : ∀ x ∈ l, x.length = 64) (h0 : l ≠ []) (hn : l.length ≤ 1000000) :
    Calls Try.prog 37 #[.slice (some ⟨s, 0, none⟩) l.length c] w fun e w' => ∃ v, e = .returned v ∧ (NewR w.heap.size l).P v w' ∧ Below w.heap.size w w' := by
  obtain ⟨i, hi, hz, hs, hb⟩ := infoRow
  have HB := Lib.hid hB; have HL := Lib.hid hl; have H0 := Lib.hid h0; have HN := Lib.hid hn
  have hbn := build_none
  have hlen := rowsV_len hl
  have HLEN := Lib.hid hlen
  have hsl := HB.out.lt
  have hown : (w.alloc (.cells #[] 64)).ownsRow w.heap.size 64 64 (.slice (some ⟨w.heap.size, 0, none⟩) 0 0) 0 [] := ⟨rfl, .inr ⟨w.heap.size, 0, #[], rfl, Nat.le_refl _, Blk.new w #[] 64, Nat.le_refl _, by unfold maxLen; omega, rfl, rfl⟩⟩
  have hnews : ∀ j v, (rowsV l)[j]? = some v → (w.alloc (.cells #[] 64)).cell? ((⟨s, 0, none⟩ : Addr).add j) = some v := fun j v hv => by
    rw [Addr.add_mid, Nat.zero_add, (HB.out.alloc _).cell, List.getElem?_append_left (List.getElem?_eq_some_iff.1 hv).1]; exact hv
  have hone : ∀ v ∈ rowsV l, v.oneCell' = true := fun v hv => by obtain ⟨c, rfl⟩ := rowsV_mem hv; rfl
  have hnil : ∀ W, (binOp .eql 59 (.slice (some ⟨s, 0, none⟩) l.length c) (.slice none 0 0)).run Try.prog W = .ok (.bool false) W := fun W => Lib.run_eql_slice_some_nil W _ _ _ Try.underlying59
  clear hB hl h0 hn
  go_enter Try.func37, Try.ntmps37
  go_wp2_with (at_builtin; go_must (refine wpList_append_own _ rfl (.tmp 5) (.tmp 6) 59 rfl w.heap.size 64 i (rowV zero64) 64 64 Try.underlying59 hi hz hs hb (by rw [zero_cells]; simp) (by omega) _ 0 [] rfl hown ⟨s, 0, none⟩ l.length c (rowsV l) rfl (by rw [hlen]; omega) hnews hone (by have := HN.out; unfold maxLen; omega) (by have := HN.out; omega) (by simp) ?_); intro v' w' ho hg _)
  have HO := Lib.hid ho; have HG := Lib.hid hg
  clear ho hg hown hnews hone hbn
  go_ret
  refine ⟨v', rfl, ?_, ?_⟩
  · have := HO.out
    rw [Nat.zero_add, List.nil_append] at this
    exact NewR.own this H0.out
  · exact ((Below.refl _ _).alloc (Nat.le_refl _) _).grown HG.out (by simp) (fun k hk => by cases hk; exact Nat.le_refl _)
/-- A device, some of whose writes are left out. -/
def Bd.part (d : Bd) (left : Lit → Bool) : Bd := { d with pend := fun k => if left (.int .i64 (k : Int)) = true then [] else d.pend k }
theorem Bd.part_ok {d : Bd} (h : d.Ok) (left : Lit → Bool) : (d.part left).Ok :=
  ⟨h.rows, fun k r hr => by unfold Bd.part at hr; simp only at hr; split at hr; simp at hr; exact h.pend k r hr, fun k hk => by unfold Bd.part; simp only; split; rfl; exact h.few k hk, h.left, fun k => by unfold Bd.part; simp only; split; exact Nat.zero_le _; exact h.cnt k⟩
theorem Bd.part_start {d : Bd} {left : Lit → Bool} (h : ∀ k : Nat, d.pend k ≠ [] → left (.int .i64 (k : Int)) = true) : (d.part left).pend = fun _ => [] := by
  funext k
  unfold Bd.part; simp only
  by_cases h0 : d.pend k = []
  · rw [h0]; simp
  · rw [if_pos (h k h0)]
theorem Bd.part_step {d : Bd} {left : Lit → Bool} {k : Nat} : (d.part (fun z => left z && !z.sameKey (.int .i64 (k : Int)))).pend = fun j => if j = k then d.pend k else (d.part left).pend j := by
  funext j
  unfold Bd.part; simp only
  by_cases e : j = k
  · subst e
    have hs := WideAt.sameKey_self (keylit j)
    simp only [hs]; simp
  · have hs : (Lit.int .i64 (j : Int)).sameKey (.int .i64 (k : Int)) = false := sameKey_ne (fun h => e (by cases h; rfl))
    rw [if_neg e]
    simp only [hs, Bool.not_false, Bool.and_true]
theorem Bd.part_end {d : Bd} {left : Lit → Bool} (h : ∀ kl, left kl = false) : d.part left = d := by
  unfold Bd.part
  have : (fun k : Nat => if left (.int .i64 (k : Int)) = true then [] else d.pend k) = d.pend := by funext k; rw [h]; simp
  rw [this]
theorem own_exact {w : World} {mb m : Nat} {D : DataW Value} (h : w.ownsMap Try.prog 3 hR mb m D) : w.ownsMap Try.prog 3 hR mb (Maps.size D) D := by
  obtain ⟨es, clock, hb, F, hs, rfl⟩ := h
  exact ⟨es, clock, hb, F, by simp [Maps.size, length_sorted], rfl⟩
theorem size_keys {w : World} {mb m : Nat} {d : Bd} {D : DataW Value} {G : Nat → Prop} (hok : d.Ok) (ho : w.ownsMap Try.prog 3 hR mb m D) (hp : PendR w d.pend D G) : Maps.size D = d.keys.length := by
  have h1 := congrArg List.length (keys_sorted hok ho hp (List.Perm.refl _))
  rw [List.length_mergeSort, List.length_map] at h1
  rw [← h1]
  obtain ⟨es, rfl, _⟩ := ho.entries intK
  simp [Maps.size, intKeys]
theorem Bd.keys_few (d : Bd) : d.keys.length ≤ d.good.length := by
  have := List.length_filter_le (fun k => !(d.pend k).isEmpty) (List.range d.good.length)
  rw [List.length_range] at this
  unfold Bd.keys; omega
theorem NewR.mono {B B' : Nat} {l : List (List UInt8)} {v : Value} {w : World} (h : (NewR B l).P v w) (hB : B' ≤ B) : (NewR B' l).P v w := by
  obtain ⟨q, c, r, e, hq, h⟩ := h
  exact ⟨q, c, r, e, Nat.le_trans hB hq, h⟩
theorem run_upd {ev : Operand → Value} {o : Oper} {a b c : Operand} {w w' : World} {mb k : Nat} {v : Value} (ho : o.op = .mapUpdate 60 a b c) (ha : ev a = .map (some mb)) (hb : ev b = .int .i64 (k : Int)) (hc : ev c = v)
    (h : (Instr.mapUpdate 60 (.map (some mb)) (.int .i64 (k : Int)) v).run Try.prog w = .ok () w') : (execOp ev o).run Try.prog w = .ok .skip w' := by
  unfold execOp
  simp only [ho]
  simp [ha, hb, hc, h]
/-- A key comes to it. -/
theorem PendR.add {w W : World} {pend : Nat → List (List UInt8)} {D : DataW Value} {G F : Nat → Prop} {k q cq : Nat} {rows : List (List UInt8)} {r : List Value} (h : PendR w pend D G) (hD : IsMap D) (hf : Fr F w W) (hF : ∀ x, G x → ¬ F x) (hk : pend k = []) (h0 : rows ≠ [])
    (hB : Blk W q (rowsV rows ++ r) 64) (hl : (rowsV rows ++ r).length = cq * 64) (h1 : rows.length ≤ cq) (h2 : cq ≤ maxLen) (hq : ¬ G q) :
    PendR W (fun j => if j = k then rows else pend j) (D.put (.int .i64 (k : Int)) (.held (.slice (some ⟨q, 0, none⟩) rows.length cq))) (fun y => G y ∨ y = q) := by
  have hat2 : ∀ j : Nat, j ≠ k → (D.put (.int .i64 (k : Int)) (.held (.slice (some ⟨q, 0, none⟩) rows.length cq))).atKey (.int .i64 (j : Int)) (.held nilS) = D.atKey (.int .i64 (j : Int)) (.held nilS) := fun j hj => atKey_put_other (fun e => hj (by cases e; rfl)) _ _
  have hat3 := atKey_put_same hD (keylit k) (.held (.slice (some ⟨q, 0, none⟩) rows.length cq)) (.held nilS)
  have hold : ∀ (j : Nat) b n c, D.atKey (.int .i64 (j : Int)) (.held nilS) = .held (.slice (some ⟨b, 0, none⟩) n c) → G b := fun j b n c e => by
    by_cases hp : pend j = []
    · rw [atKey_of_not_has (h.no j hp)] at e
      simp [nilS] at e
    · obtain ⟨b2, c2, r2, e2, _, _, _, _, h5⟩ := h.row j hp
      rw [e] at e2
      cases e2
      exact h5
  refine ⟨fun kl hkl => ?_, fun j hj => ?_, fun j hj => ?_, fun j hj => ?_, fun i j b n c n' c' e1 e2 => ?_⟩
  · by_cases e : kl = .int .i64 (k : Int)
    · exact ⟨k, e⟩
    · rw [has_put_other e] at hkl
      exact h.keys kl hkl
  · by_cases e : j = k
    · rw [if_pos e] at hj; exact absurd hj h0
    · rw [if_neg e] at hj
      rw [has_put_other (fun h => e (by cases h; rfl))]
      exact h.no j hj
  · by_cases e : j = k
    · subst e; exact has_put_same hD (keylit j) _
    · simp only [if_neg e] at hj
      rw [has_put_other (fun h => e (by cases h; rfl))]
      exact h.yes j hj
  · by_cases e : j = k
    · subst e
      rw [if_pos rfl]
      exact ⟨q, cq, r, hat3, hB, hl, h1, h2, .inr rfl⟩
    · simp only [if_neg e] at hj ⊢
      obtain ⟨b, c, r, e2, hB, a1, a2, a3, a4⟩ := h.row j hj
      exact ⟨b, c, r, by rw [hat2 j e]; exact e2, hf.blk hB (hF b a4), a1, a2, a3, .inl a4⟩
  · by_cases ei : i = k
    · by_cases ej : j = k
      · rw [ei, ej]
      · rw [ei, hat3] at e1
        rw [hat2 j ej] at e2
        cases e1
        exact absurd (hold j _ _ _ e2) hq
    · by_cases ej : j = k
      · rw [ej, hat3] at e2
        rw [hat2 i ei] at e1
        cases e2
        exact absurd (hold i _ _ _ e1) hq
      · rw [hat2 i ei] at e1
        rw [hat2 j ej] at e2
        exact h.apart i j _ _ _ _ _ e1 e2
set_option maxRecDepth 100000 in
set_option maxHeartbeats 2000000 in
theorem bCopy_any {w : World} {g : Nat} {d : Bd} {F : Nat → Prop} (h : Dv w g d F) (h0 : 0 < d.good.length) (hN : d.good.length ≤ 1000) (ho : d.ops < 1000000) :
    Calls Try.prog 24 #[.pointer (some ⟨g, 0, none⟩)] w fun e w' => ∃ g' F', e = .returned (.pointer (some ⟨g', 0, none⟩)) ∧ Dv w' g' d F' ∧ (∀ x, F' x → w.heap.size ≤ x) ∧ Below w.heap.size w w' := by
  have HD := Lib.hid h
  have H0 := Lib.hid h0; have H1 := Lib.hid hN; have HO := Lib.hid ho
  have hz : ((d.good.length : Int) == 0) = false := by rw [beq_eq_false_iff_ne]; omega
  have hz2 : decide (d.good.length = 0) = false := decide_eq_false (by omega)
  obtain ⟨gb, c, mb, h1, hR⟩ := h.ex
  obtain ⟨m, r, D, G0, h2, h3, h4, h5, h6, h7, n1, n2, n3, hx, n4, n5, n6, h8⟩ := hR.ex
  have c0 : w.cell? ⟨g, 0, none⟩ = some (.slice (some ⟨gb, 0, none⟩) d.good.length c) := h1.cell 0
  have c1 : w.cell? ⟨g, 1, none⟩ = some (.map (some mb)) := h1.cell 1
  have c2 : w.cell? ⟨g, 2, none⟩ = some (.int .i64 (d.ops : Nat)) := h1.cell 2
  have c3 : w.cell? ⟨g, 3, none⟩ = some (.int .i64 d.left) := h1.cell 3
  have c4 : w.cell? ⟨g, 4, none⟩ = some (.bool d.cut) := h1.cell 4
  have c5 : w.cell? ⟨g, 5, none⟩ = some (.bool d.off) := h1.cell 5
  have hglt := h1.lt
  have HB2 := Lib.hid h2; have H7 := Lib.hid h7; have H5 := Lib.hid h5; have H6 := Lib.hid h6
  have HGL : Hid (d.good ≠ []) := Lib.hid (fun e => by rw [e] at h0; simp at h0)
  have hmm := @run_makeMap Try.prog
  clear h h0 hN ho hR h1 h2 h3 h4 h5 h6 h7 n1 n2 n3 hx n4 n5 n6 h8
  go_enter Try.func24, Try.ntmps24
  go_upto_region 4 with (first
    | (go_at_call 26; (with_reducible refine (bLen_any HD.out).mono ?_); rintro e wz ⟨rfl, rfl⟩))
  refine wp_gen (fun W => Blk W w.heap.size (dvS gb c mb d) 62 ∧ Below w.heap.size w W) ⟨Blk.new w _ 62, (Below.refl _ _).alloc (Nat.le_refl _) _⟩ (fun w1 hW => ?_)
  obtain ⟨hO, hb1⟩ := hW
  have HO1 := Lib.hid hO; have HB1 := Lib.hid hb1
  have c0' : w1.cell? ⟨g, 0, none⟩ = some (.slice (some ⟨gb, 0, none⟩) d.good.length c) := (hb1.cell (p := ⟨g, 0, none⟩) hglt).trans c0
  clear c0 c2 c3 c4 c5 hO hb1
  go_upto_region 6 with (first
    | (go_at_call 37; (with_reducible refine (bCloneR_any (HB2.out.below HB1.out HB2.out.lt) HD.out.ok.rows HGL.out (by have := H1.out; omega)).mono ?_); rintro e w2 ⟨v, rfl, hv, hb2⟩; obtain ⟨q, cq, rq, rfl, hq1, hq2, hq3, hq4, hq5⟩ := hv; have HO2 := Lib.hid (HO1.out.below hb2 HO1.out.lt); have fO := HO2.out.frozen; have o0 : w2.cell? ⟨w.heap.size, 0, none⟩ = some (.slice (some ⟨gb, 0, none⟩) d.good.length c) := HO2.out.cell 0; have o1 : w2.cell? ⟨w.heap.size, 1, none⟩ = some (.map (some mb)) := HO2.out.cell 1; have hol := HO2.out.lt; have HQ2 := Lib.hid hq2; have HB9 := Lib.hid hb2; clear hq2 hb2))
  have HOL := Lib.hid hol
  refine wp_gen (fun W => Blk W w.heap.size (dvS q cq w2.heap.size d) 62 ∧ Blk W q (rowsV d.good ++ rq) 64 ∧ W.ownsMap Try.prog 3 hR w2.heap.size 0 (.map []) ∧ Below w.heap.size w W) ⟨?_, ?_, ?_, ?_⟩ (fun w3 hW => ?_)
  · exact ((HO2.out.set 0 (.slice (some ⟨q, 0, none⟩) d.good.length cq)).set 1 (.map (some w2.heap.size))).alloc (.map #[] 0)
  · have hne : q ≠ w.heap.size := by have := HB1.out.size; have := HO1.out.lt; omega
    exact ((((Fr.refl (fun y => y = w.heap.size) w2).one (.slice (some ⟨q, 0, none⟩) d.good.length cq) (o := 0)).one (.map (some w2.heap.size)) (o := 1)).alloc _).blk HQ2.out hne
  · have ho := World.ownsMap_made ((w2.setCell ⟨w.heap.size, 0, none⟩ (.slice (some ⟨q, 0, none⟩) d.good.length cq)).setCell ⟨w.heap.size, 1, none⟩ (.map (some w2.heap.size))) Try.prog 3 hR
    rw [show ((w2.setCell ⟨w.heap.size, 0, none⟩ (.slice (some ⟨q, 0, none⟩) d.good.length cq)).setCell ⟨w.heap.size, 1, none⟩ (.map (some w2.heap.size))).heap.size = w2.heap.size by simp] at ho
    exact ho
  · exact (Below.call HB1.out HB9.out).trans (((((Fr.refl (fun y => y = w.heap.size) w2).one (.slice (some ⟨q, 0, none⟩) d.good.length cq) (o := 0)).one (.map (some w2.heap.size)) (o := 1)).alloc _).below (Below.call HB1.out HB9.out).size (fun x hx => Nat.le_of_eq hx.symm))
  obtain ⟨hO3, hQ3, hM3, hb3⟩ := hW
  have hgO : w.heap.size < w2.heap.size := hol
  have hqO : q ≠ w.heap.size := by have := HB1.out.size; have := HO1.out.lt; omega
  have hqM : q < w2.heap.size := HQ2.out.lt
  have hqW : w.heap.size ≤ q := by have := HB1.out.size; omega
  obtain ⟨mb2, hmb2⟩ : ∃ mb2, mb2 = w2.heap.size := ⟨_, rfl⟩
  rw [← hmb2] at hO3 hM3 hgO hqM
  have hmb3 := hM3.lt
  have c1' : w3.cell? ⟨g, 1, none⟩ = some (.map (some mb)) := (hb3.cell (p := ⟨g, 1, none⟩) hglt).trans c1
  have HM3 := Lib.hid hM3; have HO3 := Lib.hid hO3; have HQ3 := Lib.hid hQ3; have HB3 := Lib.hid hb3
  have h5' : w3.ownsMap Try.prog 3 hR mb m D := ownsMap_frame (F := fun _ => False) (.of_below hb3) H5.out (fun h => h)
  clear c0' c1 fO o0 o1 hol hO3 hQ3 hM3 hb3
  go_wp2_with (first
    | (at_range; go_loud (refine wpList_range_own _ rfl _ 60 rfl 3 59 intK Try.underlying60 hR mb m D rfl h5' ?_; intro w4 hrg0 hg0 hs0))
    | go_in)
  go_frame
  have HG0 := Lib.hid hg0; have HS0 := Lib.hid hs0
  go_loopw [4] (fun _ wr => ∃ (left : Lit → Bool) (cnt : Nat) (D2 : DataW Value) (G2 : Nat → Prop) (m2 : Nat), wr.ranges Try.prog 3 hR mb w3.heap.size m D left cnt ∧ (∀ kl, left kl = true → has D kl = true) ∧ Blk wr w.heap.size (dvS q cq mb2 d) 62 ∧ Blk wr q (rowsV d.good ++ rq) 64 ∧
      wr.ownsMap Try.prog 3 hR mb2 m2 D2 ∧ PendR wr (d.part left).pend D2 G2 ∧ (∀ x, G2 x → w3.heap.size < x ∧ x < wr.heap.size) ∧ Below w.heap.size w wr ∧ w3.heap.size < wr.heap.size)
    (fun _ wr => wr.rangeLeft mb w3.heap.size)
  case atStart =>
    refine ⟨_, _, .map [], fun _ => False, 0, hrg0, fun _ h => h, HO3.out.grown HG0.out, HQ3.out.grown HG0.out, HM3.out.kept HG0.out (by simp), ?_, fun _ h => h.elim, HB3.out.trans (((Fr.refl (fun _ => False) w3).grown HG0.out (fun k hk => by cases hk)).below HB3.out.size (fun _ h => h.elim)), by omega⟩
    rw [Bd.part_start H7.out.yes]; exact pend_none _ _
  case round =>
    obtain ⟨left, cnt, D2, G2, m2, hrg, hle, hO, hQ, hM, hP2, hG2, hbw, hsz⟩ := hrel
    go_wp2_with (first
      | (at_next; refine wpList_next_ranges _ rfl _ rfl 3 intK hR (Value.int .i64) (fun v => v) (fun _ _ => key_int) (fun _ _ => hR_any) mb w3.heap.size m D left cnt rfl hrg ?_ ?_)
      | go_in)
    · intro hc0 hl0
      rw [Bd.part_end hl0] at hP2
      have HDV : Hid (Dv wr w.heap.size d (fun x => x = w.heap.size ∨ x = q ∨ x = mb2 ∨ G2 x)) := Lib.hid (by
        have e1 := size_keys HD.out.ok hM hP2
        have e2 := size_keys HD.out.ok H5.out H7.out
        have e3 := H5.out.size_le
        have e4 := HQ2.out.lt
        refine ⟨HD.out.ok, q, cq, mb2, hO, _, rq, D2, G2, hQ, hq4, hq5, own_exact hM, by have := H6.out; omega, hP2, fun e => hqO e.symm, by omega, by omega, fun x => Iff.rfl, fun h => by have := (hG2 _ h).1; omega, fun h => by have := (hG2 _ h).1; omega, fun h => by have := (hG2 _ h).1; omega, fun x h => (hG2 x h).2⟩)
      have HF : Hid (∀ x, (x = w.heap.size ∨ x = q ∨ x = mb2 ∨ G2 x) → w.heap.size ≤ x) := Lib.hid (by
        have := HB3.out.size
        rintro x (rfl | rfl | rfl | h)
        · omega
        · omega
        · omega
        · have := (hG2 _ h).1; omega)
      have HBW := Lib.hid hbw
      clear hrg hle hO hQ hM hP2 hG2 hbw hl0
      go_wp2
      go_ret
      exact ⟨w.heap.size, _, rfl, HDV.out, HF.out, HBW.out⟩
    · intro x cv kl y1 y2 w5 cnt1 hkey hlx hRv hat hrg1 hlt hg1 hs1 hen
      obtain ⟨x', hx1, hx2, _⟩ := keyOf_int_inv Try.underlying3 hkey
      cases hx1
      obtain ⟨k, hk⟩ := H7.out.keys kl (hle kl hlx)
      rw [hx2] at hk
      cases hk
      subst hx2
      have hpk : d.pend k ≠ [] := fun e => by have := H7.out.no k e; rw [hle _ hlx] at this; cases this
      have hkl : k < d.good.length := by
        rcases Nat.lt_or_ge k d.good.length with h | h
        · exact h
        · exact absurd (HD.out.ok.few k h) hpk
      obtain ⟨bk, ck, rk, ek, hBk, _⟩ := H7.out.row k hpk
      have hcv : cv = .slice (some ⟨bk, 0, none⟩) (d.pend k).length ck := by
        have e1 := hat (.held nilS)
        rw [ek] at e1
        have e2 : y1 = .held (.slice (some ⟨bk, 0, none⟩) (d.pend k).length ck) := e1.symm
        rw [e2] at hRv
        unfold hR at hRv
        split at hRv
        · cases hRv; rfl
        · cases hRv
      subst hcv
      have hpart : (d.part left).pend k = [] := by unfold Bd.part; simp only [hlx, if_true]
      have hf5 : Fr (fun y => y = w3.heap.size) wr w5 := (Fr.refl _ _).grown hg1 (fun j hj => .inl (by cases hj; rfl))
      have hb5 : Below w.heap.size w w5 := hbw.trans (hf5.below hbw.size (fun y hy => by cases hy; exact HB3.out.size))
      have hO5 := hf5.blk hO (by have := HB3.out.size; omega)
      have hQ5 := hf5.blk hQ (by omega)
      have hM5 := ownsMap_frame hf5 hM (by omega)
      have hP5 := hP2.frame hf5 (fun y hy e => by have := (hG2 y hy).1; omega)
      have hBk5 := hBk.below hb5 hBk.lt
      have hMe : w5.ownsMap Try.prog 3 hR mb2 (Maps.size D2) D2 := own_exact hM5
      have hsz2 : Maps.size D2 ≤ 1000 := by
        have e1 := size_keys (Bd.part_ok HD.out.ok left) hM5 hP5
        have e2 := (d.part left).keys_few
        have e3 : (d.part left).good.length = d.good.length := rfl
        have := H1.out
        omega
      have HME := Lib.hid hMe; have HS2 := Lib.hid hsz2; have HBK := Lib.hid hBk5; have HPK := Lib.hid hpk
      have HPL : Hid ((d.pend k).length ≤ 1000000) := Lib.hid (by have := HD.out.ok.cnt k; have := HO.out; omega)
      have HKL := Lib.hid hkl
      have hcm : w5.cell? ⟨w.heap.size, 1, none⟩ = some (.map (some mb2)) := hO5.cell 1
      have HO5 := Lib.hid hO5
      have hM5s := hMe.lt
      go_upto_region 9 with fail
      refine rgK 5 [(30, 0), (0, 1), (0, 2), (0, 3), (0, 4)] [kn (.pointer (some ⟨w.heap.size, 1, none⟩)), kn (.map (some mb2)), kn (.int .i64 (k : Int)), kn (.slice (some ⟨bk, 0, none⟩) (d.pend k).length ck), (NewR w5.heap.size (d.pend k))] (fun W => ∃ qk ck rk, Blk W qk (rowsV (d.pend k) ++ rk) 64 ∧ (rowsV (d.pend k) ++ rk).length = ck * 64 ∧ (d.pend k).length ≤ ck ∧ ck ≤ maxLen ∧ w5.heap.size ≤ qk ∧ W.ownsMap Try.prog 3 hR mb2 (Maps.size D2 + 1) (D2.put (.int .i64 (k : Int)) (.held (.slice (some ⟨qk, 0, none⟩) (d.pend k).length ck))) ∧ Fr (fun y => y = mb2) w5 W) ?_ (fun u6 W6 hP _ => ?_)
      · refine ⟨?_, ?_, ?_, ?_, ?_, ?_, trivial⟩
        · refine ktP (by omega) (.cons (c := 1) (by kernel_rfl) (.one (by kernel_rfl))) (by rfl) fun u W hb hu => ?_
          go_simp
        · refine ktP (by omega) (.one (by kernel_rfl)) (by rfl) fun u W hb hu => ?_
          have e0 : u 0 = .pointer (some ⟨w.heap.size, 1, none⟩) := hu 0 (by kernel_rfl) (by omega)
          have hc := (hb.cell (p := ⟨w.heap.size, 1, none⟩) HO5.out.lt).trans hcm
          go_simp
        · refine ktP (by omega) (.one (by kernel_rfl)) (by rfl) fun u W hb hu => ?_
          go_simp
        · refine ktP (by omega) (.cons (c := 4) (by kernel_rfl) (.one (by kernel_rfl))) (by rfl) fun u W hb hu => ?_
          go_simp
        · refine ktC (by omega) (.one (by kernel_rfl)) fun u W hb hu K hK => ?_
          have e3 : u 3 = .slice (some ⟨bk, 0, none⟩) (d.pend k).length ck := hu 3 (by kernel_rfl) (by omega)
          go_simp
          go_at_call 37
          (with_reducible refine (bCloneR_any (HBK.out.below hb HBK.out.lt) (HD.out.ok.pend k) HPK.out HPL.out).mono ?_); rintro e w6 ⟨v, rfl, hv, hb6⟩
          have hk9 := hK.out _ _ hb6 (NewR.mono hv hb.size)
          first | exact hk9 | (simp only [e3] at hk9; exact hk9)
        · refine ktL fun u W hb hu => ?_
          have e1 : u 1 = .map (some mb2) := hu 1 (by kernel_rfl) (by omega)
          have e2 : u 2 = .int .i64 (k : Int) := hu 2 (by kernel_rfl) (by omega)
          have t4 : (NewR w5.heap.size (d.pend k)).P (u 4) W := hu 4 (by kernel_rfl) (by omega)
          obtain ⟨qk, ck2, rk2, ev, a1, a2, a3, a4, a5⟩ := t4
          have hMW := ownsMap_frame (F := fun _ => False) (.of_below hb) HME.out (fun h => h)
          obtain ⟨w', hrun, hown, hgr⟩ := hMW.update intK Try.underlying60 (by have := HS2.out; unfold maxLen; omega) (keyI k (by have := HKL.out; have := H1.out; omega)) (show hR (.slice (some ⟨qk, 0, none⟩) (d.pend k).length ck2) = some (.held _, []) from rfl)
          have hfW : Fr (fun y => y = mb2) W w' := (Fr.refl _ _).grown hgr (fun j hj => .inl (by cases hj; rfl))
          exact ⟨w', run_upd rfl (by exact e1) (by exact e2) (by exact ev) hrun, qk, ck2, rk2, hfW.blk a2 (by omega), a3, a4, a5, a1, hown, (Fr.of_below hb).trans hfW (fun y hy => .inl hy)⟩
      obtain ⟨qk, ck2, rk2, a1, a2, a3, a4, a5, a6, hPf⟩ := hP
      have hDM : IsMap D2 := hMe.isMap
      have hrgF := ranges_frame hPf hrg1 (fun e => by have := H5.out.lt; have := HB1.out.size; omega) (fun e => by omega)
      have hOF := hPf.blk hO5 (by omega)
      have hQF := hPf.blk hQ5 (by omega)
      have hPF := PendR.add hP5 hDM hPf (fun y hy e => by have := (hG2 y hy).1; omega) hpart hpk a1 a2 a3 a4 (fun h => by have := (hG2 _ h).2; have := hf5.size; omega)
      rw [← Bd.part_step (left := left)] at hPF
      have hql := a1.lt
      have hGF : ∀ y, (G2 y ∨ y = qk) → w3.heap.size < y ∧ y < W6.heap.size := by
        have := hf5.size; have := hPf.size
        rintro y (h | rfl)
        · have := hG2 y h; omega
        · omega
      have hbF := hb5.trans (hPf.below hb5.size (fun y hy => by cases hy; have := HB1.out.size; omega))
      have hsF : w3.heap.size < W6.heap.size := by have := hf5.size; have := hPf.size; omega
      have hle2 : ∀ kl, (fun z : Lit => left z && !z.sameKey (.int .i64 (k : Int))) kl = true → has D kl = true := fun kl h => hle kl (by simp only [Bool.and_eq_true] at h; exact h.1)
      clear hO hQ hM hP2 hO5 hQ5 hM5 hP5 hMe
      go_roundw
      case rel => first | exact ⟨_, cnt1, _, _, _, hrgF, hle2, hOF, hQF, a6, hPF, hGF, hbF, hsF⟩ | ((repeat apply Exists.intro); exact ⟨⟨_, cnt1, _, _, _, hrgF, hle2, hOF, hQF, a6, hPF, hGF, hbF, hsF⟩, rfl⟩)
      case measure => rw [hrgF.left_eq, hrg.left_eq]; exact hlt
end Go.Proofs.Ytgehbchaamilhaa
namespace Go.Proofs.Ytgehbchaamilhaa
open Go Go.RowKit
/-- Of a value, with its own blocks S. -/
structure FP (Z : Nat → Prop) where
  tell : Option Value
  P : (Nat → Prop) → Value → World → Prop
  st : ∀ S v w w', P S v w → Fr (fun x => Z x ∧ ¬ S x) w w' → P S v w'
def kv {Z : Nat → Prop} (x : Value) : FP Z := ⟨some x, fun _ v _ => v = x, fun _ _ _ _ h _ => h⟩
def kz {Z : Nat → Prop} : FP Z := ⟨none, fun _ _ _ => True, fun _ _ _ _ _ _ => trivial⟩
def zone (Fw : Nat → Prop) (B : Nat) (x : Nat) : Prop := Fw x ∨ B ≤ x
def liveT (tl : List (Option Nat)) (L : Nat → Bool) (i : Nat) : Prop := ∀ t, tl.getD i none = some t → L t = false
theorem liveT.mono {tl : List (Option Nat)} {L : Nat → Bool} {i k : Nat} (h : liveT tl (putL L i) k) : liveT tl L k := fun t ht => putL_false (h t ht)
theorem liveT.ne {tl : List (Option Nat)} {L : Nat → Bool} {i k : Nat} (h : liveT tl (putL L i) k) : tl.getD k none ≠ some i := fun ht => putL_false' (h i ht) rfl
/-- In the midst: gh: each value's own blocks. -/
structure JR (n m : Nat) (Fw : Nat → Prop) (w1 : World) (T : List (FP (zone Fw w1.heap.size))) (tl : List (Option Nat)) (gh : Nat → Nat → Prop) (L : Nat → Bool) (u : Nat → Value) (W : World) : Prop where
  old : L m = false → Below w1.heap.size w1 W
  fr : Fr Fw w1 W
  fact : ∀ i, i < n → L i = true → liveT tl L i → (T.getD i kz).P (gh i) (u i) W
  foot : ∀ i, i < n → L i = true → liveT tl L i → ∀ x, gh i x → (w1.heap.size ≤ x ∨ (Fw x ∧ L m = true)) ∧ x < W.heap.size
  apart : ∀ i j x, i < n → j < n → i ≠ j → L i = true → L j = true → liveT tl L i → liveT tl L j → gh i x → gh j x → False
structure JS (n m : Nat) (Fw : Nat → Prop) (w1 : World) (T : List (FP (zone Fw w1.heap.size))) (tl : List (Option Nat)) (Pd : Value → World → Prop) (L : Nat → Bool) (u : Nat → Value) (W : World) : Prop where
  val : ∀ k, k < n → L k = true → ∀ x, (T.getD k kz).tell = some x → u k = x
  done : L n = true → Pd (u n) W
  run : L n = false → ∃ gh, JR n m Fw w1 T tl gh L u W
def G0 (_i : Nat) (_L : Nat → Bool) (_u : Nat → Value) (_W : World) : Prop := True
/-- What an operation that waits for them finds. -/
structure CS (n m i : Nat) (Fw : Nat → Prop) (w1 : World) (T : List (FP (zone Fw w1.heap.size))) (tl : List (Option Nat)) (wt : Nat → Nat → Bool) (gh : Nat → Nat → Prop) (L : Nat → Bool) (u : Nat → Value) (W : World) : Prop where
  old : L m = false → Below w1.heap.size w1 W
  fr : Fr Fw w1 W
  free : ∀ t, t = i ∨ Path wt t i → L t = false
  val : ∀ j, wt i j = true → j < n → ∀ x, (T.getD j kz).tell = some x → u j = x
  fact : ∀ j, wt i j = true → j < n → liveT tl L j → (T.getD j kz).P (gh j) (u j) W
  foot : ∀ j, wt i j = true → j < n → liveT tl L j → ∀ x, gh j x → (w1.heap.size ≤ x ∨ (Fw x ∧ L m = true)) ∧ x < W.heap.size
  apart : ∀ j k x, wt i j = true → wt i k = true → j < n → k < n → j ≠ k → liveT tl L j → liveT tl L k → gh j x → gh k x → False
/-- The blocks of the values that operation i takes over. -/
def eats (n i : Nat) (tl : List (Option Nat)) (wt : Nat → Nat → Bool) (gh : Nat → Nat → Prop) (x : Nat) : Prop := ∃ j, wt i j = true ∧ j < n ∧ tl.getD j none = some i ∧ gh j x
section
variable {n m : Nat} {Fw : Nat → Prop} {w1 : World} {T : List (FP (zone Fw w1.heap.size))} {tl : List (Option Nat)} {Pd : Value → World → Prop} {ops : Array Oper} {wt : Nat → Nat → Bool} {Q : Exit → Act → World → Prop} {fr : (Nat → Value) → Array Value} {df : List Deferred} {i : Nat} {o : Oper}
theorem soft_G0 : Soft wt G0 := ⟨fun _ _ _ _ _ _ _ _ h => h, fun _ _ _ _ _ _ h => h⟩
theorem CS.before {gh : Nat → Nat → Prop} {L : Nat → Bool} {u : Nat → Value} {W : World} (h : CS n m i Fw w1 T tl wt gh L u W) (hp : m = i ∨ Path wt m i) : Below w1.heap.size w1 W := h.old (h.free m hp)
theorem CS.mk' {gh : Nat → Nat → Prop} {L : Nat → Bool} {u : Nat → Value} {W : World} (hcl : ∀ k d, L k = true → wt k d = true → L d = true) (hv : ∀ k, k < n → L k = true → ∀ x, (T.getD k kz).tell = some x → u k = x) (hJ : JR n m Fw w1 T tl gh L u W) (hL : L i = false) (hdep : ∀ d, wt i d = true → L d = true) : CS n m i Fw w1 T tl wt gh L u W :=
  ⟨hJ.old, hJ.fr, fun t ht => by rcases ht with rfl | ht; exact hL; exact notL hcl ht hL, fun j hw hj x e => hv j hj (hdep j hw) x e, fun j hw hj ha => hJ.fact j hj (hdep j hw) ha, fun j hw hj ha => hJ.foot j hj (hdep j hw) ha, fun j k x hj hk h1 h2 hne a1 a2 => hJ.apart j k x h1 h2 hne (hdep j hj) (hdep k hk) a1 a2⟩
/-- The state behind an operation that is not the last. -/
theorem JS.step {Fx : Nat → Prop} {L : Nat → Bool} {u : Nat → Value} {W w' : World} {gh : Nat → Nat → Prop} {v : Value} {S : Nat → Prop} (hi : i < n) (hn : L n = false) (hL : L i = false) (hdep : ∀ d, wt i d = true → L d = true)
    (hv : ∀ k, k < n → L k = true → ∀ x, (T.getD k kz).tell = some x → u k = x) (hJ : JR n m Fw w1 T tl gh L u W)
    (hFw : ∀ x, Fw x → x < w1.heap.size) (hFx : ∀ x, Fx x → (i = m ∧ Fw x)) (hf : Fr (fun x => Fx x ∨ eats n i tl wt gh x) W w') (hP : (T.getD i kz).P S v w') (hvi : ∀ x, (T.getD i kz).tell = some x → v = x)
    (hS : ∀ x, S x → Fx x ∨ eats n i tl wt gh x ∨ W.heap.size ≤ x) (hlt : ∀ x, S x → x < w'.heap.size) : JS n m Fw w1 T tl Pd (putL L i) (putV u i v) w' := by
  have hz : w1.heap.size ≤ W.heap.size := hJ.fr.size
  have hlive : ∀ j, tl.getD j none = some i → liveT tl L j := fun j e t ht => by rw [e] at ht; cases ht; exact hL
  have heat : ∀ x, eats n i tl wt gh x → (w1.heap.size ≤ x ∨ (Fw x ∧ L m = true)) ∧ x < W.heap.size := fun x ⟨j, hw, hj, ht, hg⟩ => hJ.foot j hj (hdep j hw) (hlive j ht) x hg
  -- what another live value has is not touched
  have hsep : ∀ k, k < n → k ≠ i → L k = true → liveT tl (putL L i) k → ∀ x, (Fx x ∨ eats n i tl wt gh x) → zone Fw w1.heap.size x ∧ ¬ gh k x := fun k hk hki hLk ha x hx => by
    have ha0 := ha.mono
    have hf := hJ.foot k hk hLk ha0 x
    rcases hx with hx | ⟨j, hw, hj, ht, hg⟩
    · obtain ⟨rfl, hx2⟩ := hFx x hx
      refine ⟨.inl hx2, fun hgk => ?_⟩
      rcases (hf hgk).1 with h | ⟨_, h⟩
      · have := hFw x hx2; omega
      · rw [hL] at h; cases h
    · refine ⟨?_, fun hgk => hJ.apart j k x hj hk (fun e => ?_) (hdep j hw) hLk (hlive j ht) ha0 hg hgk⟩
      · rcases (heat x ⟨j, hw, hj, ht, hg⟩).1 with h | ⟨h, _⟩
        · exact .inr h
        · exact .inl h
      · subst e; exact ha.ne ht
  have hgk : ∀ k, k ≠ i → (if k = i then S else gh k) = gh k := fun k h => if_neg h
  have hgi : (if i = i then S else gh i) = S := if_pos rfl
  have hlm : ∀ x, Fw x → L m = true → putL L i m = true := fun _ _ h => putL_old h
  refine ⟨fun k hk hLk x e => ?_, fun h => ?_, fun _ => ⟨fun k => if k = i then S else gh k, fun h => ?_, ?_, fun k hk hLk ha => ?_, fun k hk hLk ha x hx => ?_, fun j k x hj hk hne hLj hLk haj hak hgj hgk2 => ?_⟩⟩
  · by_cases hki : k = i
    · subst hki; rw [putV_same]; exact hvi x e
    · rw [putV_ne hki]; rw [putL_ne hki] at hLk; exact hv k hk hLk x e
  · rw [putL_ne (by omega)] at h; rw [hn] at h; cases h
  · have hm := putL_false h
    refine Below.trans (hJ.old hm) (hf.below hz (fun x hx => ?_))
    rcases hx with hx | hx
    · obtain ⟨rfl, _⟩ := hFx x hx
      rw [putL_same] at h; cases h
    · rcases (heat x hx).1 with h | ⟨_, h⟩
      · exact h
      · rw [hm] at h; cases h
  · refine hJ.fr.trans hf (fun x hx => ?_)
    rcases hx with hx | hx
    · exact .inl (hFx x hx).2
    · rcases (heat x hx).1 with h | ⟨h, _⟩
      · exact .inr h
      · exact .inl h
  · by_cases hki : k = i
    · subst hki; simp only [hgi, putV_same]; exact hP
    · rw [putL_ne hki] at hLk
      simp only [hgk k hki, putV_ne hki]
      exact (T.getD k kz).st _ _ _ _ (hJ.fact k hk hLk ha.mono) (hf.mono (fun x hx => .inl (hsep k hk hki hLk ha x hx)))
  · by_cases hki : k = i
    · subst hki
      simp only [hgi] at hx
      refine ⟨?_, hlt x hx⟩
      rcases hS x hx with h | h | h
      · obtain ⟨rfl, h2⟩ := hFx x h
        exact .inr ⟨h2, putL_same _ _⟩
      · rcases (heat x h).1 with h | ⟨h1, h2⟩
        · exact .inl h
        · exact .inr ⟨h1, putL_old h2⟩
      · exact .inl (by omega)
    · rw [putL_ne hki] at hLk
      simp only [hgk k hki] at hx
      have h := hJ.foot k hk hLk ha.mono x hx
      refine ⟨?_, Nat.lt_of_lt_of_le h.2 hf.size⟩
      rcases h.1 with h | ⟨h1, h2⟩
      · exact .inl h
      · exact .inr ⟨h1, putL_old h2⟩
  · have key : ∀ k, k < n → k ≠ i → putL L i k = true → liveT tl (putL L i) k → S x → gh k x → False := fun k hk hki hLk ha hSx hg => by
      rw [putL_ne hki] at hLk
      rcases hS x hSx with h | h | h
      · exact (hsep k hk hki hLk ha x (.inl h)).2 hg
      · exact (hsep k hk hki hLk ha x (.inr h)).2 hg
      · have := (hJ.foot k hk hLk ha.mono x hg).2; omega
    by_cases hji : j = i
    · subst hji
      simp only [hgi] at hgj
      rw [hgk k (fun e => hne e.symm)] at hgk2
      exact key k hk (fun e => hne e.symm) hLk hak hgj hgk2
    · rw [hgk j hji] at hgj
      by_cases hki : k = i
      · subst hki
        simp only [hgi] at hgk2
        exact key j hj hji hLj haj hgk2 hgj
      · rw [hgk k hki] at hgk2
        rw [putL_ne hji] at hLj; rw [putL_ne hki] at hLk
        exact hJ.apart j k x hj hk hne hLj hLk haj.mono hak.mono hgj hgk2
/-- An operation is wanted: it has no guard, or its guard's value is told. -/
def Gd (n : Nat) (T : List (FP (zone Fw w1.heap.size))) (ops : Array Oper) (wt : Nat → Nat → Bool) (fr : (Nat → Value) → Array Value) (i : Nat) (o : Oper) : Prop :=
  o.guard = none ∨ ∃ j b, o.guard = some (j, b) ∧ wt i j = true ∧ j < n ∧ (T.getD j kz).tell = some (.bool b) ∧ ∀ u, ((ops[j]?).bind (·.dst)).bind ((fr u)[·]?) = some (u j)
theorem Gd.wanted {L : Nat → Bool} {u : Nat → Value} (h : Gd n T ops wt fr i o) (hv : ∀ k, k < n → L k = true → ∀ x, (T.getD k kz).tell = some x → u k = x) (hdep : ∀ d, wt i d = true → L d = true) : Region.wanted o (yielded ops (fr u)) = true := by
  rcases h with h | ⟨j, b, h1, h2, h3, h4, h5⟩
  · simp [Region.wanted, h]
  · have e := hv j h3 (hdep j h2) _ h4
    simp [Region.wanted, h1, yielded, h5, e]
theorem Gd.on {b : Bool} (j : Nat) (h1 : o.guard = some (j, b)) (h2 : wt i j = true) (h3 : j < n) (h4 : (T.getD j kz).tell = some (.bool b)) (h5 : ∀ u, ((ops[j]?).bind (·.dst)).bind ((fr u)[·]?) = some (u j)) : Gd n T ops wt fr i o := .inr ⟨j, b, h1, h2, h3, h4, h5⟩
/-- A call. -/
theorem ksC (hFw : ∀ x, Fw x → x < w1.heap.size) (hi : i < n) (hp : Path wt n i)
    (hr : ∀ L u W gh, CS n m i Fw w1 T tl wt gh L u W → ∀ K : Act → World → Prop, Shut (∀ v w' S, Fr (eats n i tl wt gh) W w' → (T.getD i kz).P S v w' → (∀ x, (T.getD i kz).tell = some x → v = x) → (∀ x, S x → eats n i tl wt gh x ∨ W.heap.size ≤ x) → (∀ x, S x → x < w'.heap.size) → K ((⟨fr u, df⟩ : Act).put o.dst v) w') → Oper.wp Try.prog o ⟨fr u, df⟩ W K Q) (hg : Gd n T ops wt fr i o := by exact Or.inl rfl) :
    StepAt Try.prog ops wt Q fr df G0 (JS n m Fw w1 T tl Pd) i o := by
  intro L u W hcl hJ _ hL hdep K hK
  rw [if_pos (hg.wanted hJ.val hdep)]
  have hn := notL hcl hp hL
  obtain ⟨gh, hR⟩ := hJ.run hn
  refine hr L u W gh (CS.mk' hcl hJ.val hR hL hdep) K (fun v w' S hf hP hv hS hlt => ?_)
  exact hK.out v w' (JS.step (Fx := fun _ => False) hi hn hL hdep hJ.val hR hFw (fun _ h => h.elim) (hf.mono (fun x h => .inl (.inr h))) hP hv (fun x h => .inr (hS x h)) hlt) (fun _ _ _ _ h => h) trivial
/-- An operation that reads, makes memory, or writes to what it takes over. -/
theorem ksM (hFw : ∀ x, Fw x → x < w1.heap.size) (hi : i < n) (hp : Path wt n i)
    (hr : ∀ L u W gh, CS n m i Fw w1 T tl wt gh L u W → ∃ v w' S, (execOp (⟨fr u, df⟩ : Act).eval o).run Try.prog W = .ok (.value v) w' ∧ Fr (eats n i tl wt gh) W w' ∧ (T.getD i kz).P S v w' ∧ (∀ x, (T.getD i kz).tell = some x → v = x) ∧ (∀ x, S x → eats n i tl wt gh x ∨ W.heap.size ≤ x) ∧ (∀ x, S x → x < w'.heap.size)) (hg : Gd n T ops wt fr i o := by exact Or.inl rfl) :
    StepAt Try.prog ops wt Q fr df G0 (JS n m Fw w1 T tl Pd) i o :=
  ksC hFw hi hp (fun L u W gh hc K hK => by
    obtain ⟨v, w', S, hrun, h1, h2, h3, h4, h5⟩ := hr L u W gh hc
    unfold Oper.wp
    rw [hrun]
    exact hK.out v w' S h1 h2 h3 h4 h5) hg
/-- .. that gives just this. -/
theorem ksP {x : Value} (hFw : ∀ x, Fw x → x < w1.heap.size) (hi : i < n) (hp : Path wt n i) (hT : T.getD i kz = kv x)
    (hr : ∀ L u W gh, CS n m i Fw w1 T tl wt gh L u W → (execOp (⟨fr u, df⟩ : Act).eval o).run Try.prog W = .ok (.value x) W) (hg : Gd n T ops wt fr i o := by exact Or.inl rfl) :
    StepAt Try.prog ops wt Q fr df G0 (JS n m Fw w1 T tl Pd) i o :=
  ksM hFw hi hp (fun L u W gh hc => ⟨x, W, fun _ => False, hr L u W gh hc, Fr.refl _ _, by rw [hT]; rfl, fun y e => by
    rw [hT] at e
    cases e; rfl, fun _ h => h.elim, fun _ h => h.elim⟩) hg
/-- The one that may write to the old blocks of Fw. -/
theorem ksW (hFw : ∀ x, Fw x → x < w1.heap.size) (hi : i < n) (hp : Path wt n i) (him : i = m)
    (hr : ∀ L u W gh, CS n m i Fw w1 T tl wt gh L u W → Below w1.heap.size w1 W → ∃ v w' S, (execOp (⟨fr u, df⟩ : Act).eval o).run Try.prog W = .ok (.value v) w' ∧ Fr (fun x => Fw x ∨ eats n i tl wt gh x) W w' ∧ (T.getD i kz).P S v w' ∧ (∀ x, (T.getD i kz).tell = some x → v = x) ∧ (∀ x, S x → Fw x ∨ eats n i tl wt gh x ∨ W.heap.size ≤ x) ∧ (∀ x, S x → x < w'.heap.size)) (hg : Gd n T ops wt fr i o := by exact Or.inl rfl) :
    StepAt Try.prog ops wt Q fr df G0 (JS n m Fw w1 T tl Pd) i o := by
  intro L u W hcl hJ _ hL hdep K hK
  rw [if_pos (hg.wanted hJ.val hdep)]
  have hn := notL hcl hp hL
  obtain ⟨gh, hR⟩ := hJ.run hn
  obtain ⟨v, w', S, hrun, h1, h2, h3, h4, h5⟩ := hr L u W gh (CS.mk' hcl hJ.val hR hL hdep) (hR.old (him ▸ hL))
  unfold Oper.wp
  rw [hrun]
  exact hK.out v w' (JS.step (Fx := Fw) hi hn hL hdep hJ.val hR hFw (fun _ h => ⟨him, h⟩) h1 h2 h3 h4 h5) (fun _ _ _ _ h => h) trivial
/-- The last one, which may write to what was there. -/
theorem ksL (hr : ∀ L u W gh, CS n m n Fw w1 T tl wt gh L u W → ∃ r v w', (execOp (⟨fr u, df⟩ : Act).eval o).run Try.prog W = .ok r w' ∧ (r = .skip ∧ v = undef ∨ r = .value v) ∧ Pd v w') (hg : Gd n T ops wt fr n o := by exact Or.inl rfl) :
    StepAt Try.prog ops wt Q fr df G0 (JS n m Fw w1 T tl Pd) n o := by
  intro L u W hcl hJ _ hL hdep K hK
  rw [if_pos (hg.wanted hJ.val hdep)]
  obtain ⟨gh, hR⟩ := hJ.run hL
  obtain ⟨r, v, w', hrun, hr2, hP⟩ := hr L u W gh (CS.mk' hcl hJ.val hR hL hdep)
  have hJ' : JS n m Fw w1 T tl Pd (putL L n) (putV u n v) w' := ⟨fun k hk hLk x e => by rw [putL_ne (by omega)] at hLk; rw [putV_ne (by omega)]; exact hJ.val k hk hLk x e, fun _ => by rw [putV_same]; exact hP, fun h => by rw [putL_same] at h; cases h⟩
  unfold Oper.wp
  rw [hrun]
  rcases hr2 with ⟨rfl, rfl⟩ | rfl
  · exact hK.out undef w' hJ' (fun _ _ _ _ h => h) trivial
  · exact hK.out v w' hJ' (fun _ _ _ _ h => h) trivial
end
section
variable {F : List Value} {fr : (Nat → Value) → Array Value} {df : List Deferred} {ops : Array Oper} {id : Nat} {Q : Exit → Act → World → Prop} {w : World}
/-- A statement that draws its order. -/
theorem rgS (n m : Nat) (Fw : Nat → Prop) (p : List (Nat × Nat)) (T : List (FP (zone Fw w.heap.size))) (tl : List (Option Nat)) (Pd : Value → World → Prop)
    (hsteps : AllSteps Try.prog ops (waitsOn .any ops) Q fr df G0 (JS n m Fw w T tl Pd) 0 ops.toList)
    (hdone : ∀ u W, Pd (u n) W → (∀ k, k < n → ∀ x, (T.getD k kz).tell = some x → u k = x) → Q .normal ⟨fr u, df⟩ W)
    (hF : ∀ u, (mrg F p u).toArray = fr u := by intro u; dsimp only [mrg]; try exact rfl)
    (hc : okP p ops = true := by kernel_rfl) (hn : ops.size = n + 1 := by kernel_rfl) (hm : Try.prog.follows .mixedOrders = true := by kernel_rfl) (he : earlier .any ops = true := by kernel_rfl) : (Code.region id ops true).wp Try.prog Q ⟨F.toArray, df⟩ w := by
  obtain ⟨u0, hu⟩ := mrg_self p F (by simp only [okP, Bool.and_eq_true] at hc; exact hc.1)
  have h0 : JS n m Fw w T tl Pd (fun _ => false) u0 w.drew := ⟨fun _ _ h => (by cases h), fun h => (by cases h), fun _ => ⟨fun _ _ => False, fun _ => (Below.refl _ _).drew, (Fr.refl _ _).drew, fun _ _ h => (by cases h), fun _ _ h => (by cases h), fun _ _ _ _ _ _ h => (by cases h)⟩⟩
  exact wp_region_mid (a := ⟨F.toArray, df⟩) fr G0 (JS n m Fw w T tl Pd) u0 hm he (okP_put hc hF) (by rw [← hF, hu]) h0 soft_G0 (fun _ => hsteps)
    (fun L u W hall hJ _ => hdone u W (hJ.done (hall n (by omega))) (fun k hk x e => hJ.val k hk (hall k (by omega)) x e))
end
end Go.Proofs.Ytgehbchaamilhaa
namespace Go.Proofs.Ytgehbchaamilhaa
open Go Go.RowKit
/-- A slice type and its element. -/
structure ElT (tS E sz bytes : Nat) (z : Value) : Prop where
  und : Try.prog.underlying tS = some (.slice E)
  info : ∃ i, Try.prog.info? E = some i ∧ i.zero = some z ∧ i.size = sz ∧ i.bytes = bytes
  zs : z.cells.size = sz
  pos : 0 < sz
theorem elT_info {E sz b : Nat} {z : Value} (h : (Try.prog.info? E).map (fun i => (i.zero, i.size, i.bytes)) = some (some z, sz, b)) : ∃ i, Try.prog.info? E = some i ∧ i.zero = some z ∧ i.size = sz ∧ i.bytes = b := by
  obtain ⟨i, hi, e⟩ := Option.map_eq_some_iff.1 h
  simp only [Prod.mk.injEq] at e
  exact ⟨i, hi, e.1, e.2.1, e.2.2⟩
theorem elB : ElT 26 5 1 1 (.int .u8 0) := ⟨Try.underlying26, elT_info (by kernel_rfl), rfl, by omega⟩
theorem elR : ElT 30 26 1 24 (.slice none 0 0) := ⟨Try.underlying30, elT_info (by kernel_rfl), rfl, by omega⟩
theorem elR3 : ElT 44 30 1 24 (.slice none 0 0) := ⟨Try.underlying44, elT_info (by kernel_rfl), rfl, by omega⟩
section
variable {tS E sz bytes : Nat} {z : Value} {ev : Operand → Value} {o : Oper} {w : World}
theorem run_new0 (h : ElT tS E sz bytes z) (ho : o.op = .buildSlice tS 0 #[]) : (execOp ev o).run Try.prog w = .ok (.value (.slice (some ⟨w.heap.size, 0, none⟩) 0 0)) (w.alloc (.cells #[] E)) := by
  obtain ⟨i, hi, hz, hs, hb⟩ := h.info
  have e : (Instr.buildSlice tS 0 #[]).run Try.prog w = .ok (.slice (some ⟨w.heap.size, 0, none⟩) 0 0) (w.alloc (.cells #[] E)) := by
    simp [Instr.buildSlice, Sem.run_bind, run_underlying h.und, sizeOf, typeInfo, zeroValue, hi, hs, hz, newRow, Instr.fill]
    congr 2
    exact Array.eq_empty_of_size_eq_zero (by simp)
  unfold execOp
  simp [ho, e]
theorem new1_instr (h : ElT tS E 1 bytes z) {v : Value} (hc : v.cells = #[v]) : (Instr.buildSlice tS 1 #[(0, v)]).run Try.prog w = .ok (.slice (some ⟨w.heap.size, 0, none⟩) 1 1) (w.alloc (.cells #[v] E)) := by
  obtain ⟨i, hi, hz, hs, hb⟩ := h.info
  have hzs := h.zs
  simp [Instr.buildSlice, Sem.run_bind, run_underlying h.und, sizeOf, typeInfo, zeroValue, hi, hs, hz, newRow, Instr.fill, hc]
  congr 2
  apply Array.ext
  · simp
  · intro k h1 h2
    simp at h2
    subst h2
    simp
theorem run_new1 (h : ElT tS E 1 bytes z) {y : Operand} {v : Value} (ho : o.op = .buildSlice tS 1 #[(0, y)]) (hy : ev y = v) (_h1 : v.oneCell' = true) (hc : v.cells = #[v]) : (execOp ev o).run Try.prog w = .ok (.value (.slice (some ⟨w.heap.size, 0, none⟩) 1 1)) (w.alloc (.cells #[v] E)) := by
  have e := new1_instr (w := w) h hc
  unfold execOp
  simp [ho, hy, e]
theorem own_ptr {n : Nat} {v : Value} {xs : List Value} (h : w.ownsRow 0 E sz v n xs) : ∀ x, v.ownBlock = some x → x < w.heap.size := by
  intro x hx
  rcases h.2 with ⟨rfl, _⟩ | ⟨g, cap, cur, rfl, _, hg, _⟩
  · cases hx
  · cases hx; exact (Array.getElem?_eq_some_iff.1 hg).1
theorem own_frame {F : Nat → Prop} {w' : World} {n : Nat} {v : Value} {xs : List Value} (h : w.ownsRow 0 E sz v n xs) (hf : Fr F w w') (hF : ∀ x, v.ownBlock = some x → ¬ F x) : w'.ownsRow 0 E sz v n xs := by
  refine ⟨h.1, ?_⟩
  rcases h.2 with h2 | ⟨g, c, cur, rfl, hg0, hh, r⟩
  · exact .inl h2
  · exact .inr ⟨g, c, cur, rfl, hg0, (hf.block g (Array.getElem?_eq_some_iff.1 hh).1 (hF g rfl)).trans hh, r⟩
/-- 'append(x, y...)': x is the statement's own, y anything. -/
theorem run_app (h : ElT tS E sz bytes z) {v : Value} {n m c : Nat} {a : Option Addr} {xs news : List Value} (hown : w.ownsRow 0 E sz v n xs)
    (hl : news.length = m * sz) (hnil : a = none → m = 0 ∧ c = 0) (hnews : ∀ (j : Nat) (u : Value), news[j]? = some u → ∃ ad, a = some ad ∧ w.cell? (ad.add j) = some u) (h1 : ∀ u ∈ news, u.oneCell' = true) (h63 : n + m ≤ maxLen) (hb : (n + m) * bytes ≤ 140737488355328) :
    ∃ v' w', (∀ (ev : Operand → Value) (o : Oper) (x y : Operand), o.op = .call { callee := .builtin .append, args := #[x, y], argTypes := #[tS, tS] } → o.type = tS → ev x = v → ev y = .slice a m c → (execOp ev o).run Try.prog w = .ok (.value v') w') ∧
      w'.ownsRow 0 E sz v' (n + m) (xs ++ news) ∧ Fr (fun x => v.ownBlock = some x) w w' ∧ ∀ x, v'.ownBlock = some x → (v.ownBlock = some x ∨ x = w.heap.size) ∧ x < w'.heap.size := by
  obtain ⟨i, hi, hz, hs, hby⟩ := h.info
  have key : ∀ v' w', (Builtin.append_ #[tS, tS] tS #[v, .slice a m c]).run Try.prog w = .ok v' w' → ∀ (ev : Operand → Value) (o : Oper) (x y : Operand), o.op = .call { callee := .builtin .append, args := #[x, y], argTypes := #[tS, tS] } → o.type = tS → ev x = v → ev y = .slice a m c → (execOp ev o).run Try.prog w = .ok (.value v') w' := fun v' w' hr ev o x y ho ht hx hy => by
    unfold execOp
    simp only [ho, ht, resolve, invoke, builtin, Sem.run_bind, Sem.run_pure, Result.andThen_ok, List.map_toArray, List.map_cons, List.map_nil, hx, hy, hr]
  cases a with
  | none =>
    obtain ⟨rfl, rfl⟩ := hnil rfl
    have hn0 : news = [] := List.eq_nil_of_length_eq_zero (by simpa using hl)
    subst hn0
    have hrun := run_append_owned_none (P := Try.prog) (w := w) 0 tS tS E i sz h.und hi v n xs hown
    exact ⟨v, w, key _ _ hrun, by simpa using hown, Fr.refl _ _, fun x hx => ⟨.inl hx, own_ptr hown x hx⟩⟩
  | some ad =>
    obtain ⟨v', w', hr, ho', hg, _, hloc⟩ := run_append_own_at (P := Try.prog) w 0 tS tS E i z sz bytes h.und hi hz hs hby h.zs h.pos v n xs hown ad m c news hl (fun j u hu => by obtain ⟨ad', e, hc⟩ := hnews j u hu; cases e; exact hc) h1 h63 hb (Nat.zero_le _)
    refine ⟨v', w', key _ _ hr, ho', (Fr.refl _ _).grown hg (fun k hk => .inl hk), fun x hx => ⟨?_, own_ptr ho' x hx⟩⟩
    rcases hloc with e | e
    · exact .inl (e ▸ hx)
    · rw [e] at hx; cases hx; exact .inr rfl
end
section
variable {Z : Nat → Prop}
/-- A slice of the statement's own, of these cells. -/
def owF (E sz n : Nat) (xs : List Value) : FP Z := ⟨none, fun S v w => w.ownsRow 0 E sz v n xs ∧ ∀ x, v.ownBlock = some x → S x, fun _ _ _ _ h hf => ⟨own_frame h.1 hf (fun x hx hn => hn.2 (h.2 x hx)), h.2⟩⟩
/-- A slice that reads as these bytes: its own, or of no block of the zone. -/
def RdZ (Z S : Nat → Prop) (v : Value) (w : World) (l : List UInt8) : Prop := ∃ a n c, v = .slice a n c ∧ RdB w a n c l ∧ ∀ p, a = some p → S p.block ∨ ¬ Z p.block
theorem RdZ.frame {F S : Nat → Prop} {v : Value} {w w' : World} {l : List UInt8} (h : RdZ Z S v w l) (hf : Fr F w w') (hF : ∀ x, F x → Z x ∧ ¬ S x) : RdZ Z S v w' l := by
  obtain ⟨a, n, c, e, hr, hs⟩ := h
  refine ⟨a, n, c, e, hf.rd hr (fun p hp hx => ?_), hs⟩
  obtain ⟨h1, h2⟩ := hF _ hx
  rcases hs p hp with h | h
  · exact h2 h
  · exact h h1
end
/-- The bytes' cells. -/
theorem own_rd {w : World} {v : Value} {l : List UInt8} (h : w.ownsRow 0 5 1 v l.length (l.map bV)) : ∃ a c, v = .slice a l.length c ∧ RdB w a l.length c l ∧ ∀ p, a = some p → v.ownBlock = some p.block := by
  rcases h.2 with ⟨rfl, hn⟩ | ⟨g, cap, cur, rfl, _, hg, h1, h2, h3, h4⟩
  · have : l = [] := List.eq_nil_of_length_eq_zero hn
    subst this
    exact ⟨none, 0, rfl, RdB.nil _, fun p e => by cases e⟩
  · refine ⟨some ⟨g, 0, none⟩, cap, rfl, ⟨rfl, h1, h2, fun i hi => ⟨g, 0, rfl, ?_⟩, fun e => by cases e⟩, fun p e => by cases e; rfl⟩
    rw [Nat.mul_one] at h4
    have h5 : (cur.toList.take l.length)[i]? = some (bV l[i]) := by rw [h4]; simp [hi]
    rw [List.getElem?_take_of_lt hi, Array.getElem?_toList] at h5
    simp [World.cell?, hg, h5]
end Go.Proofs.Ytgehbchaamilhaa
namespace Go.Proofs.Ytgehbchaamilhaa
open Go Go.RowKit Go.Maps
/-- A value reads as these bytes, in blocks of S. -/
def RdS (S : Nat → Prop) (w : World) (v : Value) (l : List UInt8) : Prop := ∃ a n c, v = .slice a n c ∧ RdB w a n c l ∧ ∀ p, a = some p → S p.block
/-- A value reads as these rows, in blocks of S. -/
def RowsS (S : Nat → Prop) (w : World) (v : Value) (ls : List (List UInt8)) : Prop := ∃ a c, v = .slice a ls.length c ∧ (a = none → ls.length = 0 ∧ c = 0) ∧ ls.length ≤ c ∧ c ≤ maxLen ∧ ∃ ys : List Value, ys.length = ls.length ∧
  (∀ (i : Nat) (y : Value), ys[i]? = some y → ∃ b q, a = some ⟨b, q, none⟩ ∧ S b ∧ w.cell? ⟨b, q + i, none⟩ = some y) ∧ ∀ (i : Nat) (y : Value) (l : List UInt8), ys[i]? = some y → ls[i]? = some l → RdS S w y l
theorem RdS.frame {S F : Nat → Prop} {w w' : World} {v : Value} {l : List UInt8} (h : RdS S w v l) (hf : Fr F w w') (hF : ∀ x, S x → ¬ F x) : RdS S w' v l := by
  obtain ⟨a, n, c, e, hr, hs⟩ := h
  exact ⟨a, n, c, e, hf.rd hr (fun p hp => hF _ (hs p hp)), hs⟩
theorem RdS.mono {S S' : Nat → Prop} {w : World} {v : Value} {l : List UInt8} (h : RdS S w v l) (hS : ∀ x, S x → S' x) : RdS S' w v l := by
  obtain ⟨a, n, c, e, hr, hs⟩ := h
  exact ⟨a, n, c, e, hr, fun p hp => hS _ (hs p hp)⟩
theorem RowsS.frame {S F : Nat → Prop} {w w' : World} {v : Value} {ls : List (List UInt8)} (h : RowsS S w v ls) (hf : Fr F w w') (hF : ∀ x, S x → ¬ F x) : RowsS S w' v ls := by
  obtain ⟨a, c, e, h0, h1, h2, ys, h3, h4, h5⟩ := h
  refine ⟨a, c, e, h0, h1, h2, ys, h3, fun i y hy => ?_, fun i y l hy hl => (h5 i y l hy hl).frame hf hF⟩
  obtain ⟨b, q, e, hb, hc⟩ := h4 i y hy
  exact ⟨b, q, e, hb, (hf.cell (p := ⟨b, q + i, none⟩) (cell_lt hc) (hF _ hb)).trans hc⟩
theorem RowsS.mono {S S' : Nat → Prop} {w : World} {v : Value} {ls : List (List UInt8)} (h : RowsS S w v ls) (hS : ∀ x, S x → S' x) : RowsS S' w v ls := by
  obtain ⟨a, c, e, h0, h1, h2, ys, h3, h4, h5⟩ := h
  exact ⟨a, c, e, h0, h1, h2, ys, h3, fun i y hy => (by obtain ⟨b, q, e, hb, hc⟩ := h4 i y hy; exact ⟨b, q, e, hS _ hb, hc⟩), fun i y l hy hl => (h5 i y l hy hl).mono hS⟩
theorem RowsS.nil (S : Nat → Prop) (w : World) : RowsS S w (.slice none 0 0) [] := ⟨none, 0, rfl, fun _ => ⟨rfl, rfl⟩, Nat.le_refl _, by unfold maxLen; omega, [], rfl, fun i y h => by simp at h, fun i y l h => by simp at h⟩
def mdS (gg cg gw cw : Nat) (d : Bd) (l : Int) : List Value := [.slice (some ⟨gg, 0, none⟩) d.good.length cg, .slice (some ⟨gw, 0, none⟩) d.good.length cw, .int .i64 (d.ops : Nat), .bool d.cut, .int .i64 l, .bool d.off]
structure MdRest (w : World) (g gg cg gw cw : Nat) (good : List (List UInt8)) (pend : Nat → List (List UInt8)) (F S : Nat → Prop) : Prop where
  ex : ∃ gv rg wv rw, Blk w gg (gv ++ rg) 26 ∧ gv.length = good.length ∧ (∀ (k : Nat) (v : Value) (r : List UInt8), gv[k]? = some v → good[k]? = some r → RdS S w v r) ∧
    Blk w gw (wv ++ rw) 30 ∧ wv.length = good.length ∧ (∀ (k : Nat) (v : Value), wv[k]? = some v → RowsS S w v (pend k)) ∧
    good.length ≤ cg ∧ cg ≤ maxLen ∧ good.length ≤ cw ∧ cw ≤ maxLen ∧ g ≠ gg ∧ g ≠ gw ∧ gg ≠ gw ∧ (∀ x, F x ↔ x = g ∨ x = gg ∨ x = gw) ∧ (∀ x, S x → ¬ F x) ∧ ∀ x, S x → x < w.heap.size
/-- The document's device at block g is d; F: the blocks that it turns; S: those that it reads alone. -/
structure Md (w : World) (g : Nat) (d : Bd) (F S : Nat → Prop) : Prop where
  ok : d.Ok
  ex : ∃ gg cg gw cw l, Blk w g (mdS gg cg gw cw d l) 46 ∧ max l 0 = d.left ∧ -9223372036854775808 ≤ l ∧ MdRest w g gg cg gw cw d.good d.pend F S
theorem MdRest.frame {w w' : World} {g gg cg gw cw : Nat} {good : List (List UInt8)} {pend : Nat → List (List UInt8)} {F S F' : Nat → Prop} (h : MdRest w g gg cg gw cw good pend F S) (hf : Fr F' w w') (hF : ∀ x, F x → x ≠ g → ¬ F' x) (hS : ∀ x, S x → ¬ F' x) : MdRest w' g gg cg gw cw good pend F S := by
  obtain ⟨gv, rg, wv, rw, h1, h2, h3, h4, h5, h6, h7, h8, h9, h10, n1, n2, n3, hx, hd, hl⟩ := h.ex
  exact ⟨gv, rg, wv, rw, hf.blk h1 (hF gg ((hx gg).2 (.inr (.inl rfl))) (Ne.symm n1)), h2, fun k v r a b => (h3 k v r a b).frame hf hS, hf.blk h4 (hF gw ((hx gw).2 (.inr (.inr rfl))) (Ne.symm n2)), h5, fun k v a => (h6 k v a).frame hf hS, h7, h8, h9, h10, n1, n2, n3, hx, hd, fun x hx => Nat.lt_of_lt_of_le (hl x hx) hf.size⟩
theorem MdRest.own {w : World} {g gg cg gw cw : Nat} {good : List (List UInt8)} {pend : Nat → List (List UInt8)} {F S : Nat → Prop} (h : MdRest w g gg cg gw cw good pend F S) : F g ∧ ∀ x, S x → ¬ F x := by
  obtain ⟨gv, rg, wv, rw, h1, h2, h3, h4, h5, h6, h7, h8, h9, h10, n1, n2, n3, hx, hd, hl⟩ := h.ex
  exact ⟨(hx g).2 (.inl rfl), hd⟩
theorem Md.frame {w w' : World} {g : Nat} {d : Bd} {F S F' : Nat → Prop} (h : Md w g d F S) (hf : Fr F' w w') (hF : ∀ x, F x → ¬ F' x) (hS : ∀ x, S x → ¬ F' x) : Md w' g d F S := by
  obtain ⟨gg, cg, gw, cw, l, h1, h2, h3, hR⟩ := h.ex
  exact ⟨h.ok, gg, cg, gw, cw, l, hf.blk h1 (hF g hR.own.1), h2, h3, hR.frame hf (fun x hx _ => hF x hx) hS⟩
theorem Md.later {w w' : World} {g : Nat} {d : Bd} {F S : Nat → Prop} (h : Md w g d F S) (hb : Below w.heap.size w w') : Md w' g d F S := h.frame (F' := fun _ => False) (.of_below hb) (fun _ _ h => h) (fun _ _ h => h)
theorem Md.lt {w : World} {g : Nat} {d : Bd} {F S : Nat → Prop} (h : Md w g d F S) : (∀ x, F x → x < w.heap.size) ∧ (∀ x, S x → x < w.heap.size) ∧ (∀ x, S x → ¬ F x) := by
  obtain ⟨gg, cg, gw, cw, l, h1, _, _, hR⟩ := h.ex
  obtain ⟨gv, rg, wv, rw, h3, h2, _, h4, h5, h6, h7, h8, h9, h10, n1, n2, n3, hx, hd, hl⟩ := hR.ex
  refine ⟨fun x hF => ?_, hl, hd⟩
  rcases (hx x).1 hF with rfl | rfl | rfl
  · exact h1.lt
  · exact h3.lt
  · exact h4.lt
/-- More may be read. -/
theorem Md.more {w : World} {g : Nat} {d : Bd} {F S S' : Nat → Prop} (h : Md w g d F S) (hS : ∀ x, S x → S' x) (hF : ∀ x, S' x → ¬ F x) (hl : ∀ x, S' x → x < w.heap.size) : Md w g d F S' := by
  obtain ⟨gg, cg, gw, cw, l, h1, h2, h3, hR⟩ := h.ex
  obtain ⟨gv, rg, wv, rw, a1, a2, a3, a4, a5, a6, a7, a8, a9, a10, n1, n2, n3, hx, hd, _⟩ := hR.ex
  exact ⟨h.ok, gg, cg, gw, cw, l, h1, h2, h3, gv, rg, wv, rw, a1, a2, fun k v r a b => (a3 k v r a b).mono hS, a4, a5, fun k v a => (a6 k v a).mono hS, a7, a8, a9, a10, n1, n2, n3, hx, hF, hl⟩
set_option maxRecDepth 100000 in
set_option maxHeartbeats 1000000 in
theorem dOp_any {w : World} {g : Nat} {d : Bd} {F S : Nat → Prop} (h : Md w g d F S) (ho : d.ops < 1000000) (hl2 : d.left ≤ 9223372036854775807) : Calls Try.prog 41 #[.pointer (some ⟨g, 0, none⟩)] w fun e w' => e = .returned (.bool (!d.offN)) ∧ Md w' g d.begin F S ∧ Fr (fun x => x = g) w w' := by
  obtain ⟨gg, cg, gw, cw, l, h1, h2, h3, hR⟩ := h.ex
  have hok := h.ok
  have c2 : w.cell? ⟨g, 2, none⟩ = some (.int .i64 (d.ops : Nat)) := h1.cell 2
  have c3 : w.cell? ⟨g, 3, none⟩ = some (.bool d.cut) := h1.cell 3
  have c4 : w.cell? ⟨g, 4, none⟩ = some (.int .i64 l) := h1.cell 4
  have c5 : w.cell? ⟨g, 5, none⟩ = some (.bool d.off) := h1.cell 5
  have hf := h1.frozen
  have HB := Lib.hid h1; have HR := Lib.hid hR; have HOK := Lib.hid hok
  have hops : (d.ops : Int) < 1000000 := by omega
  have hop0 : (0 : Int) ≤ (d.ops : Int) := by omega
  have hw : IntKind.i64.wrap ((d.ops : Int) + 1) = ((d.ops + 1 : Nat) : Int) := by rw [IntKind.wrap_i64]; omega
  have H2 := Lib.hid h2; have H3 := Lib.hid h3
  have HRF : ∀ W, Fr (fun x => x = g) w W → MdRest W g gg cg gw cw d.good d.pend F S := fun W hW => HR.out.frame hW (fun x _ hn e => hn e) (fun x hs e => HR.out.own.2 x hs (e ▸ HR.out.own.1))
  have HRF := Lib.hid HRF
  clear h ho h1 hR hok
  by_cases h5 : d.off = true
  · have HE := Lib.hid (begin_off h5); have HO5 := Lib.hid h5
    rw [h5] at c5
    clear h5 hl2 h2 h3
    go_enter Try.func41, Try.ntmps41
    go_wp2
    go_ret
    refine ⟨by rw [HE.out.1]; rfl, ⟨Bd.begin_ok HOK.out, gg, cg, gw, cw, l, ?_, by rw [HE.out.2]; exact H2.out, H3.out, HRF.out _ ((Fr.refl _ _).one _)⟩, (Fr.refl _ _).one _⟩
    have hb := (HB.out.set 2 (.int .i64 ((d.ops : Int) + 1)))
    clear hf
    rw [HE.out.2]
    refine Eq.mp ?_ hb
    congr 1
    try simp [mdS, HO5.out]
  · have h5 : d.off = false := by simpa using h5
    have HO5 := Lib.hid h5
    rw [h5] at c5
    by_cases h4 : d.cut = true
    · rw [h4] at c3
      by_cases h6 : l < 1
      · have HE := Lib.hid (begin_none h5 h4 (by omega))
        have hd : decide (l < 1) = true := decide_eq_true h6
        have HO4 := Lib.hid h4
        clear h5 h4 h6 hl2 h2 h3
        go_enter Try.func41, Try.ntmps41
        go_wp2
        go_ret
        refine ⟨by rw [HE.out.1]; rfl, ⟨Bd.begin_ok HOK.out, gg, cg, gw, cw, l, ?_, by rw [HE.out.2]; exact H2.out, H3.out, HRF.out _ ((Fr.refl _ _).one _ |>.one _)⟩, (Fr.refl _ _).one _ |>.one _⟩
        have hb := ((HB.out.set 2 (.int .i64 ((d.ops : Int) + 1))).set 5 (.bool true))
        clear hf
        rw [HE.out.2]
        refine Eq.mp ?_ hb
        congr 1
        try simp [mdS, HO5.out, HO4.out]
      · have HE := Lib.hid (begin_some h5 h4 (by omega))
        have hd : decide (l < 1) = false := decide_eq_false h6
        have HO4 := Lib.hid h4
        have hw3 : IntKind.i64.wrap (l - 1) = l - 1 := by rw [IntKind.wrap_i64]; omega
        have H7 : Hid (max (l - 1) 0 = d.left - 1 ∧ -9223372036854775808 ≤ l - 1) := Lib.hid (by omega)
        clear h5 h4 h6 hl2 h2 h3
        go_enter Try.func41, Try.ntmps41
        go_wp2
        go_ret
        refine ⟨by rw [HE.out.1]; rfl, ⟨Bd.begin_ok HOK.out, gg, cg, gw, cw, l - 1, ?_, by rw [HE.out.2]; exact H7.out.1, H7.out.2, HRF.out _ ((Fr.refl _ _).one _ |>.one _)⟩, (Fr.refl _ _).one _ |>.one _⟩
        have hb := ((HB.out.set 2 (.int .i64 ((d.ops : Int) + 1))).set 4 (.int .i64 (l - 1)))
        clear hf
        rw [HE.out.2]
        refine Eq.mp ?_ hb
        congr 1
        try simp [mdS, HO5.out, HO4.out]
    · have h4 : d.cut = false := by simpa using h4
      rw [h4] at c3
      have HE := Lib.hid (begin_uncut h5 h4)
      have HO4 := Lib.hid h4
      clear h5 h4 hl2 h2 h3
      go_enter Try.func41, Try.ntmps41
      go_wp2
      go_ret
      refine ⟨by rw [HE.out.1]; rfl, ⟨Bd.begin_ok HOK.out, gg, cg, gw, cw, l, ?_, by rw [HE.out.2]; exact H2.out, H3.out, HRF.out _ ((Fr.refl _ _).one _)⟩, (Fr.refl _ _).one _⟩
      have hb := (HB.out.set 2 (.int .i64 ((d.ops : Int) + 1)))
      clear hf
      rw [HE.out.2]
      refine Eq.mp ?_ hb
      congr 1
      try simp [mdS, HO5.out, HO4.out]
set_option maxRecDepth 100000 in
set_option maxHeartbeats 1000000 in
theorem dCut_any {w : World} {g : Nat} {n : Int} {d : Bd} {F S : Nat → Prop} (h : Md w g d F S) (hn : -9223372036854775808 ≤ n) : Calls Try.prog 34 #[.pointer (some ⟨g, 0, none⟩), .int .i64 n] w fun e w' => e = .returned (.tuple #[]) ∧ Md w' g (d.cutAt n) F S ∧ Fr (fun x => x = g) w w' := by
  obtain ⟨gg, cg, gw, cw, l, h1, h2, h3, hR⟩ := h.ex
  have c3 : w.cell? ⟨g, 3, none⟩ = some (.bool d.cut) := h1.cell 3
  have c4 : w.cell? ⟨g, 4, none⟩ = some (.int .i64 l) := h1.cell 4
  have hf := h1.frozen
  have HB := Lib.hid h1; have HR := Lib.hid hR; have HOK := Lib.hid h.ok; have HN := Lib.hid hn
  clear h h1 hR h2 h3 hn
  go_enter Try.func34, Try.ntmps34
  go_wp2
  refine bodyPost_end (results_none Try.results34 _ _ _) rfl ⟨rfl, ⟨Bd.cutAt_ok HOK.out n, gg, cg, gw, cw, n, ?_, rfl, HN.out, HR.out.frame ((Fr.refl _ _).one _ |>.one _) (fun x _ hn e => hn e) (fun x hs e => HR.out.own.2 x hs (e ▸ HR.out.own.1))⟩, (Fr.refl _ _).one _ |>.one _⟩
  exact (HB.out.set 3 (.bool true)).set 4 (.int .i64 n)
theorem MdRest.cells {w : World} {g gg cg gw cw : Nat} {good : List (List UInt8)} {pend : Nat → List (List UInt8)} {F S : Nat → Prop} {k : Nat} (h : MdRest w g gg cg gw cw good pend F S) (hk : k < good.length) :
    ∃ v y, w.cell? ⟨gg, k, none⟩ = some v ∧ RdS S w v (good.getD k []) ∧ w.cell? ⟨gw, k, none⟩ = some y ∧ RowsS S w y (pend k) := by
  obtain ⟨gv, rg, wv, rw, h1, h2, h3, h4, h5, h6, h7, h8, h9, h10, n1, n2, n3, hx, hd, hl⟩ := h.ex
  refine ⟨gv[k], wv[k], ?_, h3 k _ _ (List.getElem?_eq_getElem (by omega)) (by rw [List.getD_eq_getElem?_getD, List.getElem?_eq_getElem hk]; rfl), ?_, h6 k _ (List.getElem?_eq_getElem (by omega))⟩
  · rw [h1.cell, List.getElem?_append_left (by omega), List.getElem?_eq_getElem (by omega)]
  · rw [h4.cell, List.getElem?_append_left (by omega), List.getElem?_eq_getElem (by omega)]
set_option maxRecDepth 100000 in
set_option maxHeartbeats 1000000 in
theorem dAt_any {w : World} {g k n : Nat} {d : Bd} {F S : Nat → Prop} (h : Md w g d F S) (hk : k < d.good.length) (hN : d.good.length ≤ 100000) (hn : n ≤ (d.pend k).length) : Calls Try.prog 36 #[.pointer (some ⟨g, 0, none⟩), .int .i64 (k : Int), .int .i64 (n : Int)] w fun e w' => w = w' ∧ ∃ v, e = .returned v ∧ RdS S w v (d.at k n) := by
  obtain ⟨gg, cg, gw, cw, l, h1, h2, h3, hR⟩ := h.ex
  have c0 : w.cell? ⟨g, 0, none⟩ = some (.slice (some ⟨gg, 0, none⟩) d.good.length cg) := h1.cell 0
  have c1 : w.cell? ⟨g, 1, none⟩ = some (.slice (some ⟨gw, 0, none⟩) d.good.length cw) := h1.cell 1
  obtain ⟨v, y, cv, hv, cy, hy⟩ := hR.cells hk
  have k0 : (0 : Int) ≤ (k : Int) := by omega
  have k1 : (k : Int) < (d.good.length : Int) := by omega
  rcases Nat.eq_zero_or_pos n with rfl | hp
  · have HV := Lib.hid hv
    have HA : Hid (d.at k 0 = d.good.getD k []) := Lib.hid (by unfold Bd.at; rw [if_pos rfl])
    obtain ⟨va, vn, vc, rfl, _⟩ := hv
    clear h h1 h2 h3 hR hy hk hN
    go_enter Try.func36, Try.ntmps36
    go_wp2
    go_ret
    exact ⟨rfl, _, rfl, by rw [HA.out]; exact HV.out⟩
  · obtain ⟨i, rfl⟩ : ∃ i, n = i + 1 := ⟨n - 1, by omega⟩
    obtain ⟨a, c, rfl, e0, e1, e2, ys, e3, e4, e5⟩ := hy
    obtain ⟨b, q, rfl, hb, hc⟩ := e4 i _ (List.getElem?_eq_getElem (by omega))
    have HV := Lib.hid (e5 i _ _ (List.getElem?_eq_getElem (by omega)) (List.getElem?_eq_getElem (by omega)))
    have HA : Hid (d.at k (i + 1) = (d.pend k)[i]) := Lib.hid (by unfold Bd.at; rw [if_neg (by omega), Nat.add_sub_cancel, List.getD_eq_getElem?_getD, List.getElem?_eq_getElem (by omega)]; rfl)
    obtain ⟨x, hx⟩ : ∃ x, x = ys[i]'(by omega) := ⟨_, rfl⟩
    rw [← hx] at hc HV
    obtain ⟨va, vn, vc, rfl, _⟩ := HV.out
    have i0 : (0 : Int) ≤ (i : Int) := by omega
    have i1 : (i : Int) < ((d.pend k).length : Int) := by omega
    have i2 : ((i : Int) + 1 == 0) = false := by rw [beq_eq_false_iff_ne]; omega
    have hw : IntKind.i64.wrap ((i : Int) + 1 - 1) = (i : Int) := by unfold maxLen at e2; rw [IntKind.wrap_i64]; omega
    have hw2 : IntKind.i64.wrap (i : Int) = (i : Int) := by unfold maxLen at e2; rw [IntKind.wrap_i64]; omega
    clear h h1 h2 h3 hR hk hN hv e0 e1 e2 e4 e5 hp cv hx
    go_enter Try.func36, Try.ntmps36
    go_wp2
    go_ret
    exact ⟨rfl, _, rfl, by rw [HA.out]; exact HV.out⟩
end Go.Proofs.Ytgehbchaamilhaa
namespace Go.Proofs.Ytgehbchaamilhaa
open Go Go.RowKit Go.Maps
theorem mk64 (w : World) : (Instr.makeSlice 26 (.int .i64 64) (.int .i64 64)).run Try.prog w = .ok (.slice (some ⟨w.heap.size, 0, none⟩) 64 64) (w.alloc (.cells (zero64.map bV).toArray 5)) := by kernel_rfl
theorem run_mk64 {ev : Operand → Value} {o : Oper} {a b : Operand} {w : World} (ho : o.op = .makeSlice 26 a b) (ha : ev a = .int .i64 64) (hb : ev b = .int .i64 64) :
    (execOp ev o).run Try.prog w = .ok (.value (.slice (some ⟨w.heap.size, 0, none⟩) 64 64)) (w.alloc (.cells (zero64.map bV).toArray 5)) := by
  unfold execOp
  simp [ho, ha, hb, mk64]
theorem own_new {w : World} {E sz n : Nat} {xs : List Value} (hl : xs.length = n * sz) (h2 : n ≤ maxLen) : (w.alloc (.cells xs.toArray E)).ownsRow 0 E sz (.slice (some ⟨w.heap.size, 0, none⟩) n n) n xs := by
  refine ⟨hl, .inr ⟨w.heap.size, n, xs.toArray, rfl, Nat.zero_le _, ?_, Nat.le_refl _, h2, by simpa using hl, ?_⟩⟩
  · exact Blk.new w xs.toArray E
  · rw [List.toList_toArray, List.take_of_length_le (by omega)]
/-- A new row, alone in its block. -/
def oneRow64 {Z : Nat → Prop} : FP Z := owF 5 1 64 (zero64.map bV)
/-- A slice of one slice, which reads as l; both of its own. -/
def oneOf {Z : Nat → Prop} (l : List UInt8) : FP Z := ⟨none, fun S v w => ∃ y, w.ownsRow 0 26 1 v 1 [y] ∧ (∀ x, v.ownBlock = some x → S x) ∧ w.ownsRow 0 5 1 y l.length (l.map bV) ∧ (∀ x, y.ownBlock = some x → S x) ∧ ∀ x, v.ownBlock = some x → y.ownBlock ≠ some x,
  fun _ _ _ _ ⟨y, h1, h2, h3, h4, h5⟩ hf => ⟨y, own_frame h1 hf (fun x hx hn => hn.2 (h2 x hx)), h2, own_frame h3 hf (fun x hx hn => hn.2 (h4 x hx)), h4, h5⟩⟩
/-- A slice of slices: ys, and one more of its own, which reads as l. -/
def moreOf {Z : Nat → Prop} (B : Nat) (ys : List Value) (l : List UInt8) : FP Z := ⟨none, fun S v w => ∃ y, w.ownsRow 0 26 1 v (ys.length + 1) (ys ++ [y]) ∧ (∀ x, v.ownBlock = some x → S x) ∧ w.ownsRow 0 5 1 y l.length (l.map bV) ∧ (∀ x, y.ownBlock = some x → S x ∧ B ≤ x) ∧ ∀ x, v.ownBlock = some x → y.ownBlock ≠ some x,
  fun _ _ _ _ ⟨y, h1, h2, h3, h4, h5⟩ hf => ⟨y, own_frame h1 hf (fun x hx hn => hn.2 (h2 x hx)), h2, own_frame h3 hf (fun x hx hn => hn.2 (h4 x hx).1), h4, h5⟩⟩
theorem nil_cells (w : World) (n : Nat) (h : n ≤ 100000) : (Instr.makeSlice 44 (.int .i64 (n : Int)) (.int .i64 (n : Int))).run Try.prog w = .ok (.slice (some ⟨w.heap.size, 0, none⟩) n n) (w.alloc (.cells (List.replicate n (Value.slice none 0 0)).toArray 30)) := by
  obtain ⟨i, hi, hz, hs, hb⟩ := elR3.info
  have hr := run_make (P := Try.prog) w 44 30 i _ Try.underlying44 hi hz .i64 .i64 n n (by omega) (Int.le_refl _) (by rw [hb]; omega) (by omega)
  have e : ((Value.slice none 0 0).cells) = (List.replicate 1 (Value.slice none 0 0)).toArray := rfl
  simp only [Int.toNat_natCast, hs, e, Nat.mul_one] at hr
  rw [made_const (v := .slice none 0 0) (by simp) (fun j hj => by simp at hj; subst hj; rfl)] at hr
  exact hr
theorem one_own {w : World} {v y : Value} (h : w.ownsRow 0 26 1 v 1 [y]) : ∃ q c, v = .slice (some ⟨q, 0, none⟩) 1 c ∧ w.cell? ⟨q, 0, none⟩ = some y := by
  rcases h.2 with ⟨_, hn⟩ | ⟨g, cap, cur, rfl, _, hg, h1, h2, h3, h4⟩
  · omega
  · refine ⟨g, cap, rfl, ?_⟩
    rw [Nat.mul_one] at h4
    have h5 : (cur.toList.take 1)[0]? = some y := by rw [h4]; rfl
    rw [List.getElem?_take_of_lt (by omega), Array.getElem?_toList] at h5
    simp [World.cell?, hg, h5]
theorem own_isSlice {w : World} {E sz n : Nat} {v : Value} {xs : List Value} (h : w.ownsRow 0 E sz v n xs) : ∃ a c, v = .slice a n c ∧ (a = none → n = 0 ∧ c = 0) := by
  rcases h.2 with ⟨rfl, rfl⟩ | ⟨g, cap, cur, rfl, _⟩
  · exact ⟨none, 0, rfl, fun _ => ⟨rfl, rfl⟩⟩
  · exact ⟨_, _, rfl, fun e => by cases e⟩
theorem run_store1 {ev : Operand → Value} {o : Oper} {t : TypeId} {a b : Operand} {w : World} {g q : Nat} {v x : Value} (ho : o.op = .store t a b) (ha : ev a = .pointer (some ⟨g, q, none⟩)) (hb : ev b = v) (hc : w.cell? ⟨g, q, none⟩ = some x) (hf : w.frozen? ⟨g, q, none⟩ = false) (hv : v.oneCell' = true) (hsz : ∀ w, (sizeOf t).run Try.prog w = .ok 1 w) :
    (execOp ev o).run Try.prog w = .ok .skip (w.setCell ⟨g, q, none⟩ v) := by
  have hcs : v.cells = #[v] := by cases v <;> first | rfl | (simp [Value.oneCell'] at hv)
  have hst := run_storeCells_cells (P := Try.prog) g q [v] 0 w (fun j hj => by simp at hj; subst hj; simp [hc]) (fun j hj => by simp at hj; subst hj; simpa using hf) (fun x hx => by simp at hx; subst hx; exact hv)
  unfold execOp
  simp [ho, ha, hb, Instr.storeAt, Instr.sureAddr, storeVar, hsz, hcs, hst, World.setCells]
/-- What stands in the midst of NewDev. -/
def NdI (w : World) (n i : Nat) (vG : Value) (ys : List Value) (wr : World) : Prop :=
  ys.length = i ∧ wr.ownsRow 0 26 1 vG i ys ∧ Blk wr (w.heap.size + 1) [vG, .slice (some ⟨w.heap.size, 0, none⟩) n n, .int .i64 0, .bool false, .int .i64 0, .bool false] 46 ∧ Blk wr w.heap.size (List.replicate n (Value.slice none 0 0)) 30 ∧
  (∀ x, vG.ownBlock = some x → w.heap.size + 2 ≤ x) ∧ (∀ y ∈ ys, RdS (fun x => w.heap.size + 2 ≤ x ∧ x < wr.heap.size ∧ vG.ownBlock ≠ some x) wr y zero64) ∧ Below w.heap.size w wr
theorem new_md {w wr : World} {n : Nat} {vG : Value} {ys : List Value} (h : NdI w n n vG ys wr) (hn : 0 < n) (h1 : n ≤ 1000) : ∃ F S, Md wr (w.heap.size + 1) (Bd.new n) F S ∧ (∀ x, F x → w.heap.size ≤ x) ∧ (∀ x, S x → w.heap.size ≤ x) := by
  obtain ⟨hl, hown, hB, hW, hb, hr, hbel⟩ := h
  obtain ⟨gg, cap, cur, rfl, hg, h2, h3, h4, h5⟩ : ∃ gg cap cur, vG = .slice (some ⟨gg, 0, none⟩) n cap ∧ wr.heap[gg]? = some (.cells cur 26 (0, 0)) ∧ n ≤ cap ∧ cap ≤ maxLen ∧ cur.size = cap * 1 ∧ cur.toList.take (n * 1) = ys := by
    rcases hown.2 with ⟨_, h0⟩ | ⟨g, c, cur, e, _, hg, a1, a2, a3, a4⟩
    · omega
    · exact ⟨g, c, cur, e, hg, a1, a2, a3, a4⟩
  have hgb := hb gg rfl
  have hgl := (Array.getElem?_eq_some_iff.1 hg).1
  have hlen : (Bd.new n).good.length = n := List.length_replicate
  refine ⟨fun x => x = w.heap.size + 1 ∨ x = gg ∨ x = w.heap.size, fun x => w.heap.size + 2 ≤ x ∧ x < wr.heap.size ∧ (Value.slice (some ⟨gg, 0, none⟩) n cap).ownBlock ≠ some x, ⟨Bd.new_ok n, gg, cap, w.heap.size, n, 0, ?_, rfl, by omega, ys, cur.toList.drop n, List.replicate n (Value.slice none 0 0), [], ?_, by rw [hlen, hl], ?_, by rw [List.append_nil]; exact hW, by rw [hlen, List.length_replicate], ?_, by rw [hlen]; exact h2, h3, by rw [hlen]; exact Nat.le_refl _, by unfold maxLen; omega, by omega, by omega, by omega, fun x => Iff.rfl, ?_, fun x h => h.2.1⟩, ?_, fun x h => by omega⟩
  · unfold mdS; rw [hlen]; exact hB
  · unfold Blk
    rw [Nat.mul_one] at h5
    rw [← h5, List.take_append_drop]; exact hg
  · intro k v r hv hk
    have hr0 : r = zero64 := by
      have := List.mem_of_getElem? hk
      unfold Bd.new at this
      simp only [List.mem_replicate] at this
      exact this.2
    rw [hr0]
    exact hr v (List.mem_of_getElem? hv)
  · intro k v hv
    have := List.mem_of_getElem? hv
    simp only [List.mem_replicate] at this
    rw [this.2]
    exact RowsS.nil _ _
  · rintro x ⟨hx1, hx2, hx3⟩ (rfl | rfl | rfl)
    · omega
    · exact hx3 rfl
    · omega
  · rintro x (rfl | rfl | rfl)
    · omega
    · omega
    · exact Nat.le_refl _
set_option maxRecDepth 100000 in
set_option maxHeartbeats 2000000 in
theorem dNew_any {n : Nat} {w : World} (h0 : 0 < n) (h1 : n ≤ 1000) : Calls Try.prog 16 #[.int .i64 (n : Int)] w fun e w' => ∃ g F S, e = .returned (.tuple #[.pointer (some ⟨g, 0, none⟩), .int .i64 0]) ∧ Md w' g (Bd.new n) F S ∧ (∀ x, F x → w.heap.size ≤ x) ∧ (∀ x, S x → w.heap.size ≤ x) ∧ Below w.heap.size w w' := by
  have hmk := nil_cells w n (by omega)
  have a1 : decide ((n : Int) < 1) = false := decide_eq_false (by omega)
  have a2 : decide ((65536 : Int) < (n : Int)) = false := decide_eq_false (by omega)
  have a3 : decide (n < 1) = false := decide_eq_false (by omega)
  have a4 : decide (65536 < n) = false := decide_eq_false (by omega)
  have H0 := Lib.hid h0; have H1 := Lib.hid h1
  clear h0 h1
  go_enter Try.func16, Try.ntmps16
  go_upto_region 4 with fail
  clear hmk a1 a2 a3 a4
  refine wp_gen (fun W => NdI w n 0 (.slice none 0 0) [] W) ⟨rfl, ⟨rfl, .inl ⟨rfl, rfl⟩⟩, ?_, ?_, fun x h => (by cases h), fun y h => (by cases h), ?_⟩ (fun w1 hI => ?_)
  · have e : (w.alloc (.cells (List.replicate n (Value.slice none 0 0)).toArray 30)).heap.size = w.heap.size + 1 := by simp
    have h := Blk.new (w.alloc (.cells (List.replicate n (Value.slice none 0 0)).toArray 30)) #[.slice none 0 0, .slice (some ⟨w.heap.size, 0, none⟩) n n, .int .i64 0, .bool false, .int .i64 0, .bool false] 46
    rw [e] at h
    exact h
  · have h := (Blk.new w (List.replicate n (Value.slice none 0 0)).toArray 30)
    rw [List.toList_toArray] at h
    exact h.alloc _
  · exact (((Below.refl _ _).alloc (Nat.le_refl _) _).alloc (by simp) _)
  have HI := Lib.hid hI
  have hn63 : (n : Int) ≤ 1000 := by have := H1.out; omega
  clear hI
  go_wp2
  go_loopw [5] (fun iv wr => ∃ i : Nat, i ≤ n ∧ iv = .int .i64 i ∧ ∃ vG ys, NdI w n i vG ys wr) (fun iv _ => n - (intOf iv).toNat)
  case atStart => exact ⟨0, by omega, rfl, _, _, HI.out⟩
  case round =>
    obtain ⟨i, hi, rfl, vG, ys, hI⟩ := hrel
    by_cases hlt : i < n
    · have HN := Lib.hid hI
      obtain ⟨hl, hown, hB, hW, hb, hr, hbel⟩ := hI
      obtain ⟨aG, cG, rfl, hnil⟩ := own_isSlice hown
      have hi0 : (0 : Int) ≤ (i : Int) := by omega
      have hi1 : (i : Int) < (n : Int) := by omega
      have hiw : IntKind.i64.wrap ((i : Int) + 1) = ((i + 1 : Nat) : Int) := by rw [IntKind.wrap_i64]; omega
      have c0 : wr.cell? ⟨w.heap.size + 1, 0, none⟩ = some (.slice aG i cG) := hB.cell 0
      have HG := Lib.hid hown; have HB := Lib.hid hB; have HLT := Lib.hid hlt
      have hFw : ∀ x, (Value.slice aG i cG).ownBlock = some x → x < wr.heap.size := own_ptr hown
      have hne : ∀ x, (Value.slice aG i cG).ownBlock = some x → x ≠ w.heap.size + 1 := fun x hx => by have := hb x hx; omega
      have HL := Lib.hid hl; have HNE := Lib.hid hne; have HFW := Lib.hid hFw
      clear hown hB hW hb hr hbel hne hl hlt
      go_upto_region 7 with fail
      refine rgS 10 7 (fun x => (Value.slice aG i cG).ownBlock = some x) [(21, 0), (0, 1), (0, 2), (0, 3), (0, 4), (0, 5), (0, 6), (0, 7), (0, 8), (0, 9)] [kv (.pointer (some ⟨w.heap.size + 1, 0, none⟩)), kv (.pointer (some ⟨w.heap.size + 1, 0, none⟩)), kv (.pointer (some ⟨w.heap.size + 1, 0, none⟩)), kv (.pointer (some ⟨w.heap.size + 1, 0, none⟩)), kv (.slice aG i cG), (oneRow64), (oneOf zero64), (moreOf wr.heap.size ys zero64), kv (.pointer (some ⟨w.heap.size + 1, 0, none⟩)), kv (.pointer (some ⟨w.heap.size + 1, 0, none⟩))] [none, none, none, none, none, some 6, some 7, none, none, none] (fun _ W => ∃ v y, W.ownsRow 0 26 1 v (i + 1) (ys ++ [y]) ∧ (∀ x, v.ownBlock = some x → (Value.slice aG i cG).ownBlock = some x ∨ wr.heap.size ≤ x) ∧ W.ownsRow 0 5 1 y zero64.length (zero64.map bV) ∧ (∀ x, y.ownBlock = some x → wr.heap.size ≤ x ∧ v.ownBlock ≠ some x) ∧ Blk W (w.heap.size + 1) [v, .slice (some ⟨w.heap.size, 0, none⟩) n n, .int .i64 0, .bool false, .int .i64 0, .bool false] 46 ∧ Fr (fun x => x = w.heap.size + 1 ∨ (Value.slice aG i cG).ownBlock = some x) wr W) ?_ (fun u6 W6 hP hv => ?_)
      · refine ⟨?_, ?_, ?_, ?_, ?_, ?_, ?_, ?_, ?_, ?_, ?_, trivial⟩
        · refine ksP HFW.out (by omega) (.cons (c := 9) (by kernel_rfl) (.cons (c := 8) (by kernel_rfl) (.one (by kernel_rfl)))) (by rfl) fun L u W gh hc => ?_
          go_simp
        · refine ksP HFW.out (by omega) (.cons (c := 7) (by kernel_rfl) (.cons (c := 4) (by kernel_rfl) (.cons (c := 3) (by kernel_rfl) (.cons (c := 2) (by kernel_rfl) (.one (by kernel_rfl)))))) (by rfl) fun L u W gh hc => ?_
          have hb := hc.before (.inr (.cons (c := 4) (by kernel_rfl) (.cons (c := 3) (by kernel_rfl) (.cons (c := 2) (by kernel_rfl) (.one (by kernel_rfl))))))
          go_simp
        · refine ksP HFW.out (by omega) (.cons (c := 7) (by kernel_rfl) (.cons (c := 4) (by kernel_rfl) (.cons (c := 3) (by kernel_rfl) (.one (by kernel_rfl))))) (by rfl) fun L u W gh hc => ?_
          have e1 : u 1 = .pointer (some ⟨w.heap.size + 1, 0, none⟩) := hc.val 1 (by kernel_rfl) (by omega) _ rfl
          have hb := hc.before (.inr (.cons (c := 4) (by kernel_rfl) (.cons (c := 3) (by kernel_rfl) (.one (by kernel_rfl)))))
          go_simp
        · refine ksP HFW.out (by omega) (.cons (c := 7) (by kernel_rfl) (.cons (c := 4) (by kernel_rfl) (.one (by kernel_rfl)))) (by rfl) fun L u W gh hc => ?_
          have e2 : u 2 = .pointer (some ⟨w.heap.size + 1, 0, none⟩) := hc.val 2 (by kernel_rfl) (by omega) _ rfl
          have hb := hc.before (.inr (.cons (c := 4) (by kernel_rfl) (.one (by kernel_rfl))))
          go_simp
        · refine ksP HFW.out (by omega) (.cons (c := 7) (by kernel_rfl) (.one (by kernel_rfl))) (by rfl) fun L u W gh hc => ?_
          have e3 : u 3 = .pointer (some ⟨w.heap.size + 1, 0, none⟩) := hc.val 3 (by kernel_rfl) (by omega) _ rfl
          have hb := hc.before (.inr (.one (by kernel_rfl)))
          have hc := (hb.cell (p := ⟨w.heap.size + 1, 0, none⟩) HB.out.lt).trans c0
          go_simp
        · refine ksM HFW.out (by omega) (.cons (c := 7) (by kernel_rfl) (.cons (c := 6) (by kernel_rfl) (.one (by kernel_rfl)))) fun L u W gh hc => ?_
          have hb := hc.before (.inr (.cons (c := 6) (by kernel_rfl) (.one (by kernel_rfl))))
          exact ⟨_, _, fun x => x = W.heap.size, run_mk64 rfl rfl rfl, (Fr.refl _ _).alloc _, ⟨own_new (by rfl) (by unfold maxLen; omega), fun x hx => by cases hx; rfl⟩, fun x e => (by cases e), fun x hx => .inr (Nat.le_of_eq hx.symm), fun x hx => by subst hx; simp⟩
        · refine ksM HFW.out (by omega) (.cons (c := 7) (by kernel_rfl) (.one (by kernel_rfl))) fun L u W gh hc => ?_
          have t5 := hc.fact 5 (by kernel_rfl) (by omega) (fun t ht => by cases ht; exact hc.free _ (.inl rfl))
          have f5 := hc.foot 5 (by kernel_rfl) (by omega) (fun t ht => by cases ht; exact hc.free _ (.inl rfl))
          have hb := hc.before (.inr (.one (by kernel_rfl)))
          obtain ⟨a1, a2⟩ := t5
          obtain ⟨a, c, e5, _⟩ := own_isSlice a1
          have ha := (Fr.refl (fun _ => False) W).alloc (.cells #[u 5] 26)
          refine ⟨_, _, fun x => gh 5 x ∨ x = W.heap.size, run_new1 (v := u 5) elR rfl rfl (by rw [e5]; rfl) (by rw [e5]; rfl), (Fr.refl _ _).alloc _, ⟨u 5, own_new (xs := [u 5]) (by rfl) (by unfold maxLen; omega), fun x hx => (by cases hx; exact .inr rfl), own_frame a1 ha (fun _ _ h => h), fun x hx => .inl (a2 x hx), fun x hx e => ?_⟩, fun x e => (by cases e), fun x hx => ?_, fun x hx => ?_⟩
          · have e2 : W.heap.size = x := Option.some.inj hx
            have := own_ptr a1 _ e; omega
          · rcases hx with h | h
            · exact .inl ⟨5, by kernel_rfl, by omega, rfl, h⟩
            · exact .inr (Nat.le_of_eq h.symm)
          · rcases hx with h | rfl
            · have := (f5 x h).2; simp; omega
            · simp
        · refine ksW HFW.out (by omega) (.one (by kernel_rfl)) rfl fun L u W gh hc hb => ?_
          have e4 : u 4 = .slice aG i cG := hc.val 4 (by kernel_rfl) (by omega) _ rfl
          have t6 := hc.fact 6 (by kernel_rfl) (by omega) (fun t ht => by cases ht; exact hc.free _ (.inl rfl))
          have f6 := hc.foot 6 (by kernel_rfl) (by omega) (fun t ht => by cases ht; exact hc.free _ (.inl rfl))
          obtain ⟨y, a1, a2, a3, a4, a5⟩ := t6
          obtain ⟨q, c, e6, hcq⟩ := one_own a1
          obtain ⟨ya, yc, ey, _⟩ := own_isSlice a3
          have hgW := own_frame (F := fun _ => False) HG.out (.of_below hb) (fun _ _ h => h)
          obtain ⟨v', w', hrun, ho, hf, hv⟩ := run_app elR (w := W) (a := some ⟨q, 0, none⟩) (m := 1) (c := c) hgW (news := [y]) (by rfl) (fun e => by cases e) (fun j z hz => by
            cases j with
            | zero => simp at hz; subst hz; exact ⟨_, rfl, by rw [Addr.add_mid]; exact hcq⟩
            | succ j => simp at hz) (fun z hz => by simp at hz; subst hz; rw [ey]; rfl) (by unfold maxLen; have := HLT.out; have := H1.out; omega) (by have := HLT.out; have := H1.out; omega)
          have hyn : ∀ x, y.ownBlock = some x → gh 6 x := a4
          have hfoot : ∀ x, gh 6 x → wr.heap.size ≤ x ∧ x < W.heap.size := fun x hx => ⟨(by rcases (f6 x hx).1 with h | ⟨_, h⟩; exact h; rw [hc.free 7 (.inl rfl)] at h; cases h), (f6 x hx).2⟩
          refine ⟨v', w', fun x => v'.ownBlock = some x ∨ gh 6 x, hrun _ _ _ _ rfl rfl (by exact e4) (by exact e6), hf.mono (fun x hx => .inl (.inl hx)), ⟨y, by rw [HL.out]; exact ho, fun x hx => .inl hx, own_frame a3 hf (fun x hx e => ?_), fun x hx => ⟨.inr (hyn x hx), (hfoot x (hyn x hx)).1⟩, fun x hx e => ?_⟩, fun x e => (by cases e), fun x hx => ?_, fun x hx => ?_⟩
          · have := HFW.out x e; have := (hfoot x (hyn x hx)).1; omega
          · have h2 := hfoot x (hyn x e)
            rcases (hv x hx).1 with h | h
            · have := HFW.out x h; omega
            · omega
          · rcases hx with h | h
            · rcases (hv x h).1 with h | h
              · exact .inl h
              · exact .inr (.inr (Nat.le_of_eq h.symm))
            · exact .inr (.inl ⟨6, by kernel_rfl, by omega, rfl, h⟩)
          · rcases hx with h | h
            · exact (hv x h).2
            · exact Nat.lt_of_lt_of_le (hfoot x h).2 hf.size
        · refine ksP HFW.out (by omega) (.cons (c := 9) (by kernel_rfl) (.one (by kernel_rfl))) (by rfl) fun L u W gh hc => ?_
          have e0 : u 0 = .pointer (some ⟨w.heap.size + 1, 0, none⟩) := hc.val 0 (by kernel_rfl) (by omega) _ rfl
          go_simp
        · refine ksP HFW.out (by omega) (.one (by kernel_rfl)) (by rfl) fun L u W gh hc => ?_
          have e8 : u 8 = .pointer (some ⟨w.heap.size + 1, 0, none⟩) := hc.val 8 (by kernel_rfl) (by omega) _ rfl
          go_simp
        · refine ksL fun L u W gh hc => ?_
          have e9 : u 9 = .pointer (some ⟨w.heap.size + 1, 0, none⟩) := hc.val 9 (by kernel_rfl) (by omega) _ rfl
          have t7 := hc.fact 7 (by kernel_rfl) (by omega) (fun t ht => by cases ht)
          have f7 := hc.foot 7 (by kernel_rfl) (by omega) (fun t ht => by cases ht)
          obtain ⟨y, a1, a2, a3, a4, a5⟩ := t7
          have hBW := hc.fr.blk HB.out (fun e => HNE.out _ e rfl)
          have hfs : Fr (fun x => x = w.heap.size + 1) W (W.setCell ⟨w.heap.size + 1, 0, none⟩ (u 7)) := (Fr.refl _ _).one _
          obtain ⟨va, vc, ev, _⟩ := own_isSlice a1
          have hfo : ∀ x, gh 7 x → (wr.heap.size ≤ x ∨ (Value.slice aG i cG).ownBlock = some x) := fun x hx => by rcases (f7 x hx).1 with h | ⟨h, _⟩; exact .inl h; exact .inr h
          have hng : ∀ x, gh 7 x → x ≠ w.heap.size + 1 := fun x hx => by
            rcases hfo x hx with h | h
            · have := HB.out.lt; omega
            · exact HNE.out x h
          refine ⟨_, _, _, run_store1 rfl (by exact e9) (by rfl) (hBW.cell 0) (hBW.frozen 0) (by rw [ev]; rfl) Try.sizeOf30, .inl ⟨rfl, rfl⟩, u 7, y, ?_, ?_, ?_, ?_, hBW.set 0 (u 7), ?_⟩
          · have := own_frame a1 hfs (fun x hx e => hng x (a2 x hx) e)
            rw [HL.out] at this; exact this
          · intro x hx
            rcases hfo x (a2 x hx) with h | h
            · exact .inr h
            · exact .inl h
          · exact own_frame a3 hfs (fun x hx e => hng x (a4 x hx).1 e)
          · exact fun x hx => ⟨(a4 x hx).2, fun e => a5 x e hx⟩
          · exact (hc.fr.mono (F' := fun x => x = w.heap.size + 1 ∨ (Value.slice aG i cG).ownBlock = some x) (fun x hx => .inl (.inr hx))).trans hfs (fun x hx => .inl (.inl hx))
      obtain ⟨v, y, p1, p2, p3, p4, p5, p6⟩ := hP
      have HI2 : Hid (NdI w n (i + 1) v (ys ++ [y]) W6) := Lib.hid (by
        obtain ⟨hl, hown, hB, hW, hb, hr, hbel⟩ := HN.out
        have hlb := hB.lt; have hlw := hW.lt
        refine ⟨by rw [List.length_append, hl]; rfl, p1, p5, p6.blk hW (fun e => ?_), fun x hx => ?_, fun z hz => ?_, hbel.trans (p6.below hbel.size (fun x hx => ?_))⟩
        · rcases e with e | e
          · omega
          · have := hb _ e; omega
        · rcases p2 x hx with h | h
          · exact hb x h
          · omega
        · rcases List.mem_append.1 hz with hz | hz
          · refine RdS.mono (RdS.frame (hr z hz) p6 (fun x hx e => ?_)) (fun x hx => ⟨hx.1, Nat.lt_of_lt_of_le hx.2.1 p6.size, fun e => ?_⟩)
            · rcases e with e | e
              · omega
              · exact hx.2.2 e
            · rcases p2 x e with h | h
              · exact hx.2.2 h
              · omega
          · simp at hz
            subst hz
            obtain ⟨a, c, rfl, hrd, hpb⟩ := own_rd p3
            exact ⟨a, _, c, rfl, hrd, fun p hp => ⟨by have := (p4 _ (hpb p hp)).1; have := hbel.size; omega, own_ptr p3 _ (hpb p hp), (p4 _ (hpb p hp)).2⟩⟩
        · rcases hx with rfl | hx
          · omega
          · have := hb _ hx; omega)
      clear p1 p2 p3 p4 p5 p6
      go_wp2
      go_roundw
      case rel => first | exact ⟨i + 1, by have := HLT.out; omega, by go_num, _, _, HI2.out⟩ | ((repeat apply Exists.intro); exact ⟨⟨i + 1, by have := HLT.out; omega, by go_num, _, _, HI2.out⟩, rfl⟩)
      case measure => have := HLT.out; simp [intOf]; omega
    · obtain rfl : i = n := by omega
      have HM := Lib.hid (new_md hI H0.out H1.out)
      have HBL := Lib.hid hI.2.2.2.2.2.2
      clear hI hlt
      go_wp2
      go_ret2
      obtain ⟨F, S, h1, h2, h3⟩ := HM.out
      exact ⟨_, F, S, rfl, h1, h2, h3, HBL.out⟩
end Go.Proofs.Ytgehbchaamilhaa
namespace Go.Proofs.Ytgehbchaamilhaa
open Go Go.RowKit Go.Maps
/-- What an append to one's own gives. -/
theorem app_res {Z : Nat → Prop} {tS E sz bytes : Nat} {z : Value} (h : ElT tS E sz bytes z) {S : Nat → Prop} {w : World} {v : Value} {n m c : Nat} {a : Option Addr} {xs news : List Value} (hown : (owF (Z := Z) E sz n xs).P S v w)
    (hl : news.length = m * sz) (hnil : a = none → m = 0 ∧ c = 0) (hnews : ∀ (j : Nat) (u : Value), news[j]? = some u → ∃ ad, a = some ad ∧ w.cell? (ad.add j) = some u) (h1 : ∀ u ∈ news, u.oneCell' = true) (h63 : n + m ≤ maxLen) (hb : (n + m) * bytes ≤ 140737488355328) :
    ∃ v' w', (∀ (ev : Operand → Value) (o : Oper) (x y : Operand), o.op = .call { callee := .builtin .append, args := #[x, y], argTypes := #[tS, tS] } → o.type = tS → ev x = v → ev y = .slice a m c → (execOp ev o).run Try.prog w = .ok (.value v') w') ∧
      Fr (fun x => v.ownBlock = some x) w w' ∧ (owF (Z := Z) E sz (n + m) (xs ++ news)).P (fun x => v'.ownBlock = some x) v' w' ∧ (∀ x, v'.ownBlock = some x → v.ownBlock = some x ∨ w.heap.size ≤ x) ∧ ∀ x, v'.ownBlock = some x → x < w'.heap.size := by
  obtain ⟨v', w', h1, h2, h3, h4⟩ := run_app h hown.1 hl hnil hnews h1 h63 hb
  exact ⟨v', w', h1, h3, ⟨h2, fun x hx => hx⟩, fun x hx => (h4 x hx).1.imp id (fun e => Nat.le_of_eq e.symm), fun x hx => (h4 x hx).2⟩
theorem RdB.news {w : World} {a : Option Addr} {n c : Nat} {l : List UInt8} (h : RdB w a n c l) : (l.map bV).length = n * 1 ∧ (a = none → n = 0 ∧ c = 0) ∧ ∀ (j : Nat) (u : Value), (l.map bV)[j]? = some u → ∃ ad, a = some ad ∧ w.cell? (ad.add j) = some u := by
  refine ⟨by rw [List.length_map, h.hlen]; omega, fun e => ⟨by have := h.hnil e; have := h.hcap; omega, h.hnil e⟩, fun j u hu => ?_⟩
  have hj := (List.getElem?_eq_some_iff.1 hu).1
  rw [List.length_map] at hj
  obtain ⟨b, o, e, hc⟩ := h.get j hj
  refine ⟨_, e, ?_⟩
  rw [Addr.add_mid, hc]
  rw [List.getElem?_map, List.getElem?_eq_getElem hj] at hu
  exact hu
theorem bytes_one (l : List UInt8) : ∀ u ∈ l.map bV, u.oneCell' = true := fun u hu => by
  rw [List.mem_map] at hu
  obtain ⟨c, _, rfl⟩ := hu
  rfl
/-- The rows' slice behind a write. -/
theorem rows_more {S F : Nat → Prop} {w W : World} {v y : Value} {ls : List (List UInt8)} {ys : List Value} {x : List UInt8} {B : Nat} (hys : ys.length = ls.length) (hrd : ∀ (i : Nat) (y : Value) (l : List UInt8), ys[i]? = some y → ls[i]? = some l → RdS S w y l)
    (hf : Fr F w W) (hF : ∀ x, S x → ¬ F x) (ho : W.ownsRow 0 26 1 v (ys.length + 1) (ys ++ [y])) (hv : ∀ x, v.ownBlock = some x → B ≤ x) (hy : W.ownsRow 0 5 1 y x.length (x.map bV)) (hyb : ∀ x, y.ownBlock = some x → B ≤ x) :
    RowsS (fun q => S q ∨ (B ≤ q ∧ q < W.heap.size)) W v (ls ++ [x]) := by
  obtain ⟨q, c, cur, rfl, hq, h1, h2, h3, h4⟩ : ∃ q c cur, v = .slice (some ⟨q, 0, none⟩) (ys.length + 1) c ∧ W.heap[q]? = some (.cells cur 26 (0, 0)) ∧ ys.length + 1 ≤ c ∧ c ≤ maxLen ∧ cur.size = c * 1 ∧ cur.toList.take ((ys.length + 1) * 1) = ys ++ [y] := by
    rcases ho.2 with ⟨_, h0⟩ | ⟨g, c, cur, e, _, hg, a1, a2, a3, a4⟩
    · omega
    · exact ⟨g, c, cur, e, hg, a1, a2, a3, a4⟩
  have hql := (Array.getElem?_eq_some_iff.1 hq).1
  refine ⟨some ⟨q, 0, none⟩, c, by rw [List.length_append, ← hys]; rfl, fun e => (by cases e), by rw [List.length_append, ← hys]; exact h1, h2, ys ++ [y], by rw [List.length_append, List.length_append, hys]; rfl, fun i z hz => ⟨q, 0, rfl, .inr ⟨hv q rfl, hql⟩, ?_⟩, fun i z l hz hl2 => ?_⟩
  · have hi := (List.getElem?_eq_some_iff.1 hz).1
    rw [List.length_append] at hi
    simp at hi
    rw [Nat.mul_one] at h4
    have h5 : (cur.toList.take (ys.length + 1))[i]? = some z := by rw [h4]; exact hz
    rw [List.getElem?_take_of_lt (by omega), Array.getElem?_toList] at h5
    simp [World.cell?, hq, h5]
  · rcases Nat.lt_or_ge i ys.length with hi | hi
    · rw [List.getElem?_append_left hi] at hz
      rw [List.getElem?_append_left (by omega)] at hl2
      exact ((hrd i z l hz hl2).frame hf hF).mono (fun x h => .inl h)
    · rw [List.getElem?_append_right hi] at hz
      rw [List.getElem?_append_right (by omega), ← hys] at hl2
      have h0 : i - ys.length = 0 := by have := (List.getElem?_eq_some_iff.1 hz).1; simp at this; omega
      rw [h0] at hz hl2
      simp at hz hl2
      subst hz; subst hl2
      obtain ⟨a, c, rfl, hr, hp⟩ := own_rd hy
      exact ⟨a, _, c, rfl, hr, fun p hp2 => .inr ⟨hyb _ (hp p hp2), own_ptr hy _ (hp p hp2)⟩⟩
set_option maxRecDepth 100000 in
set_option maxHeartbeats 2000000 in
theorem dWrite_ok {w : World} {g k cap bb qq : Nat} {x : List UInt8} {d : Bd} {F S : Nat → Prop} (h : Md w g d F S) (hk : k < d.good.length) (hN : d.good.length ≤ 100000) (ho : d.ops < 1000000) (hl : d.left ≤ 9223372036854775807) (hoff : d.offN = false)
    (hb : RdB w (some ⟨bb, qq, none⟩) 64 cap x) (hbF : ¬ F bb) :
    Calls Try.prog 32 #[.pointer (some ⟨g, 0, none⟩), .int .i64 (k : Int), .slice (some ⟨bb, qq, none⟩) 64 cap] w fun e w' => e = .returned (.int .i64 0) ∧ ∃ S', Md w' g (d.begin.put k x) F S' ∧ Fr F w w' ∧ (∀ y, S' y → S y ∨ w.heap.size ≤ y) := by
  have HD := Lib.hid h
  have HK := Lib.hid hk; have HN := Lib.hid hN; have HO := Lib.hid ho; have HL := Lib.hid hl; have HB := Lib.hid hb; have HBF := Lib.hid hbF
  have k0 : decide ((k : Int) < 0) = false := decide_eq_false (by omega)
  have k1 : decide ((d.good.length : Int) ≤ (k : Int)) = false := decide_eq_false (by omega)
  have k2 : decide (d.good.length ≤ k) = false := decide_eq_false (by omega)
  have HOF := Lib.hid hoff
  have c00 : ∃ gg cg, w.cell? ⟨g, 0, none⟩ = some (.slice (some ⟨gg, 0, none⟩) d.good.length cg) := by
    obtain ⟨gg, cg, gw, cw, l, h1, _⟩ := h.ex
    exact ⟨gg, cg, h1.cell 0⟩
  obtain ⟨gg0, cg0, c00⟩ := c00
  clear h hk hN ho hl hb hbF hoff
  go_enter Try.func32, Try.ntmps32
  go_upto_region 5 with (first
    | (go_at_call 41; (with_reducible refine (dOp_any HD.out HO.out HL.out).mono ?_); rintro e w1 ⟨rfl, hD1, hf1⟩; rw [HOF.out]))
  have HD1 := Lib.hid hD1; have HF1 := Lib.hid hf1
  obtain ⟨gg, cg, gw, cw, l, h1, h2, h3, hR⟩ := hD1.ex
  have c1 : w1.cell? ⟨g, 1, none⟩ = some (.slice (some ⟨gw, 0, none⟩) d.good.length cw) := h1.cell 1
  obtain ⟨gv, rg, wv, rw', a1, a2, a3, a4, a5, a6, a7, a8, a9, a10, n1, n2, n3, hx, hd, hsl⟩ := hR.ex
  have a6 : ∀ (k : Nat) (v : Value), wv[k]? = some v → RowsS S w1 v (d.pend k) := a6
  have a5 : wv.length = d.good.length := a5
  have a2 : gv.length = d.good.length := a2
  have a3 : ∀ (k : Nat) (v : Value) (r : List UInt8), gv[k]? = some v → d.good[k]? = some r → RdS S w1 v r := a3
  have hkl : k < wv.length := by rw [a5]; exact HK.out
  obtain ⟨vk, hvk⟩ : ∃ vk, wv[k]? = some vk := ⟨_, List.getElem?_eq_getElem hkl⟩
  have cwk : w1.cell? ⟨gw, k, none⟩ = some vk := by rw [a4.cell, List.getElem?_append_left hkl]; exact hvk
  obtain ⟨a, c, rfl, r1, r2, r3, ys, r4, r5, r6⟩ := a6 k vk hvk
  have hgF : F g := (hx g).2 (.inl rfl)
  have hbr : RdB w1 (some ⟨bb, qq, none⟩) 64 cap x := HF1.out.rd HB.out (fun p hp => by cases hp; exact fun e => HBF.out (by rw [show bb = g from e]; exact hgF))
  have HXL : Hid (x.length = 64) := Lib.hid HB.out.hlen
  have HH1 := Lib.hid h1; have HA4 := Lib.hid a4; have HR4 := Lib.hid r4; have HR5 := Lib.hid r5; have HR1 := Lib.hid r1; have HBR := Lib.hid hbr
  have HPL : Hid ((d.pend k).length ≤ 1000000) := Lib.hid (by have := HD.out.ok.cnt k; have := HO.out; omega)
  have k3 : (0 : Int) ≤ (k : Int) := by omega
  have k4 : (k : Int) < (d.good.length : Int) := by have := HK.out; omega
  have HE : Hid (d.begin.good = d.good ∧ d.begin.pend = d.pend) := Lib.hid ⟨rfl, rfl⟩
  have hy1 : ∀ z ∈ ys, z.oneCell' = true := fun z hz => by
    obtain ⟨i, hi, rfl⟩ := List.getElem_of_mem hz
    obtain ⟨a, n, c, e, _⟩ := r6 i _ _ (List.getElem?_eq_getElem hi) (List.getElem?_eq_getElem (by rw [← r4]; exact hi))
    rw [e]; rfl
  have HY1 := Lib.hid hy1
  have HXP := Lib.hid hx
  clear hD1 hf1 k0 k1 k2 c00 hy1 hx
  refine rgS 20 20 (fun _ => False) [(26, 0), (0, 1), (0, 2), (0, 3), (0, 4), (0, 5), (0, 6), (0, 7), (0, 8), (0, 9), (0, 10), (0, 11), (0, 12), (0, 13), (0, 14), (0, 15), (0, 16), (0, 17), (0, 18), (0, 19)] [kv (.pointer (some ⟨g, 0, none⟩)), kv (.pointer (some ⟨g, 0, none⟩)), kv (.pointer (some ⟨g, 1, none⟩)), kv (.slice (some ⟨gw, 0, none⟩) d.good.length cw), kv (.int .i64 (k : Int)), (owF 26 1 0 []), kv (.pointer (some ⟨g, 0, none⟩)), kv (.pointer (some ⟨g, 0, none⟩)), kv (.pointer (some ⟨g, 1, none⟩)), kv (.slice (some ⟨gw, 0, none⟩) d.good.length cw), kv (.int .i64 (k : Int)), kv (.pointer (some ⟨gw, k, none⟩)), kv (.slice a (d.pend k).length c), (owF 26 1 (0 + (d.pend k).length) ([] ++ ys)), (owF 5 1 0 []), kv (.slice (some ⟨bb, qq, none⟩) 64 cap), (owF 5 1 x.length (x.map bV)), (oneOf x), (moreOf w1.heap.size ys x), kv (.pointer (some ⟨gw, k, none⟩))] [none, none, none, none, none, some 13, none, none, none, none, none, none, none, some 18, some 16, none, some 17, some 18, none, none] (fun _ W => ∃ v y, W.ownsRow 0 26 1 v (ys.length + 1) (ys ++ [y]) ∧ (∀ x, v.ownBlock = some x → w1.heap.size ≤ x) ∧ W.ownsRow 0 5 1 y x.length (x.map bV) ∧ (∀ x, y.ownBlock = some x → w1.heap.size ≤ x) ∧ Blk W gw (wv.set k v ++ rw') 30 ∧ Fr (fun x => x = gw) w1 W) ?_ (fun u6 W6 hP hv => ?_)
  · refine ⟨?_, ?_, ?_, ?_, ?_, ?_, ?_, ?_, ?_, ?_, ?_, ?_, ?_, ?_, ?_, ?_, ?_, ?_, ?_, ?_, ?_, trivial⟩
    · refine ksP (fun _ h => h.elim) (by omega) (.cons (c := 19) (by kernel_rfl) (.cons (c := 3) (by kernel_rfl) (.cons (c := 2) (by kernel_rfl) (.cons (c := 1) (by kernel_rfl) (.one (by kernel_rfl)))))) (by rfl) fun L u W gh hc => ?_
      have hb := hc.before (.inr (.cons (c := 19) (by kernel_rfl) (.cons (c := 3) (by kernel_rfl) (.cons (c := 2) (by kernel_rfl) (.cons (c := 1) (by kernel_rfl) (.one (by kernel_rfl)))))))
      go_simp
    · refine ksP (fun _ h => h.elim) (by omega) (.cons (c := 19) (by kernel_rfl) (.cons (c := 3) (by kernel_rfl) (.cons (c := 2) (by kernel_rfl) (.one (by kernel_rfl))))) (by rfl) fun L u W gh hc => ?_
      have e0 : u 0 = .pointer (some ⟨g, 0, none⟩) := hc.val 0 (by kernel_rfl) (by omega) _ rfl
      have hb := hc.before (.inr (.cons (c := 19) (by kernel_rfl) (.cons (c := 3) (by kernel_rfl) (.cons (c := 2) (by kernel_rfl) (.one (by kernel_rfl))))))
      go_simp
    · refine ksP (fun _ h => h.elim) (by omega) (.cons (c := 19) (by kernel_rfl) (.cons (c := 3) (by kernel_rfl) (.one (by kernel_rfl)))) (by rfl) fun L u W gh hc => ?_
      have e1 : u 1 = .pointer (some ⟨g, 0, none⟩) := hc.val 1 (by kernel_rfl) (by omega) _ rfl
      have hb := hc.before (.inr (.cons (c := 19) (by kernel_rfl) (.cons (c := 3) (by kernel_rfl) (.one (by kernel_rfl)))))
      go_simp
    · refine ksP (fun _ h => h.elim) (by omega) (.cons (c := 19) (by kernel_rfl) (.one (by kernel_rfl))) (by rfl) fun L u W gh hc => ?_
      have e2 : u 2 = .pointer (some ⟨g, 1, none⟩) := hc.val 2 (by kernel_rfl) (by omega) _ rfl
      have hb := hc.before (.inr (.cons (c := 19) (by kernel_rfl) (.one (by kernel_rfl))))
      have hc2 := (hb.cell (p := ⟨g, 1, none⟩) HH1.out.lt).trans c1
      go_simp
    · refine ksP (fun _ h => h.elim) (by omega) (.cons (c := 19) (by kernel_rfl) (.one (by kernel_rfl))) (by rfl) fun L u W gh hc => ?_
      have hb := hc.before (.inr (.cons (c := 19) (by kernel_rfl) (.one (by kernel_rfl))))
      go_simp
    · refine ksM (fun _ h => h.elim) (by omega) (.cons (c := 18) (by kernel_rfl) (.cons (c := 13) (by kernel_rfl) (.one (by kernel_rfl)))) fun L u W gh hc => ?_
      have hb := hc.before (.inr (.cons (c := 18) (by kernel_rfl) (.cons (c := 13) (by kernel_rfl) (.one (by kernel_rfl)))))
      exact ⟨_, _, fun x => x = W.heap.size, run_new0 elR rfl, (Fr.refl _ _).alloc _, ⟨own_new (xs := []) (by rfl) (by unfold maxLen; omega), fun x hx => by cases hx; rfl⟩, fun x e => (by cases e), fun x hx => .inr (Nat.le_of_eq hx.symm), fun x hx => by subst hx; simp⟩
    · refine ksP (fun _ h => h.elim) (by omega) (.cons (c := 18) (by kernel_rfl) (.cons (c := 13) (by kernel_rfl) (.cons (c := 12) (by kernel_rfl) (.cons (c := 11) (by kernel_rfl) (.cons (c := 9) (by kernel_rfl) (.cons (c := 8) (by kernel_rfl) (.cons (c := 7) (by kernel_rfl) (.one (by kernel_rfl))))))))) (by rfl) fun L u W gh hc => ?_
      have hb := hc.before (.inr (.cons (c := 18) (by kernel_rfl) (.cons (c := 13) (by kernel_rfl) (.cons (c := 12) (by kernel_rfl) (.cons (c := 11) (by kernel_rfl) (.cons (c := 9) (by kernel_rfl) (.cons (c := 8) (by kernel_rfl) (.cons (c := 7) (by kernel_rfl) (.one (by kernel_rfl))))))))))
      go_simp
    · refine ksP (fun _ h => h.elim) (by omega) (.cons (c := 18) (by kernel_rfl) (.cons (c := 13) (by kernel_rfl) (.cons (c := 12) (by kernel_rfl) (.cons (c := 11) (by kernel_rfl) (.cons (c := 9) (by kernel_rfl) (.cons (c := 8) (by kernel_rfl) (.one (by kernel_rfl)))))))) (by rfl) fun L u W gh hc => ?_
      have e6 : u 6 = .pointer (some ⟨g, 0, none⟩) := hc.val 6 (by kernel_rfl) (by omega) _ rfl
      have hb := hc.before (.inr (.cons (c := 18) (by kernel_rfl) (.cons (c := 13) (by kernel_rfl) (.cons (c := 12) (by kernel_rfl) (.cons (c := 11) (by kernel_rfl) (.cons (c := 9) (by kernel_rfl) (.cons (c := 8) (by kernel_rfl) (.one (by kernel_rfl)))))))))
      go_simp
    · refine ksP (fun _ h => h.elim) (by omega) (.cons (c := 18) (by kernel_rfl) (.cons (c := 13) (by kernel_rfl) (.cons (c := 12) (by kernel_rfl) (.cons (c := 11) (by kernel_rfl) (.cons (c := 9) (by kernel_rfl) (.one (by kernel_rfl))))))) (by rfl) fun L u W gh hc => ?_
      have e7 : u 7 = .pointer (some ⟨g, 0, none⟩) := hc.val 7 (by kernel_rfl) (by omega) _ rfl
      have hb := hc.before (.inr (.cons (c := 18) (by kernel_rfl) (.cons (c := 13) (by kernel_rfl) (.cons (c := 12) (by kernel_rfl) (.cons (c := 11) (by kernel_rfl) (.cons (c := 9) (by kernel_rfl) (.one (by kernel_rfl))))))))
      go_simp
    · refine ksP (fun _ h => h.elim) (by omega) (.cons (c := 18) (by kernel_rfl) (.cons (c := 13) (by kernel_rfl) (.cons (c := 12) (by kernel_rfl) (.cons (c := 11) (by kernel_rfl) (.one (by kernel_rfl)))))) (by rfl) fun L u W gh hc => ?_
      have e8 : u 8 = .pointer (some ⟨g, 1, none⟩) := hc.val 8 (by kernel_rfl) (by omega) _ rfl
      have hb := hc.before (.inr (.cons (c := 18) (by kernel_rfl) (.cons (c := 13) (by kernel_rfl) (.cons (c := 12) (by kernel_rfl) (.cons (c := 11) (by kernel_rfl) (.one (by kernel_rfl)))))))
      have hc2 := (hb.cell (p := ⟨g, 1, none⟩) HH1.out.lt).trans c1
      go_simp
    · refine ksP (fun _ h => h.elim) (by omega) (.cons (c := 18) (by kernel_rfl) (.cons (c := 13) (by kernel_rfl) (.cons (c := 12) (by kernel_rfl) (.cons (c := 11) (by kernel_rfl) (.one (by kernel_rfl)))))) (by rfl) fun L u W gh hc => ?_
      have hb := hc.before (.inr (.cons (c := 18) (by kernel_rfl) (.cons (c := 13) (by kernel_rfl) (.cons (c := 12) (by kernel_rfl) (.cons (c := 11) (by kernel_rfl) (.one (by kernel_rfl)))))))
      go_simp
    · refine ksP (fun _ h => h.elim) (by omega) (.cons (c := 18) (by kernel_rfl) (.cons (c := 13) (by kernel_rfl) (.cons (c := 12) (by kernel_rfl) (.one (by kernel_rfl))))) (by rfl) fun L u W gh hc => ?_
      have e9 : u 9 = .slice (some ⟨gw, 0, none⟩) d.good.length cw := hc.val 9 (by kernel_rfl) (by omega) _ rfl
      have e10 : u 10 = .int .i64 (k : Int) := hc.val 10 (by kernel_rfl) (by omega) _ rfl
      have hb := hc.before (.inr (.cons (c := 18) (by kernel_rfl) (.cons (c := 13) (by kernel_rfl) (.cons (c := 12) (by kernel_rfl) (.one (by kernel_rfl))))))
      go_simp
      try rw [if_pos (by omega)]
    · refine ksP (fun _ h => h.elim) (by omega) (.cons (c := 18) (by kernel_rfl) (.cons (c := 13) (by kernel_rfl) (.one (by kernel_rfl)))) (by rfl) fun L u W gh hc => ?_
      have e11 : u 11 = .pointer (some ⟨gw, k, none⟩) := hc.val 11 (by kernel_rfl) (by omega) _ rfl
      have hb := hc.before (.inr (.cons (c := 18) (by kernel_rfl) (.cons (c := 13) (by kernel_rfl) (.one (by kernel_rfl)))))
      have hc2 := (hb.cell (p := ⟨gw, k, none⟩) HA4.out.lt).trans cwk
      go_simp
    · refine ksM (fun _ h => h.elim) (by omega) (.cons (c := 18) (by kernel_rfl) (.one (by kernel_rfl))) fun L u W gh hc => ?_
      have t5 := hc.fact 5 (by kernel_rfl) (by omega) (fun t ht => by cases ht; exact hc.free _ (.inl rfl))
      have f5 := hc.foot 5 (by kernel_rfl) (by omega) (fun t ht => by cases ht; exact hc.free _ (.inl rfl))
      have e12 : u 12 = .slice a (d.pend k).length c := hc.val 12 (by kernel_rfl) (by omega) _ rfl
      have hb := hc.before (.inr (.cons (c := 18) (by kernel_rfl) (.one (by kernel_rfl))))
      obtain ⟨v', w', hrun, hf, hP, hS, hlt⟩ := app_res elR t5 (news := ys) (by rw [HR4.out]; omega) HR1.out (fun j z hz => by obtain ⟨b, q, e, _, hcc⟩ := HR5.out j z hz; exact ⟨_, e, by rw [Addr.add_mid, hb.cell (p := ⟨b, q + j, none⟩) (cell_lt hcc)]; exact hcc⟩) HY1.out (by have := HPL.out; unfold maxLen; omega) (by have := HPL.out; omega)
      exact ⟨v', w', fun x => v'.ownBlock = some x, hrun _ _ _ _ rfl rfl (by exact rfl) (by exact e12), hf.mono (fun x hx => .inl ⟨5, by kernel_rfl, by omega, rfl, t5.2 x hx⟩), hP, fun x e => (by cases e), fun x hx => (hS x hx).imp (fun h => ⟨5, by kernel_rfl, by omega, rfl, t5.2 x h⟩) id, hlt⟩
    · refine ksM (fun _ h => h.elim) (by omega) (.cons (c := 18) (by kernel_rfl) (.cons (c := 17) (by kernel_rfl) (.cons (c := 16) (by kernel_rfl) (.one (by kernel_rfl))))) fun L u W gh hc => ?_
      have hb := hc.before (.inr (.cons (c := 18) (by kernel_rfl) (.cons (c := 17) (by kernel_rfl) (.cons (c := 16) (by kernel_rfl) (.one (by kernel_rfl))))))
      exact ⟨_, _, fun x => x = W.heap.size, run_new0 elB rfl, (Fr.refl _ _).alloc _, ⟨own_new (xs := []) (by rfl) (by unfold maxLen; omega), fun x hx => by cases hx; rfl⟩, fun x e => (by cases e), fun x hx => .inr (Nat.le_of_eq hx.symm), fun x hx => by subst hx; simp⟩
    · refine ksP (fun _ h => h.elim) (by omega) (.cons (c := 18) (by kernel_rfl) (.cons (c := 17) (by kernel_rfl) (.cons (c := 16) (by kernel_rfl) (.one (by kernel_rfl))))) (by rfl) fun L u W gh hc => ?_
      have hb := hc.before (.inr (.cons (c := 18) (by kernel_rfl) (.cons (c := 17) (by kernel_rfl) (.cons (c := 16) (by kernel_rfl) (.one (by kernel_rfl))))))
      go_simp
    · refine ksM (fun _ h => h.elim) (by omega) (.cons (c := 18) (by kernel_rfl) (.cons (c := 17) (by kernel_rfl) (.one (by kernel_rfl)))) fun L u W gh hc => ?_
      have t14 := hc.fact 14 (by kernel_rfl) (by omega) (fun t ht => by cases ht; exact hc.free _ (.inl rfl))
      have f14 := hc.foot 14 (by kernel_rfl) (by omega) (fun t ht => by cases ht; exact hc.free _ (.inl rfl))
      have e15 : u 15 = .slice (some ⟨bb, qq, none⟩) 64 cap := hc.val 15 (by kernel_rfl) (by omega) _ rfl
      have hb := hc.before (.inr (.cons (c := 18) (by kernel_rfl) (.cons (c := 17) (by kernel_rfl) (.one (by kernel_rfl)))))
      have hnw := RdB.news (HBR.out.below hb)
      obtain ⟨v', w', hrun, hf, hP, hS, hlt⟩ := app_res elB t14 hnw.1 hnw.2.1 hnw.2.2 (bytes_one x) (by unfold maxLen; omega) (by omega)
      exact ⟨v', w', fun x => v'.ownBlock = some x, hrun _ _ _ _ rfl rfl (by exact rfl) (by exact e15), hf.mono (fun x hx => .inl ⟨14, by kernel_rfl, by omega, rfl, t14.2 x hx⟩), (by rw [HXL.out]; simpa using hP), fun x e => (by cases e), fun x hx => (hS x hx).imp (fun h => ⟨14, by kernel_rfl, by omega, rfl, t14.2 x h⟩) id, hlt⟩
    · refine ksM (fun _ h => h.elim) (by omega) (.cons (c := 18) (by kernel_rfl) (.one (by kernel_rfl))) fun L u W gh hc => ?_
      have t16 := hc.fact 16 (by kernel_rfl) (by omega) (fun t ht => by cases ht; exact hc.free _ (.inl rfl))
      have f16 := hc.foot 16 (by kernel_rfl) (by omega) (fun t ht => by cases ht; exact hc.free _ (.inl rfl))
      have hb := hc.before (.inr (.cons (c := 18) (by kernel_rfl) (.one (by kernel_rfl))))
      obtain ⟨a1, a2⟩ := t16
      obtain ⟨a, c, e5, _⟩ := own_isSlice a1
      have ha := (Fr.refl (fun _ => False) W).alloc (.cells #[u 16] 26)
      refine ⟨_, _, fun x => gh 16 x ∨ x = W.heap.size, run_new1 (v := u 16) elR rfl rfl (by rw [e5]; rfl) (by rw [e5]; rfl), (Fr.refl _ _).alloc _, ⟨u 16, own_new (xs := [u 16]) (by rfl) (by unfold maxLen; omega), fun x hx => (by cases hx; exact .inr rfl), own_frame a1 ha (fun _ _ h => h), fun x hx => .inl (a2 x hx), fun x hx e => ?_⟩, fun x e => (by cases e), fun x hx => ?_, fun x hx => ?_⟩
      · have e2 : W.heap.size = x := Option.some.inj hx
        have := own_ptr a1 _ e; omega
      · rcases hx with h | h
        · exact .inl ⟨16, by kernel_rfl, by omega, rfl, h⟩
        · exact .inr (Nat.le_of_eq h.symm)
      · rcases hx with h | rfl
        · have := (f16 x h).2; simp; omega
        · simp
    · refine ksM (fun _ h => h.elim) (by omega) (.one (by kernel_rfl)) fun L u W gh hc => ?_
      have t13 := hc.fact 13 (by kernel_rfl) (by omega) (fun t ht => by cases ht; exact hc.free _ (.inl rfl))
      have f13 := hc.foot 13 (by kernel_rfl) (by omega) (fun t ht => by cases ht; exact hc.free _ (.inl rfl))
      have t17 := hc.fact 17 (by kernel_rfl) (by omega) (fun t ht => by cases ht; exact hc.free _ (.inl rfl))
      have f17 := hc.foot 17 (by kernel_rfl) (by omega) (fun t ht => by cases ht; exact hc.free _ (.inl rfl))
      have hb := hc.before (.inr (.one (by kernel_rfl)))
      obtain ⟨y, a1, a2, a3, a4, a5⟩ := t17
      obtain ⟨q, c9, e6, hcq⟩ := one_own a1
      obtain ⟨ya, yc, ey, _⟩ := own_isSlice a3
      obtain ⟨v', w', hrun, ho, hf, hv⟩ := run_app elR (w := W) (a := some ⟨q, 0, none⟩) (m := 1) (c := c9) t13.1 (news := [y]) (by rfl) (fun e => by cases e) (fun j z hz => by
        cases j with
        | zero => simp at hz; subst hz; exact ⟨_, rfl, by rw [Addr.add_mid]; exact hcq⟩
        | succ j => simp at hz) (fun z hz => by simp at hz; subst hz; rw [ey]; rfl) (by have := HPL.out; unfold maxLen; omega) (by have := HPL.out; omega)
      have hfoot : ∀ x, gh 17 x → w1.heap.size ≤ x ∧ x < W.heap.size := fun x hx => ⟨(by rcases (f17 x hx).1 with h | ⟨h, _⟩; exact h; exact h.elim), (f17 x hx).2⟩
      have h13 : ∀ x, (u 13).ownBlock = some x → gh 13 x := t13.2
      have hap : ∀ x, gh 13 x → gh 17 x → False := fun x => hc.apart 13 17 x (by kernel_rfl) (by kernel_rfl) (by omega) (by omega) (by omega) (fun t ht => by cases ht; exact hc.free _ (.inl rfl)) (fun t ht => by cases ht; exact hc.free _ (.inl rfl))
      refine ⟨v', w', fun x => v'.ownBlock = some x ∨ gh 17 x, hrun _ _ _ _ rfl rfl (by rfl) (by exact e6), hf.mono (fun x hx => .inl ⟨13, by kernel_rfl, by omega, rfl, h13 x hx⟩), ⟨y, ?_, fun x hx => .inl hx, own_frame a3 hf (fun x hx e => hap x (h13 x e) (a4 x hx)), fun x hx => ⟨.inr (a4 x hx), (hfoot x (a4 x hx)).1⟩, fun x hx e => ?_⟩, fun x e => (by cases e), fun x hx => ?_, fun x hx => ?_⟩
      · rw [HR4.out]; simpa using ho
      · have h2 := hfoot x (a4 x e)
        rcases (hv x hx).1 with h | h
        · exact hap x (h13 x h) (a4 x e)
        · omega
      · rcases hx with h | h
        · rcases (hv x h).1 with h | h
          · exact .inl ⟨13, by kernel_rfl, by omega, rfl, h13 x h⟩
          · exact .inr (Nat.le_of_eq h.symm)
        · exact .inl ⟨17, by kernel_rfl, by omega, rfl, h⟩
      · rcases hx with h | h
        · exact (hv x h).2
        · exact Nat.lt_of_lt_of_le (hfoot x h).2 hf.size
    · refine ksP (fun _ h => h.elim) (by omega) (.one (by kernel_rfl)) (by rfl) fun L u W gh hc => ?_
      have e3 : u 3 = .slice (some ⟨gw, 0, none⟩) d.good.length cw := hc.val 3 (by kernel_rfl) (by omega) _ rfl
      have e4 : u 4 = .int .i64 (k : Int) := hc.val 4 (by kernel_rfl) (by omega) _ rfl
      have hb := hc.before (.inr (.one (by kernel_rfl)))
      go_simp
      try rw [if_pos (by omega)]
    · refine ksL fun L u W gh hc => ?_
      have e19 : u 19 = .pointer (some ⟨gw, k, none⟩) := hc.val 19 (by kernel_rfl) (by omega) _ rfl
      have t18 := hc.fact 18 (by kernel_rfl) (by omega) (fun t ht => by cases ht)
      have f18 := hc.foot 18 (by kernel_rfl) (by omega) (fun t ht => by cases ht)
      have hb := hc.before (.inl rfl)
      obtain ⟨y, a1, a2, a3, a4, a5⟩ := t18
      have hBW := (HA4.out).below (hc.old (hc.free 20 (.inl rfl))) HA4.out.lt
      have hfs : Fr (fun x => x = gw) W (W.setCell ⟨gw, k, none⟩ (u 18)) := (Fr.refl _ _).one _
      obtain ⟨va, vc, ev, _⟩ := own_isSlice a1
      have hfo : ∀ x, gh 18 x → w1.heap.size ≤ x := fun x hx => by rcases (f18 x hx).1 with h | ⟨h, _⟩; exact h; exact h.elim
      have hng : ∀ x, gh 18 x → x ≠ gw := fun x hx => by have := hfo x hx; have := HA4.out.lt; omega
      have hcw : W.cell? ⟨gw, k, none⟩ = some (.slice a (d.pend k).length c) := ((hc.old (hc.free 20 (.inl rfl))).cell (p := ⟨gw, k, none⟩) HA4.out.lt).trans cwk
      refine ⟨_, _, _, run_store1 rfl (by exact e19) (by rfl) hcw (hBW.frozen k) (by rw [ev]; rfl) Try.sizeOf30, .inl ⟨rfl, rfl⟩, u 18, y, ?_, fun x hx => hfo x (a2 x hx), own_frame a3 hfs (fun x hx e => hng x (a4 x hx).1 e), fun x hx => (a4 x hx).2, ?_, (hc.fr.mono (F' := fun x => x = gw) (fun x hx => hx.elim)).trans hfs (fun x hx => .inl hx)⟩
      · exact own_frame a1 hfs (fun x hx e => hng x (a2 x hx) e)
      · have hset := hBW.set k (u 18)
        rw [List.set_append_left _ _ hkl] at hset
        exact hset
  obtain ⟨v, y, p1, p2, p3, p4, p5, p6⟩ := hP
  have HM : Hid (∃ S', Md W6 g (d.begin.put k x) F S' ∧ Fr F w W6 ∧ (∀ y, S' y → S y ∨ w.heap.size ≤ y)) := Lib.hid (by
    have hx := HXP.out
    have hgwS : ∀ q, S q → ¬ (q = gw) := fun q hq e => hd q hq ((hx q).2 (.inr (.inr e)))
    have hs1 := HF1.out.size
    refine ⟨fun q => S q ∨ (w1.heap.size ≤ q ∧ q < W6.heap.size), ⟨Bd.put_ok (Bd.begin_ok HD.out.ok) (by exact HK.out) HXL.out (by have := HD.out.ok.cnt k; exact Nat.lt_succ_of_le this), gg, cg, gw, cw, l, ?_, h2, h3, gv, rg, wv.set k v, rw', p6.blk a1 n3, a2, ?_, p5, by rw [List.length_set]; exact a5, ?_, a7, a8, a9, a10, n1, n2, n3, hx, ?_, ?_⟩, ?_, ?_⟩
    · exact p6.blk HH1.out (fun e => n2 e)
    · intro j z r hz hr
      exact ((a3 j z r hz hr).frame p6 hgwS).mono (fun q h => .inl h)
    · intro j z hz
      rw [List.getElem?_set] at hz
      show RowsS _ W6 z (if j = k then d.pend k ++ [x] else d.pend j)
      by_cases e : k = j
      · subst e
        rw [if_pos rfl, if_pos hkl] at hz
        cases hz
        rw [if_pos rfl]
        exact rows_more r4 r6 p6 hgwS p1 p2 p3 p4
      · rw [if_neg e] at hz
        rw [if_neg (fun h => e h.symm)]
        exact ((a6 j z hz).frame p6 hgwS).mono (fun q h => .inl h)
    · rintro q (h | h)
      · exact hd q h
      · intro hq
        have b1 := h1.lt; have b2 := a1.lt; have b3 := a4.lt
        rcases (hx q).1 hq with rfl | rfl | rfl <;> omega
    · rintro q (h | h)
      · exact Nat.lt_of_lt_of_le (hsl q h) p6.size
      · exact h.2
    · exact (HF1.out.mono (fun q hq => .inl (by cases hq; exact hgF))).trans (p6.mono (fun q hq => .inl ((hx q).2 (.inr (.inr hq))))) (fun q hq => .inl hq)
    · rintro q (h | h)
      · exact .inl h
      · exact .inr (by omega))
  clear p1 p2 p3 p4 p5 p6 h1 a4 r1 r2 r3 r4 r5 r6 a1 a2 a3 a5 a6 hd hsl hbr c1 cwk
  go_wp2
  go_ret
  exact ⟨rfl, HM.out⟩
end Go.Proofs.Ytgehbchaamilhaa
namespace Go.Proofs.Ytgehbchaamilhaa
open Go Go.RowKit Go.Maps
set_option maxRecDepth 100000 in
set_option maxHeartbeats 1000000 in
theorem dWrite_arg {w : World} {g n cap : Nat} {k : Int} {a : Option Addr} {d : Bd} {F S : Nat → Prop} (h : Md w g d F S) (hk : k < 0 ∨ (d.good.length : Int) ≤ k ∨ n ≠ 64) :
    Calls Try.prog 32 #[.pointer (some ⟨g, 0, none⟩), .int .i64 k, .slice a n cap] w fun e w' => e = .returned (.int .i64 1) ∧ w = w' := by
  have c00 : ∃ gg cg, w.cell? ⟨g, 0, none⟩ = some (.slice (some ⟨gg, 0, none⟩) d.good.length cg) := by
    obtain ⟨gg, cg, gw, cw, l, h1, _⟩ := h.ex
    exact ⟨gg, cg, h1.cell 0⟩
  obtain ⟨gg0, cg0, c00⟩ := c00
  by_cases h1 : k < 0
  · have a1 : decide (k < 0) = true := decide_eq_true h1
    clear h hk h1
    go_enter Try.func32, Try.ntmps32
    go_wp2
    go_ret
    exact ⟨rfl, rfl⟩
  · have a1 : decide (k < 0) = false := decide_eq_false h1
    by_cases h2 : (d.good.length : Int) ≤ k
    · have a2 : decide ((d.good.length : Int) ≤ k) = true := decide_eq_true h2
      clear h hk h1 h2
      go_enter Try.func32, Try.ntmps32
      go_wp2
      go_ret
      exact ⟨rfl, rfl⟩
    · have a2 : decide ((d.good.length : Int) ≤ k) = false := decide_eq_false h2
      have a3 : ((n : Int) != 64) = true := by simp; omega
      clear h hk h1 h2
      go_enter Try.func32, Try.ntmps32
      go_wp2
      go_ret
      exact ⟨rfl, rfl⟩
set_option maxRecDepth 100000 in
set_option maxHeartbeats 1000000 in
theorem dWrite_off {w : World} {g k cap : Nat} {a : Option Addr} {d : Bd} {F S : Nat → Prop} (h : Md w g d F S) (hk : k < d.good.length) (ho : d.ops < 1000000) (hl : d.left ≤ 9223372036854775807) (hoff : d.offN = true) :
    Calls Try.prog 32 #[.pointer (some ⟨g, 0, none⟩), .int .i64 (k : Int), .slice a 64 cap] w fun e w' => e = .returned (.int .i64 10) ∧ Md w' g d.begin F S ∧ Fr F w w' := by
  have HD := Lib.hid h
  have HO := Lib.hid ho; have HL := Lib.hid hl
  have k0 : decide ((k : Int) < 0) = false := decide_eq_false (by omega)
  have k1 : decide ((d.good.length : Int) ≤ (k : Int)) = false := decide_eq_false (by omega)
  have k2 : decide (d.good.length ≤ k) = false := decide_eq_false (by omega)
  have HOF := Lib.hid hoff
  have HG : Hid (F g) := Lib.hid (by obtain ⟨gg, cg, gw, cw, l, _, _, _, hR⟩ := h.ex; exact hR.own.1)
  have c00 : ∃ gg cg, w.cell? ⟨g, 0, none⟩ = some (.slice (some ⟨gg, 0, none⟩) d.good.length cg) := by
    obtain ⟨gg, cg, gw, cw, l, h1, _⟩ := h.ex
    exact ⟨gg, cg, h1.cell 0⟩
  obtain ⟨gg0, cg0, c00⟩ := c00
  clear h hk ho hl hoff
  go_enter Try.func32, Try.ntmps32
  go_wp2_with (go_at_call 41; (with_reducible refine (dOp_any HD.out HO.out HL.out).mono ?_); rintro e w1 ⟨rfl, hD1, hf1⟩; rw [HOF.out])
  go_ret
  exact ⟨rfl, hD1, hf1.mono (fun y hy => .inl (by cases hy; exact HG.out))⟩
/-- Write. -/
theorem dWrite_any {w : World} {g n cap : Nat} {k : Int} {a : Option Addr} {x : List UInt8} {d : Bd} {F S : Nat → Prop} (h : Md w g d F S) (hN : d.good.length ≤ 100000) (ho : d.ops < 1000000) (hl : d.left ≤ 9223372036854775807)
    (hb : RdB w a n cap x) (hbF : ∀ p, a = some p → ¬ F p.block) :
    Calls Try.prog 32 #[.pointer (some ⟨g, 0, none⟩), .int .i64 k, .slice a n cap] w fun e w' => e = .returned (.int .i64 (d.writeC k x)) ∧ ∃ S', Md w' g (d.write k x) F S' ∧ Fr F w w' ∧ (∀ y, S' y → S y ∨ w.heap.size ≤ y) := by
  have hlen := hb.hlen
  by_cases hk : k < 0 ∨ (d.good.length : Int) ≤ k ∨ n ≠ 64
  · have hc : k < 0 ∨ (d.good.length : Int) ≤ k ∨ x.length ≠ 64 := by rw [hlen]; exact hk
    refine (dWrite_arg h hk).mono ?_
    rintro e w' ⟨rfl, rfl⟩
    unfold Bd.writeC Bd.write
    rw [if_pos hc, if_pos hc]
    exact ⟨rfl, S, h, Fr.refl _ _, fun y hy => .inl hy⟩
  · have hc : ¬ (k < 0 ∨ (d.good.length : Int) ≤ k ∨ x.length ≠ 64) := by rw [hlen]; exact hk
    unfold Bd.writeC Bd.write
    rw [if_neg hc, if_neg hc]
    obtain ⟨j, rfl⟩ : ∃ j : Nat, k = j := ⟨k.toNat, by omega⟩
    obtain rfl : n = 64 := by omega
    obtain ⟨bb, qq, rfl, _⟩ := hb.get 0 (by omega)
    by_cases hof : d.offN = true
    · rw [hof]
      exact (dWrite_off h (by omega) ho hl hof).mono fun e w' ⟨he, hD, hf⟩ => ⟨he, S, hD, hf, fun y hy => .inl hy⟩
    · have hof : d.offN = false := by simpa using hof
      rw [hof]
      exact dWrite_ok h (by omega) hN ho hl hof hb (hbF _ rfl)
/-- In the midst of a flush: the first j blocks are done. -/
def Bd.flI (d : Bd) (j : Nat) : Bd := { d with good := (List.range d.good.length).map (fun i => if i < j then d.last i else d.good.getD i []), pend := fun i => if i < j then [] else d.pend i }
theorem Bd.flI_len (d : Bd) (j : Nat) : (d.flI j).good.length = d.good.length := by simp [Bd.flI]
theorem Bd.flI_get {d : Bd} {i j : Nat} (h : i < d.good.length) : (d.flI j).good[i]? = some (if i < j then d.last i else d.good.getD i []) := by
  unfold Bd.flI; simp only; rw [List.getElem?_map, List.getElem?_range h]; rfl
theorem Bd.flI_ok {d : Bd} (h : d.Ok) (j : Nat) : (d.flI j).Ok := by
  refine ⟨fun r hr => ?_, fun k r hr => ?_, fun k hk => ?_, h.left, fun k => ?_⟩
  · unfold Bd.flI at hr
    simp only [List.mem_map, List.mem_range] at hr
    obtain ⟨i, hi, rfl⟩ := hr
    split
    · exact Bd.at_len h hi (Nat.le_refl _)
    · exact Bd.at_len (n := 0) h hi (Nat.zero_le _)
  · unfold Bd.flI at hr
    simp only at hr
    split at hr
    · simp at hr
    · exact h.pend k r hr
  · rw [Bd.flI_len] at hk
    unfold Bd.flI; simp only
    split
    · rfl
    · exact h.few k hk
  · unfold Bd.flI; simp only
    split
    · exact Nat.zero_le _
    · exact h.cnt k
theorem Bd.flI_zero (d : Bd) : d.flI 0 = d := by
  have e1 : (List.range d.good.length).map (fun i => if i < 0 then d.last i else d.good.getD i []) = d.good := by
    apply List.ext_getElem?
    intro k
    rcases Nat.lt_or_ge k d.good.length with hk | hk
    · rw [List.getElem?_map, List.getElem?_range hk, List.getElem?_eq_getElem hk]; simp [hk]
    · rw [List.getElem?_eq_none (by simpa using hk), List.getElem?_eq_none hk]
  have e2 : (fun i => if i < 0 then [] else d.pend i) = d.pend := by funext i; simp
  unfold Bd.flI
  rw [e1, e2]
theorem Bd.flI_end {d : Bd} (h : d.Ok) : d.flI d.good.length = d.flushed := by
  have e1 : (List.range d.good.length).map (fun i => if i < d.good.length then d.last i else d.good.getD i []) = (List.range d.good.length).map d.last := by
    apply List.map_congr_left
    intro i hi
    rw [if_pos (List.mem_range.1 hi)]
  have e2 : (fun i => if i < d.good.length then [] else d.pend i) = fun _ => [] := by
    funext i
    split
    · rfl
    · rename_i hi; exact h.few i (by omega)
  unfold Bd.flI Bd.flushed
  rw [e1, e2]
theorem Bd.flI_last {d : Bd} {j : Nat} (hj : j < d.good.length) : (d.flI j).at j ((d.flI j).pend j).length = d.last j := by
  have e1 : (d.flI j).pend j = d.pend j := by unfold Bd.flI; simp
  have e2 : (d.flI j).good.getD j [] = d.good.getD j [] := by rw [List.getD_eq_getElem?_getD, Bd.flI_get hj]; simp
  unfold Bd.last Bd.at
  rw [e1, e2]
theorem Bd.flI_step {d : Bd} {j : Nat} (hj : j < d.good.length) : (d.flI (j + 1)).good = (d.flI j).good.set j (d.last j) ∧ ∀ i, (d.flI (j + 1)).pend i = if i = j then [] else (d.flI j).pend i := by
  constructor
  · apply List.ext_getElem?
    intro i
    rcases Nat.lt_or_ge i d.good.length with hi | hi
    · rw [Bd.flI_get hi, List.getElem?_set]
      by_cases e : j = i
      · subst e
        rw [if_pos (by omega), if_pos rfl, if_pos (by rw [Bd.flI_len]; exact hj)]
      · rw [if_neg e, Bd.flI_get hi]
        by_cases h1 : i < j
        · rw [if_pos (by omega), if_pos h1]
        · rw [if_neg (by omega), if_neg h1]
    · rw [List.getElem?_eq_none (by rw [Bd.flI_len]; exact hi), List.getElem?_eq_none (by rw [List.length_set, Bd.flI_len]; exact hi)]
  · intro i
    unfold Bd.flI; simp only
    by_cases e : i = j
    · rw [if_pos (by omega), if_pos e]
    · rw [if_neg e]
      by_cases h1 : i < j
      · rw [if_pos (by omega), if_pos h1]
      · rw [if_neg (by omega), if_neg h1]
/-- Reads as l, in blocks of S. -/
def rdW (S : Nat → Prop) (l : List UInt8) : WP := ⟨fun v w => RdS S w v l, fun _ _ _ ⟨a, n, c, e, h, hs⟩ hb => ⟨a, n, c, e, h.below hb, hs⟩⟩
set_option maxRecDepth 100000 in
set_option maxHeartbeats 2000000 in
theorem dFlush_on {w : World} {g : Nat} {d : Bd} {F S : Nat → Prop} (h : Md w g d F S) (hN : d.good.length ≤ 100000) (ho : d.ops < 1000000) (hl : d.left ≤ 9223372036854775807) (hoff : d.offN = false) :
    Calls Try.prog 33 #[.pointer (some ⟨g, 0, none⟩)] w fun e w' => e = .returned (.int .i64 0) ∧ Md w' g d.begin.flushed F S ∧ Fr F w w' := by
  have HD := Lib.hid h
  have HN := Lib.hid hN; have HO := Lib.hid ho; have HL := Lib.hid hl
  have HOF := Lib.hid hoff
  have HG : Hid (F g) := Lib.hid (by obtain ⟨gg, cg, gw, cw, l, _, _, _, hR⟩ := h.ex; exact hR.own.1)
  clear h hN ho hl hoff
  go_enter Try.func33, Try.ntmps33
  go_wp2_with (go_at_call 41; (with_reducible refine (dOp_any HD.out HO.out HL.out).mono ?_); rintro e w1 ⟨rfl, hD1, hf1⟩; rw [HOF.out])
  have HOK : Hid d.begin.Ok := Lib.hid hD1.ok
  have HGL : Hid (d.begin.good.length = d.good.length) := Lib.hid rfl
  have HM1 := Lib.hid hD1; have HF1 := Lib.hid (hf1.mono (F' := F) (fun y hy => .inl (by cases hy; exact HG.out)))
  clear hD1 hf1
  obtain ⟨D, hD⟩ : ∃ D, D = d.begin := ⟨_, rfl⟩
  rw [← hD] at HM1 HOK HGL
  have HDD := Lib.hid hD
  clear hD
  go_loopw [3] (fun iv wr => ∃ j : Nat, j ≤ D.good.length ∧ iv = .int .i64 j ∧ Md wr g (D.flI j) F S ∧ Fr F w wr) (fun iv _ => D.good.length - (intOf iv).toNat)
  case atStart => exact ⟨0, Nat.zero_le _, rfl, by rw [Bd.flI_zero]; exact HM1.out, HF1.out⟩
  case round =>
    obtain ⟨j, hj, rfl, hM, hfr⟩ := hrel
    have HM := Lib.hid hM; have HFR := Lib.hid hfr
    obtain ⟨gg, cg, gw, cw, l, h1, h2, h3, hR⟩ := hM.ex
    have c0 : wr.cell? ⟨g, 0, none⟩ = some (.slice (some ⟨gg, 0, none⟩) D.good.length cg) := by have := h1.cell 0; rw [show (mdS gg cg gw cw (D.flI j) l)[0]? = some (.slice (some ⟨gg, 0, none⟩) (D.flI j).good.length cg) from rfl, Bd.flI_len] at this; exact this
    have c1 : wr.cell? ⟨g, 1, none⟩ = some (.slice (some ⟨gw, 0, none⟩) D.good.length cw) := by have := h1.cell 1; rw [show (mdS gg cg gw cw (D.flI j) l)[1]? = some (.slice (some ⟨gw, 0, none⟩) (D.flI j).good.length cw) from rfl, Bd.flI_len] at this; exact this
    have hj8 : (j : Int) ≤ 100000 := by have := HN.out; have := HGL.out; omega
    have hj0 : (0 : Int) ≤ (j : Int) := by omega
    have hjw : IntKind.i64.wrap ((j : Int) + 1) = ((j + 1 : Nat) : Int) := by rw [IntKind.wrap_i64]; omega
    by_cases hlt : j < D.good.length
    · have hj1 : (j : Int) < (D.good.length : Int) := by omega
      obtain ⟨v0, y0, cv, hv, cy, hy⟩ := hR.cells (k := j) (by rw [Bd.flI_len]; exact hlt)
      obtain ⟨gv, rg, wv, rw', a1, a2, a3, a4, a5, a6, a7, a8, a9, a10, n1, n2, n3, hx, hd, hsl⟩ := hR.ex
      obtain ⟨a, c, rfl, _⟩ := hy
      have HH1 := Lib.hid h1; have HA1 := Lib.hid a1; have HA4 := Lib.hid a4
      have HJ : Hid (j < (D.flI j).good.length) := Lib.hid (by rw [Bd.flI_len]; exact hlt)
      have HNL : Hid ((D.flI j).good.length ≤ 100000) := Lib.hid (by rw [Bd.flI_len]; have := HN.out; have := HGL.out; omega)
      have HLA := Lib.hid (Bd.flI_last hlt)
      have HJG : Hid (j < gv.length) := Lib.hid (by rw [a2, Bd.flI_len]; exact hlt)
      have HJW : Hid (j < wv.length) := Lib.hid (by rw [a5, Bd.flI_len]; exact hlt)
      have HLT := Lib.hid hlt
      clear hM hfr hv hlt
      go_upto_region 6 with fail
      refine rgK 17 [(16, 0), (0, 1), (0, 2), (0, 3), (0, 4), (0, 5), (0, 6), (0, 7), (0, 8), (0, 9), (0, 10), (0, 11), (0, 12), (0, 13), (0, 14), (0, 15), (0, 16)] [kn (.pointer (some ⟨g, 0, none⟩)), kn (.pointer (some ⟨g, 0, none⟩)), kn (.pointer (some ⟨g, 0, none⟩)), kn (.slice (some ⟨gg, 0, none⟩) D.good.length cg), kn (.int .i64 (j : Int)), kn (.pointer (some ⟨g, 0, none⟩)), kn (.int .i64 (j : Int)), kn (.pointer (some ⟨g, 0, none⟩)), kn (.pointer (some ⟨g, 0, none⟩)), kn (.pointer (some ⟨g, 1, none⟩)), kn (.slice (some ⟨gw, 0, none⟩) D.good.length cw), kn (.int .i64 (j : Int)), kn (.pointer (some ⟨gw, j, none⟩)), kn (.slice a ((D.flI j).pend j).length c), kn (.int .i64 (((D.flI j).pend j).length : Int)), (rdW S (D.last j)), kn (.pointer (some ⟨gg, j, none⟩))] (fun W => ∃ v, RdS S W v (D.last j) ∧ Blk W gg (gv.set j v ++ rg) 26 ∧ Fr (fun x => x = gg) wr W) ?_ (fun u6 W6 hP _ => ?_)
      · refine ⟨?_, ?_, ?_, ?_, ?_, ?_, ?_, ?_, ?_, ?_, ?_, ?_, ?_, ?_, ?_, ?_, ?_, ?_, trivial⟩
        · refine ktP (by omega) (.cons (c := 16) (by kernel_rfl) (.cons (c := 3) (by kernel_rfl) (.cons (c := 2) (by kernel_rfl) (.cons (c := 1) (by kernel_rfl) (.one (by kernel_rfl)))))) (by rfl) fun u W hb hu => ?_
          go_simp
        · refine ktP (by omega) (.cons (c := 16) (by kernel_rfl) (.cons (c := 3) (by kernel_rfl) (.cons (c := 2) (by kernel_rfl) (.one (by kernel_rfl))))) (by rfl) fun u W hb hu => ?_
          have e0 : u 0 = .pointer (some ⟨g, 0, none⟩) := hu 0 (by kernel_rfl) (by omega)
          go_simp
        · refine ktP (by omega) (.cons (c := 16) (by kernel_rfl) (.cons (c := 3) (by kernel_rfl) (.one (by kernel_rfl)))) (by rfl) fun u W hb hu => ?_
          have e1 : u 1 = .pointer (some ⟨g, 0, none⟩) := hu 1 (by kernel_rfl) (by omega)
          go_simp
        · refine ktP (by omega) (.cons (c := 16) (by kernel_rfl) (.one (by kernel_rfl))) (by rfl) fun u W hb hu => ?_
          have e2 : u 2 = .pointer (some ⟨g, 0, none⟩) := hu 2 (by kernel_rfl) (by omega)
          have hc2 := (hb.cell (p := ⟨g, 0, none⟩) HH1.out.lt).trans c0
          go_simp
        · refine ktP (by omega) (.cons (c := 16) (by kernel_rfl) (.one (by kernel_rfl))) (by rfl) fun u W hb hu => ?_
          go_simp
        · refine ktP (by omega) (.cons (c := 15) (by kernel_rfl) (.one (by kernel_rfl))) (by rfl) fun u W hb hu => ?_
          go_simp
        · refine ktP (by omega) (.cons (c := 15) (by kernel_rfl) (.one (by kernel_rfl))) (by rfl) fun u W hb hu => ?_
          go_simp
        · refine ktP (by omega) (.cons (c := 15) (by kernel_rfl) (.cons (c := 14) (by kernel_rfl) (.cons (c := 13) (by kernel_rfl) (.cons (c := 12) (by kernel_rfl) (.cons (c := 10) (by kernel_rfl) (.cons (c := 9) (by kernel_rfl) (.cons (c := 8) (by kernel_rfl) (.one (by kernel_rfl))))))))) (by rfl) fun u W hb hu => ?_
          go_simp
        · refine ktP (by omega) (.cons (c := 15) (by kernel_rfl) (.cons (c := 14) (by kernel_rfl) (.cons (c := 13) (by kernel_rfl) (.cons (c := 12) (by kernel_rfl) (.cons (c := 10) (by kernel_rfl) (.cons (c := 9) (by kernel_rfl) (.one (by kernel_rfl)))))))) (by rfl) fun u W hb hu => ?_
          have e7 : u 7 = .pointer (some ⟨g, 0, none⟩) := hu 7 (by kernel_rfl) (by omega)
          go_simp
        · refine ktP (by omega) (.cons (c := 15) (by kernel_rfl) (.cons (c := 14) (by kernel_rfl) (.cons (c := 13) (by kernel_rfl) (.cons (c := 12) (by kernel_rfl) (.cons (c := 10) (by kernel_rfl) (.one (by kernel_rfl))))))) (by rfl) fun u W hb hu => ?_
          have e8 : u 8 = .pointer (some ⟨g, 0, none⟩) := hu 8 (by kernel_rfl) (by omega)
          go_simp
        · refine ktP (by omega) (.cons (c := 15) (by kernel_rfl) (.cons (c := 14) (by kernel_rfl) (.cons (c := 13) (by kernel_rfl) (.cons (c := 12) (by kernel_rfl) (.one (by kernel_rfl)))))) (by rfl) fun u W hb hu => ?_
          have e9 : u 9 = .pointer (some ⟨g, 1, none⟩) := hu 9 (by kernel_rfl) (by omega)
          have hc2 := (hb.cell (p := ⟨g, 1, none⟩) HH1.out.lt).trans c1
          go_simp
        · refine ktP (by omega) (.cons (c := 15) (by kernel_rfl) (.cons (c := 14) (by kernel_rfl) (.cons (c := 13) (by kernel_rfl) (.cons (c := 12) (by kernel_rfl) (.one (by kernel_rfl)))))) (by rfl) fun u W hb hu => ?_
          go_simp
        · refine ktP (by omega) (.cons (c := 15) (by kernel_rfl) (.cons (c := 14) (by kernel_rfl) (.cons (c := 13) (by kernel_rfl) (.one (by kernel_rfl))))) (by rfl) fun u W hb hu => ?_
          have e10 : u 10 = .slice (some ⟨gw, 0, none⟩) D.good.length cw := hu 10 (by kernel_rfl) (by omega)
          have e11 : u 11 = .int .i64 (j : Int) := hu 11 (by kernel_rfl) (by omega)
          go_simp
          try rw [if_pos (by omega)]
        · refine ktP (by omega) (.cons (c := 15) (by kernel_rfl) (.cons (c := 14) (by kernel_rfl) (.one (by kernel_rfl)))) (by rfl) fun u W hb hu => ?_
          have e12 : u 12 = .pointer (some ⟨gw, j, none⟩) := hu 12 (by kernel_rfl) (by omega)
          have hc2 := (hb.cell (p := ⟨gw, j, none⟩) HA4.out.lt).trans cy
          go_simp
        · refine ktP (by omega) (.cons (c := 15) (by kernel_rfl) (.one (by kernel_rfl))) (by rfl) fun u W hb hu => ?_
          have e13 : u 13 = .slice a ((D.flI j).pend j).length c := hu 13 (by kernel_rfl) (by omega)
          go_simp
        · refine ktC (by omega) (.one (by kernel_rfl)) fun u W hb hu K hK => ?_
          have e5 : u 5 = .pointer (some ⟨g, 0, none⟩) := hu 5 (by kernel_rfl) (by omega)
          have e6 : u 6 = .int .i64 (j : Int) := hu 6 (by kernel_rfl) (by omega)
          have e14 : u 14 = .int .i64 (((D.flI j).pend j).length : Int) := hu 14 (by kernel_rfl) (by omega)
          go_simp
          go_at_call 36
          (with_reducible refine (dAt_any (HM.out.later hb) HJ.out HNL.out (Nat.le_refl _)).mono ?_); rintro e w6 ⟨rfl, v, rfl, hv⟩
          rw [HLA.out] at hv
          have hk9 := hK.out _ _ (Below.refl _ _) hv
          first | exact hk9 | (simp only [e5, e6, e14] at hk9; exact hk9)
        · refine ktP (by omega) (.one (by kernel_rfl)) (by rfl) fun u W hb hu => ?_
          have e3 : u 3 = .slice (some ⟨gg, 0, none⟩) D.good.length cg := hu 3 (by kernel_rfl) (by omega)
          have e4 : u 4 = .int .i64 (j : Int) := hu 4 (by kernel_rfl) (by omega)
          go_simp
          try rw [if_pos (by omega)]
        · refine ktL fun u W hb hu => ?_
          have e16 : u 16 = .pointer (some ⟨gg, j, none⟩) := hu 16 (by kernel_rfl) (by omega)
          have t15 : (rdW S (D.last j)).P (u 15) W := hu 15 (by kernel_rfl) (by omega)
          obtain ⟨va, vn, vc, ev, hvr, hvs⟩ := t15
          have hBW := HA1.out.below hb HA1.out.lt
          have hcc : W.cell? ⟨gg, j, none⟩ = some v0 := (hb.cell (p := ⟨gg, j, none⟩) HA1.out.lt).trans cv
          have hfs : Fr (fun x => x = gg) W (W.setCell ⟨gg, j, none⟩ (u 15)) := (Fr.refl _ _).one _
          refine ⟨_, run_store1 rfl (by exact e16) (by rfl) hcc (hBW.frozen j) (by rw [ev]; rfl) Try.sizeOf26, u 15, ?_, ?_, (Fr.of_below hb).trans hfs (fun x hx => .inl hx)⟩
          · exact RdS.frame ⟨va, vn, vc, ev, hvr, hvs⟩ hfs (fun q hq e => hd q hq ((hx q).2 (.inr (.inl e))))
          · have hset := hBW.set j (u 15)
            rw [List.set_append_left _ _ HJG.out] at hset
            exact hset
      obtain ⟨v, p1, p2, p3⟩ := hP
      have c1' : W6.cell? ⟨g, 1, none⟩ = some (.slice (some ⟨gw, 0, none⟩) D.good.length cw) := (p3.cell (p := ⟨g, 1, none⟩) HH1.out.lt n1).trans c1
      have hB4 := p3.blk HA4.out (fun e => n3 e.symm)
      have cy' : W6.cell? ⟨gw, j, none⟩ = some (.slice a ((D.flI j).pend j).length c) := (p3.cell (p := ⟨gw, j, none⟩) HA4.out.lt (fun e => n3 e.symm)).trans cy
      have cf' := hB4.frozen
      have HM2 : Hid (∀ W, W = W6.setCell ⟨gw, j, none⟩ (.slice none 0 0) → Md W g (D.flI (j + 1)) F S ∧ Fr F w W) := Lib.hid (by
        rintro W rfl
        obtain ⟨e1, e2⟩ := Bd.flI_step HLT.out
        have hgwS : ∀ q, S q → ¬ (q = gw) := fun q hq e => hd q hq ((hx q).2 (.inr (.inr e)))
        have hggS : ∀ q, S q → ¬ (q = gg) := fun q hq e => hd q hq ((hx q).2 (.inr (.inl e)))
        have hf2 : Fr (fun x => x = gw) W6 (W6.setCell ⟨gw, j, none⟩ (.slice none 0 0)) := (Fr.refl _ _).one _
        refine ⟨⟨Bd.flI_ok HOK.out _, gg, cg, gw, cw, l, ?_, h2, h3, gv.set j v, rg, wv.set j (.slice none 0 0), rw', ?_, ?_, ?_, ?_, ?_, ?_, ?_, a8, ?_, a10, n1, n2, n3, hx, hd, fun x hx => Nat.lt_of_lt_of_le (hsl x hx) (Nat.le_trans p3.size hf2.size)⟩, ?_⟩
        · have hb := hf2.blk (p3.blk HH1.out n1) n2
          have e : mdS gg cg gw cw (D.flI (j + 1)) l = mdS gg cg gw cw (D.flI j) l := by unfold mdS; rw [Bd.flI_len, Bd.flI_len]; rfl
          rw [e]; exact hb
        · exact hf2.blk p2 n3
        · rw [List.length_set, a2, Bd.flI_len, Bd.flI_len]
        · intro k z r hz hr
          rw [e1] at hr
          rw [List.getElem?_set] at hz hr
          by_cases e : j = k
          · subst e
            rw [if_pos rfl, if_pos HJG.out] at hz
            rw [if_pos rfl, if_pos HJ.out] at hr
            cases hz; cases hr
            exact p1.frame hf2 hgwS
          · rw [if_neg e] at hz hr
            exact ((a3 k z r hz hr).frame p3 hggS).frame hf2 hgwS
        · have hset := hB4.set j (.slice none 0 0)
          rw [List.set_append_left _ _ HJW.out] at hset
          exact hset
        · rw [List.length_set, a5, Bd.flI_len, Bd.flI_len]
        · intro k z hz
          rw [e2]
          rw [List.getElem?_set] at hz
          by_cases e : j = k
          · subst e
            rw [if_pos rfl, if_pos HJW.out] at hz
            cases hz
            rw [if_pos rfl]
            exact RowsS.nil _ _
          · rw [if_neg e] at hz
            rw [if_neg (fun h => e h.symm)]
            exact ((a6 k z hz).frame p3 hggS).frame hf2 hgwS
        · rw [Bd.flI_len]; rw [Bd.flI_len] at a7; exact a7
        · rw [Bd.flI_len]; rw [Bd.flI_len] at a9; exact a9
        · exact (HFR.out.trans (p3.mono (F' := F) (fun q hq => .inl ((hx q).2 (.inr (.inl hq))))) (fun q hq => .inl hq)).trans (hf2.mono (F' := F) (fun q hq => .inl ((hx q).2 (.inr (.inr hq))))) (fun q hq => .inl hq))
      clear h1 h2 h3 hR a1 a2 a3 a4 a5 a6 a7 a8 a9 a10 n1 n2 n3 hx hd hsl p1 p2 p3 hB4 cv cy c0 c1
      go_wp2
      go_roundw
      case rel => first | exact ⟨j + 1, by have := HLT.out; omega, by go_num, HM2.out _ rfl⟩ | ((repeat apply Exists.intro); exact ⟨⟨j + 1, by have := HLT.out; omega, by go_num, HM2.out _ rfl⟩, rfl⟩)
      case measure => have := HLT.out; simp [intOf]; omega
    · obtain rfl : j = D.good.length := by omega
      clear hM h1 h2 h3 hR hfr
      go_wp2
      go_ret
      refine ⟨rfl, ?_, HFR.out⟩
      have := HM.out
      rw [Bd.flI_end HOK.out, HDD.out] at this
      exact this
set_option maxRecDepth 100000 in
set_option maxHeartbeats 1000000 in
theorem dFlush_off {w : World} {g : Nat} {d : Bd} {F S : Nat → Prop} (h : Md w g d F S) (ho : d.ops < 1000000) (hl : d.left ≤ 9223372036854775807) (hoff : d.offN = true) :
    Calls Try.prog 33 #[.pointer (some ⟨g, 0, none⟩)] w fun e w' => e = .returned (.int .i64 10) ∧ Md w' g d.begin F S ∧ Fr F w w' := by
  have HD := Lib.hid h
  have HO := Lib.hid ho; have HL := Lib.hid hl
  have HOF := Lib.hid hoff
  have HG : Hid (F g) := Lib.hid (by obtain ⟨gg, cg, gw, cw, l, _, _, _, hR⟩ := h.ex; exact hR.own.1)
  clear h ho hl hoff
  go_enter Try.func33, Try.ntmps33
  go_wp2_with (go_at_call 41; (with_reducible refine (dOp_any HD.out HO.out HL.out).mono ?_); rintro e w1 ⟨rfl, hD1, hf1⟩; rw [HOF.out])
  go_ret
  exact ⟨rfl, hD1, hf1.mono (fun y hy => .inl (by cases hy; exact HG.out))⟩
/-- Flush. -/
theorem dFlush_any {w : World} {g : Nat} {d : Bd} {F S : Nat → Prop} (h : Md w g d F S) (hN : d.good.length ≤ 100000) (ho : d.ops < 1000000) (hl : d.left ≤ 9223372036854775807) :
    Calls Try.prog 33 #[.pointer (some ⟨g, 0, none⟩)] w fun e w' => e = .returned (.int .i64 d.flushC) ∧ Md w' g d.flush F S ∧ Fr F w w' := by
  unfold Bd.flushC Bd.flush
  by_cases hof : d.offN = true
  · rw [hof]; exact dFlush_off h ho hl hof
  · have hof : d.offN = false := by simpa using hof
    rw [hof]; exact dFlush_on h hN ho hl hof
end Go.Proofs.Ytgehbchaamilhaa
namespace Go.Proofs.Ytgehbchaamilhaa
open Go Go.RowKit Go.Maps
end Go.Proofs.Ytgehbchaamilhaa
namespace Go.Proofs.Ytgehbchaamilhaa
open Go Go.RowKit Go.Maps
theorem new0_run {tS E sz bytes : Nat} {z : Value} (h : ElT tS E sz bytes z) (w : World) : (Instr.buildSlice tS 0 #[]).run Try.prog w = .ok (.slice (some ⟨w.heap.size, 0, none⟩) 0 0) (w.alloc (.cells #[] E)) := by
  obtain ⟨i, hi, hz, hs, hb⟩ := h.info
  simp [Instr.buildSlice, Sem.run_bind, run_underlying h.und, sizeOf, typeInfo, zeroValue, hi, hs, hz, newRow, Instr.fill]
  congr 2
  exact Array.eq_empty_of_size_eq_zero (by simp)
theorem own_list {w : World} {B E n : Nat} {v : Value} {xs : List Value} (h : w.ownsRow B E 1 v n xs) (h0 : 0 < n) : ∃ q c r, v = .slice (some ⟨q, 0, none⟩) n c ∧ B ≤ q ∧ Blk w q (xs ++ r) E ∧ n ≤ c ∧ c ≤ maxLen := by
  rcases h.2 with ⟨_, hn⟩ | ⟨g, cap, cur, rfl, hb, hg, h1, h2, h3, h4⟩
  · omega
  · refine ⟨g, cap, cur.toList.drop n, rfl, hb, ?_, h1, h2⟩
    rw [Nat.mul_one] at h4
    unfold Blk
    rw [← h4, List.take_append_drop]; exact hg
theorem slices_one {xs : List Value} (h : ∀ x ∈ xs, ∃ a n c, x = .slice a n c) : ∀ x ∈ xs, x.oneCell' = true := fun x hx => by obtain ⟨a, n, c, rfl⟩ := h x hx; rfl
set_option maxRecDepth 100000 in
set_option maxHeartbeats 2000000 in
theorem dCopy_any {w : World} {g : Nat} {d : Bd} {F S : Nat → Prop} (h : Md w g d F S) (h0 : 0 < d.good.length) (hN : d.good.length ≤ 1000) :
    Calls Try.prog 25 #[.pointer (some ⟨g, 0, none⟩)] w fun e w' => ∃ g' F', e = .returned (.pointer (some ⟨g', 0, none⟩)) ∧ Md w' g' d F' S ∧ (∀ x, F' x → w.heap.size ≤ x) ∧ Below w.heap.size w w' := by
  have HD := Lib.hid h; have H0 := Lib.hid h0; have H1 := Lib.hid hN
  obtain ⟨gg, cg, gw, cw, l, h1, h2, h3, hR⟩ := h.ex
  obtain ⟨gv, rg, wv, rw', a1, a2, a3, a4, a5, a6, a7, a8, a9, a10, n1, n2, n3, hx, hd, hsl⟩ := hR.ex
  have c0 : w.cell? ⟨g, 0, none⟩ = some (.slice (some ⟨gg, 0, none⟩) d.good.length cg) := h1.cell 0
  have c1 : w.cell? ⟨g, 1, none⟩ = some (.slice (some ⟨gw, 0, none⟩) d.good.length cw) := h1.cell 1
  have c2 : w.cell? ⟨g, 2, none⟩ = some (.int .i64 (d.ops : Nat)) := h1.cell 2
  have c3 : w.cell? ⟨g, 3, none⟩ = some (.bool d.cut) := h1.cell 3
  have c4 : w.cell? ⟨g, 4, none⟩ = some (.int .i64 l) := h1.cell 4
  have c5 : w.cell? ⟨g, 5, none⟩ = some (.bool d.off) := h1.cell 5
  have HGL := Lib.hid h1.lt; have HA1 := Lib.hid a1; have HA2 := Lib.hid a2; have HA3 := Lib.hid a3; have HA4 := Lib.hid a4; have HA5 := Lib.hid a5; have HA6 := Lib.hid a6
  have H2 := Lib.hid h2; have H3 := Lib.hid h3; have HSL := Lib.hid hsl
  have hg1 : ∀ x ∈ gv, ∃ a n c, x = Value.slice a n c := fun x hx => by
    obtain ⟨i, hi, rfl⟩ := List.getElem_of_mem hx
    obtain ⟨a, n, c, e, _⟩ := a3 i _ _ (List.getElem?_eq_getElem hi) (List.getElem?_eq_getElem (by omega))
    exact ⟨a, n, c, e⟩
  have hw1 : ∀ x ∈ wv, ∃ a n c, x = Value.slice a n c := fun x hx => by
    obtain ⟨i, hi, rfl⟩ := List.getElem_of_mem hx
    obtain ⟨a, c, e, _⟩ := a6 i _ (List.getElem?_eq_getElem hi)
    exact ⟨a, _, c, e⟩
  have HG1 := Lib.hid (slices_one hg1); have HW1 := Lib.hid (slices_one hw1)
  have hb1 := new0_run elR; have hb2 := new0_run elR3
  obtain ⟨i1, hi1, hz1, hs1, hy1⟩ := elR.info
  obtain ⟨i2, hi2, hz2, hs2, hy2⟩ := elR3.info
  clear h h0 hN h1 h2 h3 hR a1 a2 a3 a4 a5 a6 a7 a8 a9 a10 n1 n2 n3 hx hd hsl hg1 hw1
  go_enter Try.func25, Try.ntmps25
  go_upto_region 2 with fail
  refine wp_gen (fun W => Blk W w.heap.size (mdS gg cg gw cw d l) 46 ∧ Below w.heap.size w W) ⟨Blk.new w _ 46, (Below.refl _ _).alloc (Nat.le_refl _) _⟩ (fun w1 hW => ?_)
  obtain ⟨hO, hB⟩ := hW
  have HO := Lib.hid hO; have HB := Lib.hid hB
  have c0' : w1.cell? ⟨g, 0, none⟩ = some (.slice (some ⟨gg, 0, none⟩) d.good.length cg) := (hB.cell (p := ⟨g, 0, none⟩) HGL.out).trans c0
  have o0 : w1.cell? ⟨w.heap.size, 0, none⟩ = some (.slice (some ⟨gg, 0, none⟩) d.good.length cg) := hO.cell 0
  have fO := hO.frozen
  have hlO := hO.lt
  have hgl1 : g < w1.heap.size := Nat.lt_of_lt_of_le HGL.out hB.size
  have hown : (w1.alloc (.cells #[] 26)).ownsRow w1.heap.size 26 1 (.slice (some ⟨w1.heap.size, 0, none⟩) 0 0) 0 [] := ⟨rfl, .inr ⟨w1.heap.size, 0, #[], rfl, Nat.le_refl _, Blk.new w1 #[] 26, Nat.le_refl _, by unfold maxLen; omega, rfl, rfl⟩⟩
  have HOWN := Lib.hid hown
  have hgs := HA1.out.lt
  clear hO hB c0 c2 c3 c4 c5 hown
  have c1' : w1.cell? ⟨g, 1, none⟩ = some (.slice (some ⟨gw, 0, none⟩) d.good.length cw) := (HB.out.cell (p := ⟨g, 1, none⟩) HGL.out).trans c1
  have hws := HA4.out.lt
  have HB1 := HB.out.size
  clear c1
  go_wp2_with (first
    | (at_builtin; refine wpList_append_own _ rfl (.tmp 7) (.tmp 11) 30 rfl w1.heap.size 26 i1 (.slice none 0 0) 1 24 Try.underlying30 hi1 hz1 hs1 hy1 rfl (by omega) _ 0 [] rfl HOWN.out ⟨gg, 0, none⟩ d.good.length cg gv rfl (by rw [HA2.out]; omega) (fun j v hv => by rw [Addr.add_mid, Nat.zero_add, ((HA1.out.below HB.out HA1.out.lt).alloc _).cell, List.getElem?_append_left (List.getElem?_eq_some_iff.1 hv).1]; exact hv) HG1.out (by have := H1.out; unfold maxLen; omega) (by have := H1.out; omega) (by simp) ?_; intro v2 w2 ho hg _
       have HOW := Lib.hid ho; have HGR : Hid (Below w1.heap.size w1 w2) := Lib.hid (((Below.refl _ _).alloc (Nat.le_refl _) _).grown hg (by simp) (fun k hk => by cases hk; exact Nat.le_refl _))
       have HO2 := Lib.hid (HO.out.below HGR.out HO.out.lt)
       have o02 : w2.cell? ⟨w.heap.size, 0, none⟩ = some (.slice (some ⟨gg, 0, none⟩) d.good.length cg) := HO2.out.cell 0
       have fO2 := HO2.out.frozen
       have hlO2 := HO2.out.lt
       have hgl2 : g < w2.heap.size := Nat.lt_of_lt_of_le hgl1 HGR.out.size
       have c12 : w2.cell? ⟨g, 1, none⟩ = some (.slice (some ⟨gw, 0, none⟩) d.good.length cw) := (HGR.out.cell (p := ⟨g, 1, none⟩) hgl1).trans c1'
       obtain ⟨q1, k1, r1, rfl, hq1, hB1, hk1, hk2⟩ := own_list (by simpa using HOW.out) H0.out
       clear ho hg)
    | (at_builtin; go_must (refine wpList_append_own _ rfl (.tmp 14) (.tmp 18) 44 rfl w2.heap.size 30 i2 (.slice none 0 0) 1 24 Try.underlying44 hi2 hz2 hs2 hy2 rfl (by omega) _ 0 [] rfl ⟨rfl, .inr ⟨w2.heap.size, 0, #[], rfl, Nat.le_refl _, (by
          have h := Blk.new (w2.setCell ⟨w.heap.size, 0, none⟩ (.slice (some ⟨q1, 0, none⟩) d.good.length k1)) #[] 30
          rw [show (w2.setCell ⟨w.heap.size, 0, none⟩ (.slice (some ⟨q1, 0, none⟩) d.good.length k1)).heap.size = w2.heap.size by simp] at h
          exact h), Nat.le_refl _, by unfold maxLen; omega, rfl, rfl⟩⟩ ⟨gw, 0, none⟩ d.good.length cw wv rfl (by rw [HA5.out]; omega) (fun j v hv => by
          rw [Addr.add_mid, Nat.zero_add]
          have h1 := (HA4.out.below HB.out HA4.out.lt).below HGR.out (by omega)
          have h2 := ((Fr.refl (fun x => x = w.heap.size) w2).one (.slice (some ⟨q1, 0, none⟩) d.good.length k1) (o := 0)).blk h1 (by omega)
          rw [(h2.alloc _).cell, List.getElem?_append_left (List.getElem?_eq_some_iff.1 hv).1]; exact hv) HW1.out (by have := H1.out; unfold maxLen; omega) (by have := H1.out; omega) (by simp) ?_); intro v3 w3 ho3 hg3 _
       have hgY : Fr (fun x => x = w2.heap.size) ((w2.setCell ⟨w.heap.size, 0, none⟩ (.slice (some ⟨q1, 0, none⟩) d.good.length k1)).alloc (.cells #[] 30)) w3 := (Fr.refl _ _).grown hg3 (fun k hk => .inl (by cases hk; rfl))
       have HF3 : Hid (Fr (fun x => x = w.heap.size) w2 w3) := Lib.hid ((((Fr.refl (fun x => x = w.heap.size) w2).one (.slice (some ⟨q1, 0, none⟩) d.good.length k1) (o := 0)).alloc _).trans hgY (fun x hx => .inr (Nat.le_of_eq hx.symm)))
       have HO3 : Hid (Blk w3 w.heap.size ((mdS gg cg gw cw d l).set 0 (.slice (some ⟨q1, 0, none⟩) d.good.length k1)) 46) := Lib.hid (hgY.blk ((HO2.out.set 0 (.slice (some ⟨q1, 0, none⟩) d.good.length k1)).alloc _) (by omega))
       have o13 : w3.cell? ⟨w.heap.size, 1, none⟩ = some (.slice (some ⟨gw, 0, none⟩) d.good.length cw) := HO3.out.cell 1
       have fO3 := HO3.out.frozen
       have hlO3 := HO3.out.lt
       have HOW3 := Lib.hid ho3
       obtain ⟨q2, k2, r2, rfl, hq2, hB2, hk3, hk4⟩ := own_list (by simpa using HOW3.out) H0.out
       clear ho3 hg3 hgY)
    )
  go_ret
  have hf5 : Fr (fun x => x = w.heap.size) w2 (w3.setCell ⟨w.heap.size, 1, none⟩ (.slice (some ⟨q2, 0, none⟩) d.good.length k2)) := HF3.out.one _
  have hf6 : Fr (fun x => x = w.heap.size) w3 (w3.setCell ⟨w.heap.size, 1, none⟩ (.slice (some ⟨q2, 0, none⟩) d.good.length k2)) := (Fr.refl _ _).one _
  have hbb : Below w.heap.size w (w3.setCell ⟨w.heap.size, 1, none⟩ (.slice (some ⟨q2, 0, none⟩) d.good.length k2)) := (Below.call HB.out HGR.out).trans (hf5.below (Below.call HB.out HGR.out).size (fun x hx => Nat.le_of_eq hx.symm))
  have hq1l := hB1.lt
  refine ⟨w.heap.size, fun x => x = w.heap.size ∨ x = q1 ∨ x = q2, rfl, ⟨HD.out.ok, q1, k1, q2, k2, l, HO3.out.set 1 (.slice (some ⟨q2, 0, none⟩) d.good.length k2), H2.out, H3.out, gv, r1, wv, r2, hf5.blk hB1 (by omega), HA2.out, fun k v r x y => (HA3.out k v r x y).frame (F := fun _ => False) (.of_below hbb) (fun _ _ h => h), hf6.blk hB2 (by omega), HA5.out, fun k v x => (HA6.out k v x).frame (F := fun _ => False) (.of_below hbb) (fun _ _ h => h), hk1, hk2, hk3, hk4, by omega, by omega, by omega, fun x => Iff.rfl, fun x hs => ?_, fun x hs => Nat.lt_of_lt_of_le (HSL.out x hs) hbb.size⟩, ?_, hbb⟩
  · have := HSL.out x hs
    rintro (e | e | e) <;> omega
  · rintro x (e | e | e) <;> omega
end Go.Proofs.Ytgehbchaamilhaa
namespace Go.Proofs.Ytgehbchaamilhaa
open Go Go.RowKit
/-- j of the calls have come up; P j holds. -/
def JQ (c : List Nat) (Pj : Nat → World → Prop) (L : Nat → Bool) (_u : Nat → Value) (W : World) : Prop := ∃ j, j ≤ c.length ∧ (∀ t k, c[t]? = some k → L k = decide (t < j)) ∧ Pj j W
def GQ (X : List Value) (i : Nat) (_L : Nat → Bool) (u : Nat → Value) (_W : World) : Prop := u i = X.getD i undef
section
variable {c : List Nat} {Pj : Nat → World → Prop} {X : List Value} {ops : Array Oper} {wt : Nat → Nat → Bool} {Q : Exit → Act → World → Prop} {fr : (Nat → Value) → Array Value} {df : List Deferred} {i : Nat} {o : Oper}
theorem soft_GQ : Soft wt (GQ X) := ⟨fun _ _ _ _ _ _ hki _ h => by unfold GQ at *; rw [putV_ne hki]; exact h, fun _ _ _ _ _ _ h => h⟩
/-- An operation that reads. -/
theorem kkP (hi : i ∉ c) (hr : ∀ u W j, Pj j W → (∀ t k, c[t]? = some k → Path wt i k → t < j) → (∀ t k, c[t]? = some k → Path wt k i → j ≤ t) → (∀ d, wt i d = true → u d = X.getD d undef) → (execOp (⟨fr u, df⟩ : Act).eval o).run Try.prog W = .ok (.value (X.getD i undef)) W) (hg : o.guard = none := by rfl) :
    StepAt Try.prog ops wt Q fr df (GQ X) (JQ c Pj) i o := by
  intro L u W hcl hJ hG hL hdep K hK
  rw [if_pos (by simp [Region.wanted, hg])]
  obtain ⟨j, hj, hc, hP⟩ := hJ
  unfold Oper.wp
  rw [hr u W j hP (fun t k hk hp => by have h1 := hp.first hcl hdep; rw [hc t k hk] at h1; exact of_decide_eq_true h1) (fun t k hk hp => by have h1 := notL hcl hp hL; rw [hc t k hk] at h1; have := of_decide_eq_false h1; omega) (fun d hd => hG d (hdep d hd))]
  refine hK.out _ W ⟨j, hj, fun t k hk => ?_, hP⟩ (fun k hk hki _ h => by unfold GQ at *; rw [putV_ne hki]; exact h) (by unfold GQ; exact putV_same _ _ _)
  have hne : k ≠ i := fun e => hi (by rw [← e]; exact List.mem_of_getElem? hk)
  rw [putL_ne hne]; exact hc t k hk
/-- A call. -/
theorem kkC {t : Nat} (ht : c[t]? = some i) (hnd : c.Nodup) (hord : ∀ s k, s < t → c[s]? = some k → Path wt i k) (hr : ∀ u W, Pj t W → (∀ d, wt i d = true → u d = X.getD d undef) → ∀ K : Act → World → Prop, Shut (∀ w', Pj (t + 1) w' → K ((⟨fr u, df⟩ : Act).put o.dst (X.getD i undef)) w') → Oper.wp Try.prog o ⟨fr u, df⟩ W K Q) (hg : o.guard = none := by rfl) :
    StepAt Try.prog ops wt Q fr df (GQ X) (JQ c Pj) i o := by
  intro L u W hcl hJ hG hL hdep K hK
  rw [if_pos (by simp [Region.wanted, hg])]
  obtain ⟨j, hj, hc, hP⟩ := hJ
  have htl := (List.getElem?_eq_some_iff.1 ht).1
  have hjt : j = t := by
    have h1 := hc t i ht
    rw [hL] at h1
    have h2 := of_decide_eq_false h1.symm
    rcases Nat.lt_or_ge j t with h | h
    · obtain ⟨k, hk⟩ : ∃ k, c[j]? = some k := ⟨_, List.getElem?_eq_getElem (by omega)⟩
      have h3 := (hord j k h hk).first hcl hdep
      rw [hc j k hk] at h3
      have := of_decide_eq_true h3
      omega
    · omega
  subst hjt
  refine hr u W hP (fun d hd => hG d (hdep d hd)) K (fun w' hP' => ?_)
  refine hK.out _ w' ⟨j + 1, htl, fun s k hk => ?_, hP'⟩ (fun k hk hki _ h => by unfold GQ at *; rw [putV_ne hki]; exact h) (by unfold GQ; exact putV_same _ _ _)
  by_cases e : s = j
  · subst e
    rw [ht] at hk; cases hk
    rw [putL_same]; simp
  · have hki : k ≠ i := fun h => by
      subst h
      have h1 := (List.getElem?_eq_some_iff.1 hk); have h2 := (List.getElem?_eq_some_iff.1 ht)
      exact e ((List.getElem_inj (h₀ := h1.1) (h₁ := h2.1) hnd).1 (h1.2.trans h2.2.symm))
    rw [putL_ne hki, hc s k hk]
    simp only [decide_eq_decide]; omega
end
section
variable {F : List Value} {fr : (Nat → Value) → Array Value} {df : List Deferred} {ops : Array Oper} {id : Nat} {Q : Exit → Act → World → Prop} {w : World}
theorem rgQ (n : Nat) (p : List (Nat × Nat)) (X : List Value) (c : List Nat) (Pj : Nat → World → Prop) (hP0 : Pj 0 w.drew) (hcn : ∀ k ∈ c, k < n)
    (hsteps : AllSteps Try.prog ops (waitsOn .any ops) Q fr df (GQ X) (JQ c Pj) 0 ops.toList)
    (hdone : ∀ u W, Pj c.length W → (∀ k, k < n → u k = X.getD k undef) → Q .normal ⟨fr u, df⟩ W)
    (hF : ∀ u, (mrg F p u).toArray = fr u := by intro u; dsimp only [mrg]; try exact rfl)
    (hc : okP p ops = true := by kernel_rfl) (hn : ops.size = n := by kernel_rfl) (hm : Try.prog.follows .mixedOrders = true := by kernel_rfl) (he : earlier .any ops = true := by kernel_rfl) : (Code.region id ops true).wp Try.prog Q ⟨F.toArray, df⟩ w := by
  obtain ⟨u0, hu⟩ := mrg_self p F (by simp only [okP, Bool.and_eq_true] at hc; exact hc.1)
  refine wp_region_mid (a := ⟨F.toArray, df⟩) fr (GQ X) (JQ c Pj) u0 hm he (okP_put hc hF) (by rw [← hF, hu]) ⟨0, Nat.zero_le _, fun t k hk => by simp, hP0⟩ soft_GQ (fun _ => hsteps) (fun L u W hall hJ hG => ?_)
  obtain ⟨j, hj, hcj, hP⟩ := hJ
  have : j = c.length := by
    rcases Nat.lt_or_ge j c.length with h | h
    · have h1 := hcj j _ (List.getElem?_eq_getElem h)
      rw [hall _ (by rw [hn]; exact hcn _ (List.getElem_mem h))] at h1
      have := of_decide_eq_true h1.symm
      omega
    · omega
  subst this
  exact hdone u W hP (fun k hk => hG k (by omega))
end
end Go.Proofs.Ytgehbchaamilhaa
namespace Go.Proofs.Ytgehbchaamilhaa
open Go Go.RowKit Go.Maps
theorem round_neg {k n : Int} (hn : 0 < n) (h : k.tmod n < 0) : k.tmod n + n = k % n := by
  have h1 := Int.tmod_eq_emod (a := k) (b := n)
  have h2 := Int.emod_nonneg k (show n ≠ 0 by omega)
  have h3 : (n.natAbs : Int) = n := by omega
  generalize k % n = r at *
  generalize k.tmod n = t at *
  split at h1 <;> omega
theorem round_pos {k n : Int} (hn : 0 < n) (h : ¬ k.tmod n < 0) : k.tmod n = k % n := by
  have h1 := Int.tmod_eq_emod (a := k) (b := n)
  have h2 := Int.emod_lt_of_pos k hn
  have h3 : (n.natAbs : Int) = n := by omega
  generalize k % n = r at *
  generalize k.tmod n = t at *
  split at h1 <;> omega
set_option maxRecDepth 100000 in
set_option maxHeartbeats 1000000 in
theorem alRound_any {k n : Int} {w : World} (hn : 0 < n) (hn2 : n ≤ 4611686018427387904) : Calls Try.prog 11 #[.int .i64 k, .int .i64 n] w fun e w' => e = .returned (.int .i64 (k % n)) ∧ w = w' := by
  have hz : n ≠ 0 := by omega
  by_cases ht : k.tmod n < 0
  · have hd : decide (k.tmod n < 0) = true := decide_eq_true ht
    have hlo : -n < k.tmod n := Int.lt_tmod_of_pos k hn
    have HE := Lib.hid (round_neg hn ht)
    have hw : IntKind.i64.wrap (k.tmod n + n) = k.tmod n + n := by rw [IntKind.wrap_i64]; omega
    obtain ⟨t, hte⟩ : ∃ t, k.tmod n = t := ⟨_, rfl⟩
    rw [hte] at hd hlo HE hw ht
    go_enter Try.func11, Try.ntmps11
    go_wp2
    go_ret
    rw [← HE.out]
    exact ⟨rfl, rfl⟩
  · have hd : decide (k.tmod n < 0) = false := decide_eq_false ht
    have HE := Lib.hid (round_pos hn ht)
    obtain ⟨t, hte⟩ : ∃ t, k.tmod n = t := ⟨_, rfl⟩
    rw [hte] at hd HE ht
    go_enter Try.func11, Try.ntmps11
    go_wp2
    go_ret
    rw [← HE.out]
    exact ⟨rfl, rfl⟩
/-- Byte i of the bytes that hang on k. -/
def alBy (k : Int) (i : Nat) : UInt8 := UInt8.ofNat ((wrap64 (wrap64 (wrap64 ((i : Int) * i) + wrap64 (k * 7)) + 1) % 251).toNat)
def alB (n : Nat) (k : Int) : List UInt8 := (List.range n).map (alBy k)
theorem alB_len (n : Nat) (k : Int) : (alB n k).length = n := by simp [alB]
def alR (n : Nat) (k : Int) (i : Nat) : List Value := row n fun j => if j < i then bV (alBy k j) else bV 0
theorem alBy_val (k : Int) (i : Nat) : ((alBy k i).toNat : Int) = wrap64 (wrap64 (wrap64 ((i : Int) * i) + wrap64 (k * 7)) + 1) % 251 := by
  have h1 := Int.emod_nonneg (wrap64 (wrap64 (wrap64 ((i : Int) * i) + wrap64 (k * 7)) + 1)) (show (251 : Int) ≠ 0 by omega)
  have h2 := Int.emod_lt_of_pos (wrap64 (wrap64 (wrap64 ((i : Int) * i) + wrap64 (k * 7)) + 1)) (show (0 : Int) < 251 by omega)
  unfold alBy
  generalize wrap64 (wrap64 (wrap64 ((i : Int) * i) + wrap64 (k * 7)) + 1) % 251 = r at *
  have h3 : r.toNat < 256 := by omega
  rw [UInt8.toNat_ofNat', Nat.mod_eq_of_lt h3]; omega
theorem mkB (n : Nat) (h : n ≤ 1000000) (w : World) : (Instr.makeSlice 26 (.int .i64 (n : Int)) (.int .i64 (n : Int))).run Try.prog w = .ok (.slice (some ⟨w.heap.size, 0, none⟩) n n) (w.alloc (.cells (List.replicate n (bV 0)).toArray 5)) := by
  obtain ⟨i, hi, hz, hs, hb⟩ := elB.info
  have hr := run_make (P := Try.prog) w 26 5 i _ Try.underlying26 hi hz .i64 .i64 n n (by omega) (Int.le_refl _) (by rw [hb]; omega) (by omega)
  have e : (Value.int .u8 0).cells = (List.replicate 1 (bV 0)).toArray := rfl
  simp only [Int.toNat_natCast, hs, e, Nat.mul_one] at hr
  rw [made_const (v := bV 0) (by simp) (fun j hj => by simp at hj; subst hj; rfl)] at hr
  exact hr
set_option maxRecDepth 100000 in
set_option maxHeartbeats 1000000 in
theorem alBlock_any {n : Nat} {k : Int} {w : World} (hn : n ≤ 100000) : Calls Try.prog 10 #[.int .i64 (n : Int), .int .i64 k] w fun e w' => ∃ q, e = .returned (.slice (some ⟨q, 0, none⟩) n n) ∧ w.heap.size ≤ q ∧ Blk w' q ((alB n k).map bV) 5 ∧ Below w.heap.size w w' := by
  have hmk := mkB n (by omega)
  have HN := Lib.hid hn
  have hmax : max (n : Int) 0 = (n : Int) := by omega
  clear hn
  go_enter Try.func10, Try.ntmps10
  go_wp2
  refine wp_gen (fun W => Blk W w.heap.size (alR n k 0) 5 ∧ Below w.heap.size w W) ⟨?_, (Below.refl _ _).alloc (Nat.le_refl _) _⟩ (fun w1 hW => ?_)
  · have h := Blk.new w (List.replicate n (bV 0)).toArray 5
    rw [List.toList_toArray] at h
    have e : alR n k 0 = List.replicate n (bV 0) := by
      unfold alR row
      apply List.ext_getElem?
      intro i
      rcases Nat.lt_or_ge i n with hi | hi
      · rw [List.getElem?_map, List.getElem?_range hi]; simp [hi]
      · rw [List.getElem?_eq_none (by simpa using hi), List.getElem?_eq_none (by simpa using hi)]
    rw [e]; exact h
  have HW := Lib.hid hW
  clear hW hmk hmax
  go_loopw [6] (fun iv wr => ∃ i : Nat, i ≤ n ∧ iv = .int .i64 i ∧ Blk wr w.heap.size (alR n k i) 5 ∧ Below w.heap.size w wr) (fun iv _ => n - (intOf iv).toNat)
  case atStart => exact ⟨0, Nat.zero_le _, rfl, HW.out.1, HW.out.2⟩
  case round =>
    obtain ⟨i, hi, rfl, hB, hbw⟩ := hrel
    have hn8 : (n : Int) ≤ 100000 := by have := HN.out; omega
    have hi8 : (i : Int) ≤ 100000 := by omega
    have hi0 : (0 : Int) ≤ (i : Int) := by omega
    have hiw : IntKind.i64.wrap ((i : Int) + 1) = ((i + 1 : Nat) : Int) := by rw [IntKind.wrap_i64]; omega
    have HB := Lib.hid hB; have HBW := Lib.hid hbw
    by_cases hlt : i < n
    · have hi1 : (i : Int) < (n : Int) := by omega
      have hcc : wr.cell? ⟨w.heap.size, i, none⟩ = some (bV 0) := by have h := hB.at hlt; rw [if_neg (Nat.lt_irrefl i)] at h; exact h
      have hff := hB.frozen
      have HLT := Lib.hid hlt
      obtain ⟨v, hv⟩ : ∃ v, v = wrap64 (wrap64 (wrap64 ((i : Int) * i) + wrap64 (k * 7)) + 1) % 251 := ⟨_, rfl⟩
      have HV := Lib.hid hv
      have hv0 : 0 ≤ v ∧ v < 251 := by rw [hv]; exact ⟨Int.emod_nonneg _ (by omega), Int.emod_lt_of_pos _ (by omega)⟩
      have hvw : IntKind.u8.wrap v = v := by rw [IntKind.wrap_u8]; omega
      have HS : Hid ((alR n k i).set i (.int .u8 v) = alR n k (i + 1)) := Lib.hid (row_set i _ (by rw [if_pos (by omega)]; unfold bV; rw [alBy_val, ← hv]) (fun j hj hne => by
        by_cases h : j < i
        · rw [if_pos (by omega), if_pos h]
        · rw [if_neg (by omega), if_neg h]))
      unfold bV at hcc
      clear hv hB hbw hlt hi
      go_wp2_with (go_at_call 11; (with_reducible refine (alRound_any (by omega) (by omega)).mono ?_); rintro e wz ⟨rfl, rfl⟩)
      have HI : Hid (i + 1 ≤ n) := Lib.hid (by have := HLT.out; omega)
      go_roundw
      case rel => exact ⟨i + 1, HI.out, by go_num, by rw [← HV.out, ← HS.out]; exact HB.out.set i _, HBW.out.setCell (Nat.le_refl _) _⟩
      case measure => have := HI.out; simp [intOf]; omega
    · obtain rfl : i = n := by omega
      have HE : Hid (alR i k i = (alB i k).map bV) := Lib.hid (by
        unfold alR row alB
        rw [List.map_map]
        apply List.map_congr_left
        intro j hj
        rw [if_pos (List.mem_range.1 hj)]; rfl)
      clear hB hbw hlt
      go_wp2
      go_ret
      exact ⟨w.heap.size, rfl, Nat.le_refl _, by rw [← HE.out]; exact HB.out, HBW.out⟩
end Go.Proofs.Ytgehbchaamilhaa
namespace Go.Proofs.Ytgehbchaamilhaa
open Go Go.RowKit Go.Maps
theorem ints1 (v : Int) (w : World) : (Instr.buildSlice 37 1 #[(0, .int .i64 v)]).run Try.prog w = .ok (.slice (some ⟨w.heap.size, 0, none⟩) 1 1) (w.alloc (.cells #[.int .i64 v] 3)) := by
  exact new1_instr (z := .int .i64 0) (bytes := 8) ⟨Try.underlying37, elT_info (by kernel_rfl), rfl, by omega⟩ rfl
/-- The device of the document's example. -/
def awD : Bd := (Bd.new 2).write 0 (alB 64 1)
theorem awD_code : (Bd.new 2).writeC 0 (alB 64 1) = 0 := by decide +kernel
theorem awD_len : awD.good.length = 2 := by decide +kernel
theorem awD_ops : awD.ops = 1 := by decide +kernel
theorem awC_row : (awD.crash [2]).last 0 = alB 64 1 := by decide +kernel
theorem awC_len : (awD.crash [2]).good.length = 2 := by decide +kernel
theorem alB_first : alBy 1 0 = 8 := by decide +kernel
theorem Blk.rd {w : World} {q n : Nat} {l : List UInt8} (h : Blk w q (l.map bV) 5) (hl : l.length = n) (hm : n ≤ maxLen) : RdB w (some ⟨q, 0, none⟩) n n l := RdB.blk [] (by rw [List.append_nil]; exact h) hl (Nat.le_refl _) hm
set_option maxRecDepth 100000 in
set_option maxHeartbeats 1000000 in
theorem bAwake_any (w : World) : Calls Try.prog 15 #[] w fun e w' => e = .returned (.bool true) ∧ Below w.heap.size w w' := by
  have hn2 : ∀ w, Calls Try.prog 9 #[.int .i64 2] w fun e w' => ∃ g F, e = .returned (.tuple #[.pointer (some ⟨g, 0, none⟩), .int .i64 0]) ∧ Dv w' g (Bd.new 2) F ∧ (∀ x, F x → w.heap.size ≤ x) ∧ Below w.heap.size w w' := fun w => bNew_any (n := 2) (by omega) (by omega)
  have hn0 : ∀ w, Calls Try.prog 9 #[.int .i64 0] w fun e w' => e = .returned (.tuple #[.pointer none, .int .i64 1]) ∧ w = w' := fun w => bNew_no (n := 0) w (by omega)
  have hb1 : ∀ w, Calls Try.prog 10 #[.int .i64 64, .int .i64 1] w fun e w' => ∃ q, e = .returned (.slice (some ⟨q, 0, none⟩) 64 64) ∧ w.heap.size ≤ q ∧ Blk w' q ((alB 64 1).map bV) 5 ∧ Below w.heap.size w w' := fun w => alBlock_any (n := 64) (k := 1) (by omega)
  have hr0 : ∀ {w : World} {g : Nat} {d : Bd} {F : Nat → Prop}, Dv w g d F → 0 < d.good.length → d.good.length ≤ 100000 → Calls Try.prog 14 #[.pointer (some ⟨g, 0, none⟩), .int .i64 0] w fun e w' => ∃ q, e = .returned (.tuple #[.slice (some ⟨q, 0, none⟩) 64 64, .int .i64 0]) ∧ w.heap.size ≤ q ∧ RdB w' (some ⟨q, 0, none⟩) 64 64 (d.last 0) ∧ Below w.heap.size w w' := fun h h0 hN => bRead_any (k := 0) h h0 hN
  have HN2 := Lib.hid hn2; have HN0 := Lib.hid hn0; have HB1 := Lib.hid hb1; have HR0 := @hr0
  have hi := ints1
  clear hn2 hn0 hb1 hr0
  go_enter Try.func15, Try.ntmps15
  go_wp2_with (first
    | (go_at_call 9; (with_reducible refine (HN2.out _).mono ?_); rintro e w1 ⟨g, F, rfl, hD, hF, hbl⟩)
    | (go_at_call 9; (with_reducible refine (HN0.out _).mono ?_); rintro e wz ⟨rfl, rfl⟩)
    | (go_at_call 10; (with_reducible refine (HB1.out _).mono ?_); rintro e w2 ⟨q, rfl, hq, hB, hbl2⟩)
    | (go_at_call 12; go_loud (with_reducible refine (bWrite_any (k := 0) (x := alB 64 1) (hD.later hbl2) (by simp [Bd.new]) (by simp [Bd.new]) (by simp [Bd.new]) (hB.rd (alB_len 64 1) (by unfold maxLen; omega)) (fun p hp h => by cases hp; exact absurd (hD.lt q h) (Nat.not_lt.2 hq))).mono ?_); rintro e w3 ⟨rfl, F3, hD3, hfr3, hF3⟩; rw [awD_code]; change Dv w3 g awD F3 at hD3)
    | (go_at_call 13; go_must ((with_reducible refine (bCrash_any (picks := [2]) (hD3.later ((Below.refl _ _).alloc (Nat.le_refl _) (.cells #[.int .i64 2] 3))) (by rw [awD_len]; omega) (by rw [awD_len]; omega) (by rw [awD_ops]; omega) (RdI.blk (n := 1) (cap := 1) (l := [2]) [] (Blk.new w3 #[.int .i64 2] 3) rfl (by omega) (by unfold maxLen; omega) (by simp))).mono ?_)); rintro e w5 ⟨g5, F5, rfl, hD5, hF5, hbl5⟩)
    | (go_at_call 14; go_must ((with_reducible refine (HR0 hD5 (by rw [awC_len]; omega) (by rw [awC_len]; omega)).mono ?_)); rintro e w6 ⟨q6, rfl, hq6, hR6, hbl6⟩; rw [awC_row] at hR6; have hc6 : w6.cell? ⟨q6, 0, none⟩ = some (.int .u8 8) := by
        obtain ⟨b, o, e, hc⟩ := hR6.get 0 (by rw [alB_len]; omega)
        cases e
        rw [Nat.zero_add] at hc
        rw [hc]
        simp [bV, alB, alB_first]))
  go_ret
  have hfr : Below w.heap.size w w3 := by
    have h2 := hbl.trans (hbl2.mono hbl.size)
    exact h2.trans (hfr3.below h2.size hF)
  refine ⟨rfl, ?_⟩
  have h4 := hfr.trans (((Below.refl _ _).alloc (Nat.le_refl _) (.cells #[.int .i64 2] 3)).mono (B' := w.heap.size) hfr.size)
  exact (h4.trans (hbl5.mono h4.size)).trans (hbl6.mono (Nat.le_trans h4.size hbl5.size))
end Go.Proofs.Ytgehbchaamilhaa
namespace Go.Proofs.Ytgehbchaamilhaa
open Go Go.RowKit Go.Maps
/-- The program's device and the document's, both d, apart. -/
structure Tw (w : World) (g m : Nat) (d : Bd) (F FM S : Nat → Prop) : Prop where
  dv : Dv w g d F
  md : Md w m d FM S
  ap : ∀ x, F x → ¬ FM x ∧ ¬ S x
theorem Tw.later {w w' : World} {g m : Nat} {d : Bd} {F FM S : Nat → Prop} (h : Tw w g m d F FM S) (hb : Below w.heap.size w w') : Tw w' g m d F FM S := ⟨h.dv.later hb, h.md.later hb, h.ap⟩
/-- What a step writes. -/
def stB (n : Int) : List UInt8 := if n < 0 then (alB 64 n).take (n % 64).toNat else alB 64 n
/-- A step. -/
def Bd.step (d : Bd) (kind k n : Int) : Bd := if kind = 1 then d.write k (stB n) else if kind = 2 then d.flush else if kind = 3 then d.cutAt k else d
theorem Bd.write_len (d : Bd) (k : Int) (b : List UInt8) : (d.write k b).good.length = d.good.length := by
  unfold Bd.write
  split
  · rfl
  · split <;> rfl
theorem Bd.flush_len (d : Bd) : d.flush.good.length = d.good.length := by
  unfold Bd.flush
  split
  · rfl
  · simp [Bd.flushed]; rfl
theorem Bd.step_len (d : Bd) (kind k n : Int) : (d.step kind k n).good.length = d.good.length := by
  unfold Bd.step
  split
  · exact d.write_len _ _
  · split
    · exact d.flush_len
    · split <;> rfl
theorem Bd.begin_left (d : Bd) {z : Int} (h : d.left ≤ z) : d.begin.left ≤ z := by
  unfold Bd.begin
  simp only
  split
  · exact h
  · split <;> omega
theorem Bd.step_ops (d : Bd) (kind k n : Int) : (d.step kind k n).ops ≤ d.ops + 1 := by
  unfold Bd.step Bd.write Bd.flush
  split
  · split
    · omega
    · split <;> exact Nat.le_refl _
  · split
    · split <;> exact Nat.le_refl _
    · split
      · exact Nat.le_succ _
      · exact Nat.le_succ _
theorem Bd.step_left (d : Bd) (kind k n : Int) (h : d.left ≤ 9223372036854775807) (hk : k ≤ 9223372036854775807) : (d.step kind k n).left ≤ 9223372036854775807 := by
  have hb := d.begin_left h
  unfold Bd.step Bd.write Bd.flush
  split
  · split
    · exact h
    · split
      · exact hb
      · exact hb
  · split
    · split
      · exact hb
      · exact hb
    · split
      · unfold Bd.cutAt; simp only; omega
      · exact h
/-- What a step leaves. -/
def TwD (w w' : World) (g m : Nat) (d : Bd) (F FM S : Nat → Prop) : Prop := ∃ F' S', Tw w' g m d F' FM S' ∧ Fr (fun x => F x ∨ FM x) w w' ∧ (∀ x, F' x → F x ∨ w.heap.size ≤ x) ∧ ∀ x, S' x → S x ∨ w.heap.size ≤ x
theorem rd_take {w : World} {a : Option Addr} {n cap r : Nat} {l : List UInt8} (h : RdB w a n cap l) (hr : r ≤ n) : RdB w a r cap (l.take r) := by
  refine ⟨by rw [List.length_take, h.hlen, Nat.min_eq_left hr], Nat.le_trans hr h.hcap, h.hmax, fun i hi => ?_, h.hnil⟩
  rw [List.length_take] at hi
  obtain ⟨b, o, e, hc⟩ := h.get i (by omega)
  exact ⟨b, o, e, by rw [List.getElem_take]; exact hc⟩
theorem ord1 {wt : Nat → Nat → Bool} {a b i s k : Nat} (hs : s < 1) (hk : [a, b][s]? = some k) (hp : Path wt i a) : Path wt i k := by
  obtain rfl : s = 0 := by omega
  simp at hk
  subst hk; exact hp
set_option maxRecDepth 100000 in
set_option maxHeartbeats 2000000 in
theorem bDoes_write {w : World} {g m : Nat} {k n : Int} {d : Bd} {F FM S : Nat → Prop} (h : Tw w g m d F FM S) (hN : d.good.length ≤ 1000) (ho : d.ops < 1000000) (hl : d.left ≤ 9223372036854775807) :
    Calls Try.prog 17 #[.pointer (some ⟨g, 0, none⟩), .pointer (some ⟨m, 0, none⟩), .agg #[.int .i64 1, .int .i64 k, .int .i64 n]] w fun e w' => e = .returned (.bool true) ∧ TwD w w' g m (d.write k (stB n)) F FM S := by
  have HT := Lib.hid h
  have HN : Hid (d.good.length ≤ 100000) := Lib.hid (by omega); have HO := Lib.hid ho; have HL := Lib.hid hl
  have hb1 : ∀ w, Calls Try.prog 10 #[.int .i64 64, .int .i64 n] w fun e w' => ∃ q, e = .returned (.slice (some ⟨q, 0, none⟩) 64 64) ∧ w.heap.size ≤ q ∧ Blk w' q ((alB 64 n).map bV) 5 ∧ Below w.heap.size w w' := fun w => alBlock_any (n := 64) (k := n) (by omega)
  have HB1 := Lib.hid hb1
  clear h hN ho hl hb1
  by_cases hn : n < 0
  · have a1 : decide (n < 0) = true := decide_eq_true hn
    obtain ⟨r, hr⟩ : ∃ r : Nat, n % 64 = (r : Int) := ⟨(n % 64).toNat, by omega⟩
    have hr64 : r ≤ 64 := by omega
    have HX : Hid (stB n = (alB 64 n).take r) := Lib.hid (by unfold stB; rw [if_pos hn, hr]; rfl)
    have hr0 : (0 : Int) ≤ (r : Int) := by omega
    have hr1 : (r : Int) ≤ 64 := by omega
    have HR := Lib.hid hr; have HR64 := Lib.hid hr64
    clear hn hr
    go_enter Try.func17, Try.ntmps17
    go_upto_region 1 with fail
    refine wp_gen (fun W => Blk W w.heap.size [.int .i64 1, .int .i64 k, .int .i64 n] 42 ∧ Below w.heap.size w W) ⟨Blk.new w _ 42, (Below.refl _ _).alloc (Nat.le_refl _) _⟩ (fun w1 hW => ?_)
    obtain ⟨hX, hbx⟩ := hW
    have HXB := Lib.hid hX; have HBX := Lib.hid hbx
    have x0 : w1.cell? ⟨w.heap.size, 0, none⟩ = some (.int .i64 1) := hX.cell 0
    have x2 : w1.cell? ⟨w.heap.size, 2, none⟩ = some (.int .i64 n) := hX.cell 2
    clear hX hbx
    go_upto_region 6 with (first
      | (go_at_call 10; (with_reducible refine (HB1.out _).mono ?_); rintro e w2 ⟨q, rfl, hq, hB, hbl⟩; have y2 : w2.cell? ⟨w.heap.size, 2, none⟩ = some (.int .i64 n) := (hbl.cell (p := ⟨w.heap.size, 2, none⟩) HXB.out.lt).trans x2)
      | (go_at_call 11; (with_reducible refine (alRound_any (n := 64) (by omega) (by omega)).mono ?_); rintro e wz ⟨rfl, rfl⟩; rw [HR.out]))
    have hrd : RdB w2 (some ⟨q, 0, none⟩) r 64 (stB n) := by rw [HX.out]; exact rd_take (hB.rd (alB_len 64 n) (by unfold maxLen; omega)) HR64.out
    clear hB a1 hr0 hr1 hr64 HX HR
    have HT2 := Lib.hid (HT.out.later (Below.call HBX.out hbl))
    have HRD := Lib.hid hrd
    have HXC : Hid (w2.cell? ⟨w.heap.size, 1, none⟩ = some (.int .i64 k) ∧ w.heap.size < w2.heap.size) := Lib.hid ⟨(hbl.cell (p := ⟨w.heap.size, 1, none⟩) HXB.out.lt).trans (HXB.out.cell 1), Nat.lt_of_lt_of_le HXB.out.lt hbl.size⟩
    have HNF : Hid (¬ F w.heap.size) := Lib.hid (fun h => Nat.lt_irrefl _ (HT.out.dv.lt _ h))
    have HQ : Hid (w.heap.size ≤ q) := Lib.hid (Nat.le_trans HBX.out.size hq)
    have HB2 := Lib.hid (Below.call HBX.out hbl)
    clear x0 x2 y2 hrd hbl hq
    refine rgQ 12 [(6, 11), (16, 0), (0, 1), (0, 2), (0, 3), (0, 4), (0, 5), (0, 6), (0, 7), (0, 8), (0, 9), (0, 10)] [.pointer (some ⟨g, 0, none⟩), .pointer (some ⟨w.heap.size, 1, none⟩), .int .i64 k, .slice (some ⟨q, 0, none⟩) r 64, .int .i64 (d.writeC k (stB n)), .pointer (some ⟨m, 0, none⟩), .pointer (some ⟨w.heap.size, 1, none⟩), .int .i64 k, .slice (some ⟨q, 0, none⟩) r 64, .int .i64 (d.writeC k (stB n)), .bool true, .bool true] [4, 9] (fun j W => if j = 0 then Below w2.heap.size w2 W else if j = 1 then (∃ F', Dv W g (d.write k (stB n)) F' ∧ Fr F w2 W ∧ ∀ y, F' y → F y ∨ w2.heap.size ≤ y) else TwD w2 W g m (d.write k (stB n)) F FM S) ?_ (by intro k hk; simp at hk; omega) ?_ (fun u6 W6 hP hv => ?_)
    · simp only [if_pos]; exact (Below.refl _ _).drew
    · refine ⟨?_, ?_, ?_, ?_, ?_, ?_, ?_, ?_, ?_, ?_, ?_, ?_, trivial⟩
      · refine kkP (by decide) fun u W j hP h1 h2 hu => ?_
        clear hP h1 h2
        go_simp
      · refine kkP (by decide) fun u W j hP h1 h2 hu => ?_
        clear hP h1 h2
        go_simp
      · refine kkP (by decide) fun u W j hP h1 h2 hu => ?_
        have e1 : u 1 = .pointer (some ⟨w.heap.size, 1, none⟩) := hu 1 (by kernel_rfl)
        have hj : j = 0 := by have := h2 0 4 rfl (.one (by kernel_rfl)); omega
        subst hj
        have hP : Below w2.heap.size w2 W := by simpa using hP
        have hcx : W.cell? ⟨w.heap.size, 1, none⟩ = some (.int .i64 k) := (hP.cell (p := ⟨w.heap.size, 1, none⟩) HXC.out.2).trans HXC.out.1
        go_simp
      · refine kkP (by decide) fun u W j hP h1 h2 hu => ?_
        clear hP h1 h2
        go_simp
      · refine kkC (t := 0) rfl (by decide) (fun s k hs => absurd hs (Nat.not_lt_zero s)) fun u W hP hu K hK => ?_
        have e0 : u 0 = .pointer (some ⟨g, 0, none⟩) := hu 0 (by kernel_rfl)
        have e2 : u 2 = .int .i64 k := hu 2 (by kernel_rfl)
        have e3 : u 3 = .slice (some ⟨q, 0, none⟩) r 64 := hu 3 (by kernel_rfl)
        have hP : Below w2.heap.size w2 W := by simpa using hP
        go_simp
        go_at_call 12
        (with_reducible refine (bWrite_any (HT2.out.dv.later hP) HN.out HO.out HL.out (HRD.out.below hP) (fun p hp h => by cases hp; exact absurd (HT.out.dv.lt _ h) (Nat.not_lt.2 HQ.out))).mono ?_); rintro e w6 ⟨rfl, F', hD', hf', hF'⟩
        have hk9 := hK.out w6 (by simp only [Nat.reduceAdd, if_neg (show ¬ (1 : Nat) = 0 by omega), if_true]; exact ⟨F', hD', (Fr.of_below hP).trans hf' (fun y hy => .inl hy), fun y hy => (hF' y hy).imp id (fun h => Nat.le_trans hP.size h)⟩)
        first | exact hk9 | (simp only [List.getD_cons_zero, List.getD_cons_succ, e0, e2, e3] at hk9; exact hk9)
      · refine kkP (by decide) fun u W j hP h1 h2 hu => ?_
        clear hP h1 h2
        go_simp
      · refine kkP (by decide) fun u W j hP h1 h2 hu => ?_
        clear hP h1 h2
        go_simp
      · refine kkP (by decide) fun u W j hP h1 h2 hu => ?_
        have e6 : u 6 = .pointer (some ⟨w.heap.size, 1, none⟩) := hu 6 (by kernel_rfl)
        have hj : j = 0 ∨ j = 1 := by have := h2 1 9 rfl (.one (by kernel_rfl)); omega
        have hcx : W.cell? ⟨w.heap.size, 1, none⟩ = some (.int .i64 k) := by
          rcases hj with rfl | rfl
          · have hP : Below w2.heap.size w2 W := by simpa using hP
            exact (hP.cell (p := ⟨w.heap.size, 1, none⟩) HXC.out.2).trans HXC.out.1
          · have hP : ∃ F', Dv W g (d.write k (stB n)) F' ∧ Fr F w2 W ∧ ∀ y, F' y → F y ∨ w2.heap.size ≤ y := by simpa using hP
            obtain ⟨F', _, hf', _⟩ := hP
            exact (hf'.cell (p := ⟨w.heap.size, 1, none⟩) HXC.out.2 HNF.out).trans HXC.out.1
        clear hP h1 h2 hj
        go_simp
      · refine kkP (by decide) fun u W j hP h1 h2 hu => ?_
        clear hP h1 h2
        go_simp
      · refine kkC (t := 1) rfl (by decide) (fun s k hs hk => ord1 hs hk (.one (by kernel_rfl))) fun u W hP hu K hK => ?_
        have e5 : u 5 = .pointer (some ⟨m, 0, none⟩) := hu 5 (by kernel_rfl)
        have e7 : u 7 = .int .i64 k := hu 7 (by kernel_rfl)
        have e8 : u 8 = .slice (some ⟨q, 0, none⟩) r 64 := hu 8 (by kernel_rfl)
        have e4 : u 4 = .int .i64 (d.writeC k (stB n)) := hu 4 (by kernel_rfl)
        have hP : ∃ F', Dv W g (d.write k (stB n)) F' ∧ Fr F w2 W ∧ ∀ y, F' y → F y ∨ w2.heap.size ≤ y := by simpa using hP
        obtain ⟨F', hD', hf', hF'⟩ := hP
        have hM' := HT2.out.md.frame hf' (fun x hx h => (HT.out.ap x h).1 hx) (fun x hx h => (HT.out.ap x h).2 hx)
        have hR' : RdB W (some ⟨q, 0, none⟩) r 64 (stB n) := hf'.rd HRD.out (fun p hp h => by cases hp; exact absurd (HT.out.dv.lt _ h) (Nat.not_lt.2 HQ.out))
        go_simp
        go_at_call 32
        (with_reducible refine (dWrite_any hM' HN.out HO.out HL.out hR' (fun p hp h => by cases hp; exact absurd (HT.out.md.lt.1 _ h) (Nat.not_lt.2 HQ.out))).mono ?_); rintro e w6 ⟨rfl, S', hM9, hf9, hS9⟩
        have hFM : ∀ x, FM x → x < w2.heap.size := HT2.out.md.lt.1
        have hTw : TwD w2 w6 g m (d.write k (stB n)) F FM S := ⟨F', S', ⟨hD'.frame hf9 (fun x hx h => by
            rcases hF' x hx with h1 | h1
            · exact (HT.out.ap x h1).1 h
            · have := hFM x h; omega), hM9, fun x hx => ⟨fun h => by
            rcases hF' x hx with h1 | h1
            · exact (HT.out.ap x h1).1 h
            · have := hFM x h; omega, fun h => by
            have hl := hD'.lt x hx
            rcases hS9 x h with h2 | h2
            · rcases hF' x hx with h1 | h1
              · exact (HT.out.ap x h1).2 h2
              · have := HT2.out.md.lt.2.1 x h2; omega
            · omega⟩⟩, (hf'.mono (F' := fun x => F x ∨ FM x) (fun x hx => .inl (.inl hx))).trans (hf9.mono (F' := fun x => F x ∨ FM x) (fun x hx => .inl (.inr hx))) (fun x hx => .inl hx), hF', fun x hx => (hS9 x hx).imp id (fun h => Nat.le_trans hf'.size h)⟩
        have hk9 := hK.out w6 (by simpa using hTw)
        first | exact hk9 | (simp only [List.getD_cons_zero, List.getD_cons_succ, e4, e5, e7, e8] at hk9; exact hk9)
      · refine kkP (by decide) fun u W j hP h1 h2 hu => ?_
        have e4 : u 4 = .int .i64 (d.writeC k (stB n)) := hu 4 (by kernel_rfl)
        have e9 : u 9 = .int .i64 (d.writeC k (stB n)) := hu 9 (by kernel_rfl)
        clear hP h1 h2
        go_simp
        try simp
      · refine kkP (by decide) fun u W j hP h1 h2 hu => ?_
        have e10 : u 10 = .bool true := hu 10 (by kernel_rfl)
        clear hP h1 h2
        go_simp
    have HTW : Hid (TwD w2 W6 g m (d.write k (stB n)) F FM S) := Lib.hid (by simpa using hP)
    have hu11 : u6 11 = .bool true := hv 11 (by omega)
    clear hP hv
    go_wp2
    go_ret
    obtain ⟨F', S', t1, t2, t3, t4⟩ := HTW.out
    exact ⟨congrArg Ending.returned hu11, F', S', t1, (Fr.of_below (F := fun x => F x ∨ FM x) HB2.out).trans t2 (fun x hx => .inl hx), fun x hx => (t3 x hx).imp id (fun h => Nat.le_trans HB2.out.size h), fun x hx => (t4 x hx).imp id (fun h => Nat.le_trans HB2.out.size h)⟩
  · have a1 : decide (n < 0) = false := decide_eq_false hn
    have HX : Hid (stB n = alB 64 n) := Lib.hid (by unfold stB; rw [if_neg hn])
    clear hn
    go_enter Try.func17, Try.ntmps17
    go_upto_region 1 with fail
    refine wp_gen (fun W => Blk W w.heap.size [.int .i64 1, .int .i64 k, .int .i64 n] 42 ∧ Below w.heap.size w W) ⟨Blk.new w _ 42, (Below.refl _ _).alloc (Nat.le_refl _) _⟩ (fun w1 hW => ?_)
    obtain ⟨hX, hbx⟩ := hW
    have HXB := Lib.hid hX; have HBX := Lib.hid hbx
    have x0 : w1.cell? ⟨w.heap.size, 0, none⟩ = some (.int .i64 1) := hX.cell 0
    have x2 : w1.cell? ⟨w.heap.size, 2, none⟩ = some (.int .i64 n) := hX.cell 2
    clear hX hbx
    go_upto_region 6 with (first
      | (go_at_call 10; (with_reducible refine (HB1.out _).mono ?_); rintro e w2 ⟨q, rfl, hq, hB, hbl⟩; have y2 : w2.cell? ⟨w.heap.size, 2, none⟩ = some (.int .i64 n) := (hbl.cell (p := ⟨w.heap.size, 2, none⟩) HXB.out.lt).trans x2)
      | fail)
    have hrd : RdB w2 (some ⟨q, 0, none⟩) 64 64 (stB n) := by rw [HX.out]; exact hB.rd (alB_len 64 n) (by unfold maxLen; omega)
    clear hB a1 HX
    have HT2 := Lib.hid (HT.out.later (Below.call HBX.out hbl))
    have HRD := Lib.hid hrd
    have HXC : Hid (w2.cell? ⟨w.heap.size, 1, none⟩ = some (.int .i64 k) ∧ w.heap.size < w2.heap.size) := Lib.hid ⟨(hbl.cell (p := ⟨w.heap.size, 1, none⟩) HXB.out.lt).trans (HXB.out.cell 1), Nat.lt_of_lt_of_le HXB.out.lt hbl.size⟩
    have HNF : Hid (¬ F w.heap.size) := Lib.hid (fun h => Nat.lt_irrefl _ (HT.out.dv.lt _ h))
    have HQ : Hid (w.heap.size ≤ q) := Lib.hid (Nat.le_trans HBX.out.size hq)
    have HB2 := Lib.hid (Below.call HBX.out hbl)
    clear x0 x2 y2 hrd hbl hq
    refine rgQ 12 [(6, 11), (16, 0), (0, 1), (0, 2), (0, 3), (0, 4), (0, 5), (0, 6), (0, 7), (0, 8), (0, 9), (0, 10)] [.pointer (some ⟨g, 0, none⟩), .pointer (some ⟨w.heap.size, 1, none⟩), .int .i64 k, .slice (some ⟨q, 0, none⟩) 64 64, .int .i64 (d.writeC k (stB n)), .pointer (some ⟨m, 0, none⟩), .pointer (some ⟨w.heap.size, 1, none⟩), .int .i64 k, .slice (some ⟨q, 0, none⟩) 64 64, .int .i64 (d.writeC k (stB n)), .bool true, .bool true] [4, 9] (fun j W => if j = 0 then Below w2.heap.size w2 W else if j = 1 then (∃ F', Dv W g (d.write k (stB n)) F' ∧ Fr F w2 W ∧ ∀ y, F' y → F y ∨ w2.heap.size ≤ y) else TwD w2 W g m (d.write k (stB n)) F FM S) ?_ (by intro k hk; simp at hk; omega) ?_ (fun u6 W6 hP hv => ?_)
    · simp only [if_pos]; exact (Below.refl _ _).drew
    · refine ⟨?_, ?_, ?_, ?_, ?_, ?_, ?_, ?_, ?_, ?_, ?_, ?_, trivial⟩
      · refine kkP (by decide) fun u W j hP h1 h2 hu => ?_
        clear hP h1 h2
        go_simp
      · refine kkP (by decide) fun u W j hP h1 h2 hu => ?_
        clear hP h1 h2
        go_simp
      · refine kkP (by decide) fun u W j hP h1 h2 hu => ?_
        have e1 : u 1 = .pointer (some ⟨w.heap.size, 1, none⟩) := hu 1 (by kernel_rfl)
        have hj : j = 0 := by have := h2 0 4 rfl (.one (by kernel_rfl)); omega
        subst hj
        have hP : Below w2.heap.size w2 W := by simpa using hP
        have hcx : W.cell? ⟨w.heap.size, 1, none⟩ = some (.int .i64 k) := (hP.cell (p := ⟨w.heap.size, 1, none⟩) HXC.out.2).trans HXC.out.1
        go_simp
      · refine kkP (by decide) fun u W j hP h1 h2 hu => ?_
        clear hP h1 h2
        go_simp
      · refine kkC (t := 0) rfl (by decide) (fun s k hs => absurd hs (Nat.not_lt_zero s)) fun u W hP hu K hK => ?_
        have e0 : u 0 = .pointer (some ⟨g, 0, none⟩) := hu 0 (by kernel_rfl)
        have e2 : u 2 = .int .i64 k := hu 2 (by kernel_rfl)
        have e3 : u 3 = .slice (some ⟨q, 0, none⟩) 64 64 := hu 3 (by kernel_rfl)
        have hP : Below w2.heap.size w2 W := by simpa using hP
        go_simp
        go_at_call 12
        (with_reducible refine (bWrite_any (HT2.out.dv.later hP) HN.out HO.out HL.out (HRD.out.below hP) (fun p hp h => by cases hp; exact absurd (HT.out.dv.lt _ h) (Nat.not_lt.2 HQ.out))).mono ?_); rintro e w6 ⟨rfl, F', hD', hf', hF'⟩
        have hk9 := hK.out w6 (by simp only [Nat.reduceAdd, if_neg (show ¬ (1 : Nat) = 0 by omega), if_true]; exact ⟨F', hD', (Fr.of_below hP).trans hf' (fun y hy => .inl hy), fun y hy => (hF' y hy).imp id (fun h => Nat.le_trans hP.size h)⟩)
        first | exact hk9 | (simp only [List.getD_cons_zero, List.getD_cons_succ, e0, e2, e3] at hk9; exact hk9)
      · refine kkP (by decide) fun u W j hP h1 h2 hu => ?_
        clear hP h1 h2
        go_simp
      · refine kkP (by decide) fun u W j hP h1 h2 hu => ?_
        clear hP h1 h2
        go_simp
      · refine kkP (by decide) fun u W j hP h1 h2 hu => ?_
        have e6 : u 6 = .pointer (some ⟨w.heap.size, 1, none⟩) := hu 6 (by kernel_rfl)
        have hj : j = 0 ∨ j = 1 := by have := h2 1 9 rfl (.one (by kernel_rfl)); omega
        have hcx : W.cell? ⟨w.heap.size, 1, none⟩ = some (.int .i64 k) := by
          rcases hj with rfl | rfl
          · have hP : Below w2.heap.size w2 W := by simpa using hP
            exact (hP.cell (p := ⟨w.heap.size, 1, none⟩) HXC.out.2).trans HXC.out.1
          · have hP : ∃ F', Dv W g (d.write k (stB n)) F' ∧ Fr F w2 W ∧ ∀ y, F' y → F y ∨ w2.heap.size ≤ y := by simpa using hP
            obtain ⟨F', _, hf', _⟩ := hP
            exact (hf'.cell (p := ⟨w.heap.size, 1, none⟩) HXC.out.2 HNF.out).trans HXC.out.1
        clear hP h1 h2 hj
        go_simp
      · refine kkP (by decide) fun u W j hP h1 h2 hu => ?_
        clear hP h1 h2
        go_simp
      · refine kkC (t := 1) rfl (by decide) (fun s k hs hk => ord1 hs hk (.one (by kernel_rfl))) fun u W hP hu K hK => ?_
        have e5 : u 5 = .pointer (some ⟨m, 0, none⟩) := hu 5 (by kernel_rfl)
        have e7 : u 7 = .int .i64 k := hu 7 (by kernel_rfl)
        have e8 : u 8 = .slice (some ⟨q, 0, none⟩) 64 64 := hu 8 (by kernel_rfl)
        have e4 : u 4 = .int .i64 (d.writeC k (stB n)) := hu 4 (by kernel_rfl)
        have hP : ∃ F', Dv W g (d.write k (stB n)) F' ∧ Fr F w2 W ∧ ∀ y, F' y → F y ∨ w2.heap.size ≤ y := by simpa using hP
        obtain ⟨F', hD', hf', hF'⟩ := hP
        have hM' := HT2.out.md.frame hf' (fun x hx h => (HT.out.ap x h).1 hx) (fun x hx h => (HT.out.ap x h).2 hx)
        have hR' : RdB W (some ⟨q, 0, none⟩) 64 64 (stB n) := hf'.rd HRD.out (fun p hp h => by cases hp; exact absurd (HT.out.dv.lt _ h) (Nat.not_lt.2 HQ.out))
        go_simp
        go_at_call 32
        (with_reducible refine (dWrite_any hM' HN.out HO.out HL.out hR' (fun p hp h => by cases hp; exact absurd (HT.out.md.lt.1 _ h) (Nat.not_lt.2 HQ.out))).mono ?_); rintro e w6 ⟨rfl, S', hM9, hf9, hS9⟩
        have hFM : ∀ x, FM x → x < w2.heap.size := HT2.out.md.lt.1
        have hTw : TwD w2 w6 g m (d.write k (stB n)) F FM S := ⟨F', S', ⟨hD'.frame hf9 (fun x hx h => by
            rcases hF' x hx with h1 | h1
            · exact (HT.out.ap x h1).1 h
            · have := hFM x h; omega), hM9, fun x hx => ⟨fun h => by
            rcases hF' x hx with h1 | h1
            · exact (HT.out.ap x h1).1 h
            · have := hFM x h; omega, fun h => by
            have hl := hD'.lt x hx
            rcases hS9 x h with h2 | h2
            · rcases hF' x hx with h1 | h1
              · exact (HT.out.ap x h1).2 h2
              · have := HT2.out.md.lt.2.1 x h2; omega
            · omega⟩⟩, (hf'.mono (F' := fun x => F x ∨ FM x) (fun x hx => .inl (.inl hx))).trans (hf9.mono (F' := fun x => F x ∨ FM x) (fun x hx => .inl (.inr hx))) (fun x hx => .inl hx), hF', fun x hx => (hS9 x hx).imp id (fun h => Nat.le_trans hf'.size h)⟩
        have hk9 := hK.out w6 (by simpa using hTw)
        first | exact hk9 | (simp only [List.getD_cons_zero, List.getD_cons_succ, e4, e5, e7, e8] at hk9; exact hk9)
      · refine kkP (by decide) fun u W j hP h1 h2 hu => ?_
        have e4 : u 4 = .int .i64 (d.writeC k (stB n)) := hu 4 (by kernel_rfl)
        have e9 : u 9 = .int .i64 (d.writeC k (stB n)) := hu 9 (by kernel_rfl)
        clear hP h1 h2
        go_simp
        try simp
      · refine kkP (by decide) fun u W j hP h1 h2 hu => ?_
        have e10 : u 10 = .bool true := hu 10 (by kernel_rfl)
        clear hP h1 h2
        go_simp
    have HTW : Hid (TwD w2 W6 g m (d.write k (stB n)) F FM S) := Lib.hid (by simpa using hP)
    have hu11 : u6 11 = .bool true := hv 11 (by omega)
    clear hP hv
    go_wp2
    go_ret
    obtain ⟨F', S', t1, t2, t3, t4⟩ := HTW.out
    exact ⟨congrArg Ending.returned hu11, F', S', t1, (Fr.of_below (F := fun x => F x ∨ FM x) HB2.out).trans t2 (fun x hx => .inl hx), fun x hx => (t3 x hx).imp id (fun h => Nat.le_trans HB2.out.size h), fun x hx => (t4 x hx).imp id (fun h => Nat.le_trans HB2.out.size h)⟩
end Go.Proofs.Ytgehbchaamilhaa
namespace Go.Proofs.Ytgehbchaamilhaa
open Go Go.RowKit Go.Maps
theorem Tw.mdF {w w' : World} {g m : Nat} {d : Bd} {F FM S : Nat → Prop} (h : Tw w g m d F FM S) (hf : Fr F w w') : Md w' m d FM S := h.md.frame hf (fun x hx h1 => (h.ap x h1).1 hx) (fun x hx h1 => (h.ap x h1).2 hx)
theorem Tw.own {w : World} {g m : Nat} {d : Bd} {F FM S : Nat → Prop} (h : Tw w g m d F FM S) : F g := by obtain ⟨gb, c, mb, _, hR⟩ := h.dv.ex; exact hR.own
theorem Tw.mdG {w w' : World} {g m : Nat} {d : Bd} {F FM S : Nat → Prop} (h : Tw w g m d F FM S) (hf : Fr (fun x => x = g) w w') : Md w' m d FM S := h.mdF (hf.mono (fun x hx => .inl (by cases hx; exact h.own)))
set_option maxRecDepth 100000 in
set_option maxHeartbeats 2000000 in
theorem bDoes_flush {w : World} {g m : Nat} {k n : Int} {d : Bd} {F FM S : Nat → Prop} (h : Tw w g m d F FM S) (h0 : 0 < d.good.length) (hN : d.good.length ≤ 1000) (ho : d.ops < 1000000) (hl : d.left ≤ 9223372036854775807) :
    Calls Try.prog 17 #[.pointer (some ⟨g, 0, none⟩), .pointer (some ⟨m, 0, none⟩), .agg #[.int .i64 2, .int .i64 k, .int .i64 n]] w fun e w' => e = .returned (.bool true) ∧ TwD w w' g m d.flush F FM S := by
  have HT := Lib.hid h
  have H0 := Lib.hid h0; have HN : Hid (d.good.length ≤ 100000) := Lib.hid (by omega); have HO := Lib.hid ho; have HL := Lib.hid hl
  clear h h0 hN ho hl
  go_enter Try.func17, Try.ntmps17
  go_upto_region 1 with fail
  refine wp_gen (fun W => Blk W w.heap.size [.int .i64 2, .int .i64 k, .int .i64 n] 42 ∧ Below w.heap.size w W) ⟨Blk.new w _ 42, (Below.refl _ _).alloc (Nat.le_refl _) _⟩ (fun w1 hW => ?_)
  obtain ⟨hX, hbx⟩ := hW
  have x0 : w1.cell? ⟨w.heap.size, 0, none⟩ = some (.int .i64 2) := hX.cell 0
  have HBX := Lib.hid hbx
  have HTB := Lib.hid (HT.out.later hbx)
  clear hX hbx
  go_wp2_with (first
    | (go_at_call 21; (with_reducible refine (bFlush_any HTB.out.dv H0.out HN.out HO.out HL.out).mono ?_); rintro e w2 ⟨rfl, F', hD, hf, hF'⟩)
    | (go_at_call 33; (with_reducible refine (dFlush_any (HTB.out.mdF hf) HN.out HO.out HL.out).mono ?_); rintro e w3 ⟨rfl, hM, hf3⟩))
  go_ret
  have hFM : ∀ x, FM x → x < w1.heap.size := HTB.out.md.lt.1
  have hSM : ∀ x, S x → x < w1.heap.size := HTB.out.md.lt.2.1
  have hap : ∀ x, F' x → ¬ FM x ∧ ¬ S x := fun x hx => by
    rcases hF' x hx with h | h
    · exact HTB.out.ap x h
    · exact ⟨fun h2 => by have := hFM x h2; omega, fun h2 => by have := hSM x h2; omega⟩
  exact ⟨by simp, F', S, ⟨hD.frame hf3 (fun x hx => (hap x hx).1), hM, hap⟩, (Fr.of_below (F := fun x => F x ∨ FM x) HBX.out).trans ((hf.mono (F' := fun x => F x ∨ FM x) (fun x hx => .inl (.inl hx))).trans (hf3.mono (F' := fun x => F x ∨ FM x) (fun x hx => .inl (.inr hx))) (fun x hx => .inl hx)) (fun x hx => .inl hx), fun x hx => (hF' x hx).imp id (fun h => Nat.le_trans HBX.out.size h), fun x hx => .inl hx⟩
set_option maxRecDepth 100000 in
set_option maxHeartbeats 2000000 in
theorem bDoes_cut {w : World} {g m : Nat} {k n : Int} {d : Bd} {F FM S : Nat → Prop} (h : Tw w g m d F FM S) (hk : -9223372036854775808 ≤ k) :
    Calls Try.prog 17 #[.pointer (some ⟨g, 0, none⟩), .pointer (some ⟨m, 0, none⟩), .agg #[.int .i64 3, .int .i64 k, .int .i64 n]] w fun e w' => e = .returned (.bool true) ∧ TwD w w' g m (d.cutAt k) F FM S := by
  have HT := Lib.hid h; have HK := Lib.hid hk
  clear h hk
  go_enter Try.func17, Try.ntmps17
  go_upto_region 1 with fail
  refine wp_gen (fun W => Blk W w.heap.size [.int .i64 3, .int .i64 k, .int .i64 n] 42 ∧ Below w.heap.size w W) ⟨Blk.new w _ 42, (Below.refl _ _).alloc (Nat.le_refl _) _⟩ (fun w1 hW => ?_)
  obtain ⟨hX, hbx⟩ := hW
  have x0 : w1.cell? ⟨w.heap.size, 0, none⟩ = some (.int .i64 3) := hX.cell 0
  have x1 : w1.cell? ⟨w.heap.size, 1, none⟩ = some (.int .i64 k) := hX.cell 1
  have HXB := Lib.hid hX
  have HBX := Lib.hid hbx
  have HTB := Lib.hid (HT.out.later hbx)
  clear hX hbx
  go_wp2_with (first
    | (go_at_call 20; (with_reducible refine (bCut_any HTB.out.dv).mono ?_); rintro e w2 ⟨rfl, hD, hf⟩; have y1 : w2.cell? ⟨w.heap.size, 1, none⟩ = some (.int .i64 k) := (hf.cell (p := ⟨w.heap.size, 1, none⟩) HXB.out.lt (fun h => by have h : w.heap.size = g := h; have h2 := HT.out.dv.lt g (by obtain ⟨gb, c, mb, _, hR⟩ := HT.out.dv.ex; exact hR.own); omega)).trans x1)
    | (go_at_call 34; (with_reducible refine (dCut_any (HTB.out.mdG hf) HK.out).mono ?_); rintro e w3 ⟨rfl, hM, hf3⟩))
  go_ret
  have hFg : F g := by obtain ⟨gb, c, mb, _, hR⟩ := HT.out.dv.ex; exact hR.own
  have hFm : FM m := by obtain ⟨gg, cg, gw, cw, l, _, _, _, hR⟩ := HT.out.md.ex; exact hR.own.1
  exact ⟨rfl, F, S, ⟨hD.frame hf3 (fun x hx h => by cases h; exact (HT.out.ap _ hx).1 hFm), hM, HT.out.ap⟩, (Fr.of_below (F := fun x => F x ∨ FM x) HBX.out).trans ((hf.mono (F' := fun x => F x ∨ FM x) (fun x hx => .inl (.inl (by cases hx; exact hFg)))).trans (hf3.mono (F' := fun x => F x ∨ FM x) (fun x hx => .inl (.inr (by cases hx; exact hFm)))) (fun x hx => .inl hx)) (fun x hx => .inl hx), fun x hx => .inl hx, fun x hx => .inl hx⟩
set_option maxRecDepth 100000 in
set_option maxHeartbeats 2000000 in
theorem bDoes_none {w : World} {g m : Nat} {kind k n : Int} {d : Bd} {F FM S : Nat → Prop} (h : Tw w g m d F FM S) (h1 : kind ≠ 1) (h2 : kind ≠ 2) (h3 : kind ≠ 3) :
    Calls Try.prog 17 #[.pointer (some ⟨g, 0, none⟩), .pointer (some ⟨m, 0, none⟩), .agg #[.int .i64 kind, .int .i64 k, .int .i64 n]] w fun e w' => e = .returned (.bool true) ∧ TwD w w' g m d F FM S := by
  have HT := Lib.hid h
  have e1 : (kind == 1) = false := beq_eq_false_iff_ne.2 h1
  have e2 : (kind == 2) = false := beq_eq_false_iff_ne.2 h2
  have e3 : (kind == 3) = false := beq_eq_false_iff_ne.2 h3
  clear h h1 h2 h3
  go_enter Try.func17, Try.ntmps17
  go_upto_region 1 with fail
  refine wp_gen (fun W => Blk W w.heap.size [.int .i64 kind, .int .i64 k, .int .i64 n] 42 ∧ Below w.heap.size w W) ⟨Blk.new w _ 42, (Below.refl _ _).alloc (Nat.le_refl _) _⟩ (fun w1 hW => ?_)
  obtain ⟨hX, hbx⟩ := hW
  have x0 : w1.cell? ⟨w.heap.size, 0, none⟩ = some (.int .i64 kind) := hX.cell 0
  have HBX := Lib.hid hbx
  have HTB := Lib.hid (HT.out.later hbx)
  clear hX hbx
  go_wp2
  go_ret
  exact ⟨rfl, F, S, HTB.out, Fr.of_below HBX.out, fun x hx => .inl hx, fun x hx => .inl hx⟩
theorem bDoes_any {w : World} {g m : Nat} {kind k n : Int} {d : Bd} {F FM S : Nat → Prop} (h : Tw w g m d F FM S) (h0 : 0 < d.good.length) (hN : d.good.length ≤ 1000) (ho : d.ops < 1000000) (hl : d.left ≤ 9223372036854775807) (hk : -9223372036854775808 ≤ k) :
    Calls Try.prog 17 #[.pointer (some ⟨g, 0, none⟩), .pointer (some ⟨m, 0, none⟩), .agg #[.int .i64 kind, .int .i64 k, .int .i64 n]] w fun e w' => e = .returned (.bool true) ∧ TwD w w' g m (d.step kind k n) F FM S := by
  unfold Bd.step
  by_cases h1 : kind = 1
  · subst h1; rw [if_pos rfl]; exact bDoes_write h hN ho hl
  · rw [if_neg h1]
    by_cases h2 : kind = 2
    · subst h2; rw [if_pos rfl]; exact bDoes_flush h h0 hN ho hl
    · rw [if_neg h2]
      by_cases h3 : kind = 3
      · subst h3; rw [if_pos rfl]; exact bDoes_cut h hk
      · rw [if_neg h3]; exact bDoes_none h h1 h2 h3
end Go.Proofs.Ytgehbchaamilhaa
namespace Go.Proofs.Ytgehbchaamilhaa
open Go Go.RowKit Go.Maps
theorem drewN_below (w : World) (n : Nat) : Below w.heap.size w (w.drewN n) := below_drewN (Below.refl _ _) _
theorem bLen_q {w : World} {g n : Nat} {d : Bd} {F : Nat → Prop} (h : Dv w g d F) : Calls Try.prog 26 #[.pointer (some ⟨g, 0, none⟩)] (w.drewN n) fun e w'' => e = .returned (.int .i64 (d.good.length : Nat)) ∧ ∃ m, w'' = w.drewN m := (bLen_any (h.later (drewN_below w n))).mono fun _ _ ⟨he, hw⟩ => ⟨he, n, hw.symm⟩
theorem bOps_q {w : World} {g n : Nat} {d : Bd} {F : Nat → Prop} (h : Dv w g d F) : Calls Try.prog 22 #[.pointer (some ⟨g, 0, none⟩)] (w.drewN n) fun e w'' => e = .returned (.int .i64 (d.ops : Nat)) ∧ ∃ m, w'' = w.drewN m := (bOps_any (h.later (drewN_below w n))).mono fun _ _ ⟨he, hw⟩ => ⟨he, n, hw.symm⟩
theorem bOff_q {w : World} {g n : Nat} {d : Bd} {F : Nat → Prop} (h : Dv w g d F) (h0 : 0 < d.good.length) : Calls Try.prog 23 #[.pointer (some ⟨g, 0, none⟩)] (w.drewN n) fun e w'' => e = .returned (.bool d.off) ∧ ∃ m, w'' = w.drewN m := (bOff_any (h.later (drewN_below w n)) h0).mono fun _ _ ⟨he, hw⟩ => ⟨he, n, hw.symm⟩
set_option maxRecDepth 100000 in
set_option maxHeartbeats 1000000 in
theorem dAt_val {w : World} {g k n : Nat} {d : Bd} {F S : Nat → Prop} (h : Md w g d F S) (hk : k < d.good.length) (hN : d.good.length ≤ 100000) (hn : n ≤ (d.pend k).length) : ∃ v, RdS S w v (d.at k n) ∧ ∀ w', Below w.heap.size w w' → Calls Try.prog 36 #[.pointer (some ⟨g, 0, none⟩), .int .i64 (k : Int), .int .i64 (n : Int)] w' fun e w'' => e = .returned v ∧ w' = w'' := by
  obtain ⟨gg, cg, gw, cw, l, h1, h2, h3, hR⟩ := h.ex
  have c0 : w.cell? ⟨g, 0, none⟩ = some (.slice (some ⟨gg, 0, none⟩) d.good.length cg) := h1.cell 0
  have c1 : w.cell? ⟨g, 1, none⟩ = some (.slice (some ⟨gw, 0, none⟩) d.good.length cw) := h1.cell 1
  obtain ⟨v, y, cv, hv, cy, hy⟩ := hR.cells hk
  have k0 : (0 : Int) ≤ (k : Int) := by omega
  have k1 : (k : Int) < (d.good.length : Int) := by omega
  have l0 := h1.lt; have lg := cell_lt cv; have lw := cell_lt cy
  rcases Nat.eq_zero_or_pos n with rfl | hp
  · have HA : d.at k 0 = d.good.getD k [] := by unfold Bd.at; rw [if_pos rfl]
    rw [HA]
    refine ⟨v, hv, fun w' hb => ?_⟩
    have d0 := (hb.cell (p := ⟨g, 0, none⟩) l0).trans c0
    have dv := (hb.cell (p := ⟨gg, k, none⟩) lg).trans cv
    obtain ⟨va, vn, vc, rfl, _⟩ := hv
    clear h h1 h2 h3 hR hy hk hN c0 c1 cv cy HA
    go_enter Try.func36, Try.ntmps36
    go_wp2
    go_ret
    exact ⟨rfl, rfl⟩
  · obtain ⟨i, rfl⟩ : ∃ i, n = i + 1 := ⟨n - 1, by omega⟩
    obtain ⟨a, c, rfl, e0, e1, e2, ys, e3, e4, e5⟩ := hy
    obtain ⟨x, hx⟩ : ∃ x, ys[i]? = some x := ⟨_, List.getElem?_eq_getElem (by omega)⟩
    obtain ⟨b, q, rfl, hb, hc⟩ := e4 i _ hx
    have HV := e5 i _ _ hx (List.getElem?_eq_getElem (by omega))
    have HA : d.at k (i + 1) = (d.pend k)[i] := by unfold Bd.at; rw [if_neg (by omega), Nat.add_sub_cancel, List.getD_eq_getElem?_getD, List.getElem?_eq_getElem (by omega)]; rfl
    rw [HA]
    refine ⟨x, HV, fun w' hb => ?_⟩
    have d1 := (hb.cell (p := ⟨g, 1, none⟩) l0).trans c1
    have dy := (hb.cell (p := ⟨gw, k, none⟩) lw).trans cy
    have dx := (hb.cell (p := ⟨b, q + i, none⟩) (cell_lt hc)).trans hc
    obtain ⟨va, vn, vc, rfl, _⟩ := HV
    have i0 : (0 : Int) ≤ (i : Int) := by omega
    have i1 : (i : Int) < ((d.pend k).length : Int) := by omega
    have i2 : ((i : Int) + 1 == 0) = false := by rw [beq_eq_false_iff_ne]; omega
    have hw : IntKind.i64.wrap ((i : Int) + 1 - 1) = (i : Int) := by unfold maxLen at e2; rw [IntKind.wrap_i64]; omega
    have hw2 : IntKind.i64.wrap (i : Int) = (i : Int) := by unfold maxLen at e2; rw [IntKind.wrap_i64]; omega
    clear h h1 h2 h3 hR hk hN hv e0 e1 e2 e4 e5 hp cv hx c0 c1 cy hc HA
    go_enter Try.func36, Try.ntmps36
    go_wp2
    go_ret
    exact ⟨rfl, rfl⟩
set_option maxRecDepth 100000 in
set_option maxHeartbeats 1000000 in
theorem dNow_val {w : World} {g k : Nat} {d : Bd} {F S : Nat → Prop} (h : Md w g d F S) (hk : k < d.good.length) (hN : d.good.length ≤ 100000) : ∃ v, RdS S w v (d.last k) ∧ ∀ w', Below w.heap.size w w' → Calls Try.prog 35 #[.pointer (some ⟨g, 0, none⟩), .int .i64 (k : Int)] w' fun e w'' => e = .returned v ∧ w' = w'' := by
  obtain ⟨v, hv, hcall⟩ := dAt_val h hk hN (Nat.le_refl (d.pend k).length)
  refine ⟨v, hv, fun w' hb => ?_⟩
  have HC := Lib.hid (hcall w' hb)
  obtain ⟨gg, cg, gw, cw, l, h1, h2, h3, hR⟩ := h.ex
  have c1 : w'.cell? ⟨g, 1, none⟩ = some (.slice (some ⟨gw, 0, none⟩) d.good.length cw) := (hb.cell (p := ⟨g, 1, none⟩) h1.lt).trans (h1.cell 1)
  obtain ⟨v0, y, cv, hv0, cy, hy⟩ := hR.cells hk
  have cy' := (hb.cell (p := ⟨gw, k, none⟩) (cell_lt cy)).trans cy
  have k0 : (0 : Int) ≤ (k : Int) := by omega
  have k1 : (k : Int) < (d.good.length : Int) := by omega
  obtain ⟨a, c, rfl, _⟩ := hy
  clear h h1 h2 h3 hR hk hN cv hv0 cy hcall hv
  go_enter Try.func35, Try.ntmps35
  go_wp2_with (go_at_call 36; (with_reducible refine HC.out.mono ?_); rintro e wz ⟨rfl, rfl⟩)
  go_ret
  exact ⟨rfl, rfl⟩
theorem dNow_q {w w1 : World} {g k n : Nat} {v : Value} (hcall : ∀ w', Below w.heap.size w w' → Calls Try.prog 35 #[.pointer (some ⟨g, 0, none⟩), .int .i64 (k : Int)] w' fun e w'' => e = .returned v ∧ w' = w'') (hb : Below w.heap.size w w1) : Calls Try.prog 35 #[.pointer (some ⟨g, 0, none⟩), .int .i64 (k : Int)] (w1.drewN n) fun e w'' => e = .returned v ∧ ∃ m, w'' = w1.drewN m := (hcall _ (Below.call hb (drewN_below w1 n))).mono fun _ _ ⟨he, hw⟩ => ⟨he, n, hw.symm⟩
set_option maxRecDepth 100000 in
set_option maxHeartbeats 2000000 in
theorem bShows_any {w : World} {g m : Nat} {d : Bd} {F FM S : Nat → Prop} (h : Tw w g m d F FM S) (h0 : 0 < d.good.length) (hN : d.good.length ≤ 1000) :
    Calls Try.prog 18 #[.pointer (some ⟨g, 0, none⟩), .pointer (some ⟨m, 0, none⟩)] w fun e w' => e = .returned (.bool true) ∧ Below w.heap.size w w' := by
  have HT := Lib.hid h
  have H0 := Lib.hid h0; have HN : Hid (d.good.length ≤ 100000) := Lib.hid (by omega); have H1 := Lib.hid hN
  obtain ⟨gg, cg, gw, cw, l, h1, h2, h3, hR⟩ := h.md.ex
  have c0 : w.cell? ⟨m, 0, none⟩ = some (.slice (some ⟨gg, 0, none⟩) d.good.length cg) := h1.cell 0
  have c2 : w.cell? ⟨m, 2, none⟩ = some (.int .i64 (d.ops : Nat)) := h1.cell 2
  have c5 : w.cell? ⟨m, 5, none⟩ = some (.bool d.off) := h1.cell 5
  have HML := Lib.hid h1.lt
  clear h h0 hN h1 h2 h3 hR
  go_enter Try.func18, Try.ntmps18
  go_upto_region 1 with fail
  go_quiet (first
    | (go_at_call 26; exact bLen_q HT.out.dv)
    | (go_at_call 22; exact bOps_q HT.out.dv)
    | (go_at_call 23; exact bOff_q HT.out.dv H0.out))
  have HB0 := Lib.hid (drewN_below w nq)
  have HNL : Hid ((d.good.length : Int) ≤ 1000) := Lib.hid (by have := H1.out; omega)
  have C0 := Lib.hid c0
  generalize w.drewN nq = w1 at *
  go_wp2
  go_loopw [5] (fun iv wr => ∃ k : Nat, k ≤ d.good.length ∧ iv = .int .i64 k ∧ Below w.heap.size w wr) (fun iv _ => d.good.length - (intOf iv).toNat)
  case atStart => exact ⟨0, Nat.zero_le _, rfl, HB0.out⟩
  case round =>
    obtain ⟨k, hk, rfl, hbw⟩ := hrel
    have HBW := Lib.hid hbw
    have d0 : wr.cell? ⟨m, 0, none⟩ = some (.slice (some ⟨gg, 0, none⟩) d.good.length cg) := (hbw.cell (p := ⟨m, 0, none⟩) HML.out).trans C0.out
    have hk8 : (k : Int) ≤ 1000 := by have := H1.out; omega
    have hk0 : (0 : Int) ≤ (k : Int) := by omega
    have hkw : IntKind.i64.wrap ((k : Int) + 1) = ((k + 1 : Nat) : Int) := by rw [IntKind.wrap_i64]; omega
    clear c0 c2 c5
    by_cases hlt : k < d.good.length
    · have hk1 : (k : Int) < (d.good.length : Int) := by omega
      have HLT := Lib.hid hlt
      clear hbw hlt hk
      go_upto_region 7 with (go_at_call 14; (with_reducible refine (bRead_any (HT.out.dv.later HBW.out) HLT.out HN.out).mono ?_); rintro e w3 ⟨q, rfl, hq, hR3, hb3⟩)
      have HB3 := Lib.hid (Below.call HBW.out hb3)
      obtain ⟨v, hv, hcall⟩ := dNow_val (HT.out.md.later HB3.out) HLT.out HN.out
      obtain ⟨va, vn, vc, rfl, hvr, _⟩ := hv
      have hc1 : ∀ n, (convert 26 9 (.slice (some ⟨q, 0, none⟩) 64 64)).run Try.prog (w3.drewN n) = .ok (.string (bs (d.last k))) (w3.drewN n) := fun n => conv_any (hR3.below (drewN_below w3 n))
      have hc2 : ∀ n, (convert 26 9 (.slice va vn vc)).run Try.prog (w3.drewN n) = .ok (.string (bs (d.last k))) (w3.drewN n) := fun n => conv_any (hvr.below (drewN_below w3 n))
      have HC := Lib.hid hcall
      clear hR3 hvr hcall hb3 d0
      obtain ⟨L, hL⟩ : ∃ L, L = d.last k := ⟨_, rfl⟩
      rw [← hL] at hc1 hc2
      have hbs : (bs L == bs L) = true := by rw [bs_beq]; simp
      clear hL
      go_quiet ((go_at_call 35; exact dNow_q HC.out (Below.refl _ _)))
      have HBQ := Lib.hid (Below.call HB3.out (drewN_below w3 nq))
      generalize w3.drewN nq = w4 at *
      clear hc1 hc2
      go_wp2
      go_roundw
      case rel => exact ⟨k + 1, by have := HLT.out; omega, by go_num, HBQ.out⟩
      case measure => have := HLT.out; simp [intOf]; omega
    · obtain rfl : k = d.good.length := by omega
      have hb2 : ∀ {w2 : World}, Below w.heap.size w w2 → Calls Try.prog 14 #[.pointer (some ⟨g, 0, none⟩), .int .i64 (d.good.length : Int)] w2 fun e w' => e = .returned (.tuple #[.slice none 0 0, .int .i64 1]) ∧ w2 = w' := fun h => bRead_no (HT.out.dv.later h) (.inr (Int.le_refl _))
      have hb1 : ∀ {w2 : World}, Below w.heap.size w w2 → Calls Try.prog 14 #[.pointer (some ⟨g, 0, none⟩), .int .i64 (-1)] w2 fun e w' => e = .returned (.tuple #[.slice none 0 0, .int .i64 1]) ∧ w2 = w' := fun h => bRead_no (HT.out.dv.later h) (.inl (by omega))
      have HB1 := @hb1; have HB2 := @hb2
      clear hbw hlt hk hb1 hb2
      go_wp2_with (first
        | (go_at_call 14; (with_reducible refine (HB1 HBW.out).mono ?_); rintro e wz ⟨rfl, rfl⟩)
        | (go_at_call 14; (with_reducible refine (HB2 HBW.out).mono ?_); rintro e wz ⟨rfl, rfl⟩))
      go_ret
      exact ⟨rfl, HBW.out⟩
end Go.Proofs.Ytgehbchaamilhaa
namespace Go.Proofs.Ytgehbchaamilhaa
open Go Go.RowKit Go.Maps
theorem bounds_i64 {z : Int} (h : (Lit.int .i64 z).wf = true) : -9223372036854775808 ≤ z ∧ z ≤ 9223372036854775807 := by
  have h1 := h
  unfold Lit.wf at h1
  simp [IntKind.min, IntKind.max, IntKind.bits, IntKind.signed] at h1
  omega
theorem RdI.of_ints {w : World} {a : Option Addr} {n cap : Nat} {zs : List Int}
    (h : (a = none ∧ n = 0 ∧ cap = 0 ∧ zs = []) ∨ ∃ x, a = some x ∧ n ≤ cap ∧ cap ≤ maxLen ∧ zs.length = cap ∧ (∀ i, i < zs.length → w.cell? (x.add i) = some (.int .i64 (zs.getD i 0))) ∧ ∀ z ∈ zs, (Lit.int .i64 z).wf = true) :
    ∃ l, RdI w a n cap l := by
  rcases h with ⟨rfl, rfl, rfl, rfl⟩ | ⟨⟨b, o, sp⟩, rfl, hl, hm, hz, hc, hw⟩
  · exact ⟨[], RdI.nil w⟩
  · refine ⟨zs.take n, by simp [hz, hl], hl, hm, fun i hi => ?_, fun x hx => bounds_i64 (hw x (List.mem_of_mem_take hx))⟩
    simp [hz] at hi
    have h0 := hc 0 (by omega)
    have hsp : sp = none := by simpa [Addr.add] using World.cell?_spot h0
    subst hsp
    refine ⟨b, o, rfl, ?_⟩
    have h1 := hc i (by omega)
    rw [addr_add] at h1
    rw [h1]
    simp [List.getElem?_eq_getElem (show i < zs.length by omega)]
/-- A slice reads as steps. -/
structure RdSt (w : World) (a : Option Addr) (n cap : Nat) (l : List (Int × Int × Int)) : Prop where
  hlen : l.length = n
  hcap : n ≤ cap
  hmax : cap ≤ maxLen
  get : ∀ i (s : Int × Int × Int), l[i]? = some s → ∃ b o, a = some ⟨b, o, none⟩ ∧ w.rangeAt b (o + i * 3) [.int .i64 s.1, .int .i64 s.2.1, .int .i64 s.2.2]
  wf : ∀ s ∈ l, -9223372036854775808 ≤ s.2.1 ∧ s.2.1 ≤ 9223372036854775807
theorem RdSt.below {w w' : World} {a : Option Addr} {n cap : Nat} {l : List (Int × Int × Int)} (h : RdSt w a n cap l) (hb : Below w.heap.size w w') : RdSt w' a n cap l := by
  refine ⟨h.hlen, h.hcap, h.hmax, fun i s hs => ?_, h.wf⟩
  obtain ⟨b, o, ha, hc⟩ := h.get i s hs
  exact ⟨b, o, ha, fun j v hv => by rw [hb.cell (p := ⟨b, o + i * 3 + j, none⟩) (cell_lt (hc j v hv))]; exact hc j v hv⟩
section
variable {H : Type} {enc : TypeId × Value → H} {W : World} {base : Nat} {spare : Nat → Bool} {held : Bool}
open Go.ChangeShapes Go.WideShapes Go.Deep
theorem step_fields : ∃ f0 f1 f2 : Field, Try.prog.underlying 42 = some (.struct #[f0, f1, f2]) ∧ f0.type = 3 ∧ f1.type = 3 ∧ f2.type = 3 ∧ f0.offset = 0 ∧ f1.offset = 1 ∧ f2.offset = 2 := ⟨_, _, _, Try.underlying42, rfl, rfl, rfl, rfl, rfl, rfl⟩
/-- A step's three cells. -/
theorem open_step {fuel : Nat} {cs : List Value} {x : DataW H × List MemPlace} (h : DataW.trod enc Try.prog W base spare held fuel 42 cs = some x) :
    ∃ a b c : Int, cs = [.int .i64 a, .int .i64 b, .int .i64 c] ∧ (Lit.int .i64 b).wf = true := by
  obtain ⟨f0, f1, f2, hu, t0, t1, t2, o0, o1, o2⟩ := step_fields
  obtain ⟨xs, n, _, _, hlen, hxl, hf⟩ := DataW.trod_struct hu h
  have hc3 : Try.prog.cellsOf 42 = 3 := by kernel_rfl
  have hc1 : Try.prog.cellsOf 3 = 1 := by kernel_rfl
  rw [hc3] at hlen
  obtain ⟨c0, c1, c2, rfl⟩ : ∃ c0 c1 c2, cs = [c0, c1, c2] := by
    match cs, hlen with
    | [a, b, c], _ => exact ⟨a, b, c, rfl⟩
  have g0 := hf 0 f0 rfl; have g1 := hf 1 f1 rfl; have g2 := hf 2 f2 rfl
  rw [t0, o0, hc1, List.getElem?_eq_getElem (by rw [hxl]; simp)] at g0
  rw [t1, o1, hc1, List.getElem?_eq_getElem (by rw [hxl]; simp)] at g1
  rw [t2, o2, hc1, List.getElem?_eq_getElem (by rw [hxl]; simp)] at g2
  obtain ⟨z0, e0, _, _⟩ := DataW.trod_int Try.underlying3 g0
  obtain ⟨z1, e1, _, w1⟩ := DataW.trod_int Try.underlying3 g1
  obtain ⟨z2, e2, _, _⟩ := DataW.trod_int Try.underlying3 g2
  simp at e0 e1 e2
  exact ⟨z0, z1, z2, by rw [e0, e1, e2], w1⟩
/-- Steps that came in. -/
theorem open_steps {fuel : Nat} {a : Option Addr} {n cap : Nat} {x : DataW H × List MemPlace} (h : DataW.trod enc Try.prog W base spare held fuel 36 [.slice a n cap] = some x) : ∃ l, RdSt W a n cap l := by
  rcases open_slice Try.underlying36 h with ⟨e, _⟩ | ⟨ad, len, c, m, n', D, Pl, e, _, hl, hm, hmm, _, hi⟩
  · simp at e
    obtain ⟨rfl, rfl, rfl⟩ := e
    exact ⟨[], rfl, Nat.le_refl _, by simp, fun i s hs => by simp at hs, fun s hs => by simp at hs⟩
  · simp at e
    obtain ⟨rfl, rfl, rfl⟩ := e
    have hc3 : Try.prog.cellsOf 42 = 3 := by kernel_rfl
    have hnm : n ≤ m := by rw [hmm]; split <;> omega
    have key : ∀ i, i < n → ∃ s : Int × Int × Int, (∀ j v, [Value.int .i64 s.1, .int .i64 s.2.1, .int .i64 s.2.2][j]? = some v → W.cell? (ad.add (i * 3 + j)) = some v) ∧ -9223372036854775808 ≤ s.2.1 ∧ s.2.1 ≤ 9223372036854775807 := fun i hin => by
      obtain ⟨cs', hc, ht⟩ := hi i (by omega)
      rw [hc3] at hc
      obtain ⟨p, q, r, rfl, hw⟩ := open_step ht
      obtain ⟨_, _, hat⟩ := World.cells?_some hc
      refine ⟨(p, q, r), fun j v hv => ?_, bounds_i64 hw⟩
      have hj : j < 3 := by have := (List.getElem?_eq_some_iff.1 hv).1; simpa using this
      have h1 := hat j hj
      rw [← add_add, h1, hv]
    refine ⟨(List.range n).pmap (fun i hi => Classical.choose (key i hi)) (fun i hi => List.mem_range.1 hi), by simp, hl, hm, fun i s hs => ?_, fun s hs => ?_⟩
    · have hin : i < n := by have := (List.getElem?_eq_some_iff.1 hs).1; simpa using this
      have e : s = Classical.choose (key i hin) := by
        have := (List.getElem?_eq_some_iff.1 hs).2
        rw [List.getElem_pmap] at this
        simp only [List.getElem_range] at this
        exact this.symm
      have hk := (Classical.choose_spec (key i hin)).1
      rw [← e] at hk
      obtain ⟨b, o, sp⟩ := ad
      have hsp : sp = none := by
        have h0 := (Classical.choose_spec (key 0 (by omega))).1 0 _ rfl
        simpa [Addr.add] using World.cell?_spot h0
      subst hsp
      refine ⟨b, o, rfl, fun j v hv => ?_⟩
      have := hk j v hv
      rw [addr_add] at this
      rw [Nat.add_assoc]; exact this
    · obtain ⟨i, hi', rfl⟩ := List.mem_pmap.1 hs
      exact (Classical.choose_spec (key i (List.mem_range.1 hi'))).2
end
end Go.Proofs.Ytgehbchaamilhaa
namespace Go.Proofs.Ytgehbchaamilhaa
open Go Go.RowKit Go.Maps
def Bd.steps (d : Bd) (l : List (Int × Int × Int)) : Bd := l.foldl (fun d s => d.step s.1 s.2.1 s.2.2) d
theorem Bd.steps_snoc (d : Bd) (l : List (Int × Int × Int)) (i : Nat) (s : Int × Int × Int) (h : l[i]? = some s) : d.steps (l.take (i + 1)) = (d.steps (l.take i)).step s.1 s.2.1 s.2.2 := by
  unfold Bd.steps
  rw [List.take_add_one, h, List.foldl_append]; rfl
theorem Bd.steps_len (d : Bd) (l : List (Int × Int × Int)) : (d.steps l).good.length = d.good.length := by
  induction l generalizing d with
  | nil => rfl
  | cons s l ih => exact (ih _).trans (d.step_len _ _ _)
theorem Bd.steps_ops (d : Bd) (l : List (Int × Int × Int)) : (d.steps l).ops ≤ d.ops + l.length := by
  induction l generalizing d with
  | nil => exact Nat.le_refl _
  | cons s l ih =>
    have h1 := ih (d.step s.1 s.2.1 s.2.2)
    have h2 := d.step_ops s.1 s.2.1 s.2.2
    show (Bd.steps (d.step s.1 s.2.1 s.2.2) l).ops ≤ _
    rw [List.length_cons]; omega
theorem Bd.steps_left (d : Bd) (l : List (Int × Int × Int)) (h : d.left ≤ 9223372036854775807) (hl : ∀ s ∈ l, -9223372036854775808 ≤ s.2.1 ∧ s.2.1 ≤ 9223372036854775807) : (d.steps l).left ≤ 9223372036854775807 := by
  induction l generalizing d with
  | nil => exact h
  | cons s l ih => exact ih (d.step s.1 s.2.1 s.2.2) (d.step_left _ _ _ h (hl s List.mem_cons_self).2) (fun t ht => hl t (List.mem_cons_of_mem _ ht))
theorem infoStep : (Try.prog.info? 42).map (·.size) = some 3 := by kernel_rfl
/-- New ones, both, from base on. -/
structure TwN (B : Nat) (w : World) (g m : Nat) (d : Bd) : Prop where
  ex : ∃ F FM S, Tw w g m d F FM S ∧ (∀ x, F x → B ≤ x) ∧ (∀ x, FM x → B ≤ x) ∧ ∀ x, S x → B ≤ x
theorem TwN.later {B : Nat} {w w' : World} {g m : Nat} {d : Bd} (h : TwN B w g m d) (hb : Below w.heap.size w w') : TwN B w' g m d := by
  obtain ⟨F, FM, S, h1, h2⟩ := h.ex
  exact ⟨F, FM, S, h1.later hb, h2⟩
/-- A step, on new ones. -/
theorem bDoes_new {B : Nat} {w : World} {g m : Nat} {s : Int × Int × Int} {d : Bd} (h : TwN B w g m d) (hB : B ≤ w.heap.size) (h0 : 0 < d.good.length) (hN : d.good.length ≤ 1000) (ho : d.ops < 1000000) (hl : d.left ≤ 9223372036854775807) (hk : -9223372036854775808 ≤ s.2.1) :
    Calls Try.prog 17 #[.pointer (some ⟨g, 0, none⟩), .pointer (some ⟨m, 0, none⟩), .agg #[.int .i64 s.1, .int .i64 s.2.1, .int .i64 s.2.2]] w fun e w' => e = .returned (.bool true) ∧ TwN B w' g m (d.step s.1 s.2.1 s.2.2) ∧ Below B w w' := by
  obtain ⟨F, FM, S, h1, h2, h3, h4⟩ := h.ex
  refine (bDoes_any h1 h0 hN ho hl hk).mono ?_
  rintro e w' ⟨he, F', S', t1, t2, t3, t4⟩
  refine ⟨he, ⟨F', FM, S', t1, fun x hx => ?_, h3, fun x hx => ?_⟩, t2.below hB (fun x hx => by rcases hx with h | h; exact h2 x h; exact h3 x h)⟩
  · rcases t3 x hx with h | h
    · exact h2 x h
    · omega
  · rcases t4 x hx with h | h
    · exact h4 x h
    · omega
end Go.Proofs.Ytgehbchaamilhaa
namespace Go.Proofs.Ytgehbchaamilhaa
open Go Go.RowKit Go.Maps
/-- A step that does not cut. -/
def Bd.stepN (d : Bd) (s : Int × Int × Int) : Bd := if s.1 = 3 then d else d.step s.1 s.2.1 s.2.2
def Bd.stepsN (d : Bd) (l : List (Int × Int × Int)) : Bd := l.foldl Bd.stepN d
theorem Bd.stepsN_snoc (d : Bd) (l : List (Int × Int × Int)) (i : Nat) (s : Int × Int × Int) (h : l[i]? = some s) : d.stepsN (l.take (i + 1)) = (d.stepsN (l.take i)).stepN s := by
  unfold Bd.stepsN
  rw [List.take_add_one, h, List.foldl_append]; rfl
theorem Bd.stepsN_len (d : Bd) (l : List (Int × Int × Int)) : (d.stepsN l).good.length = d.good.length := by
  induction l generalizing d with
  | nil => rfl
  | cons s l ih =>
    refine (ih _).trans ?_
    unfold Bd.stepN
    split
    · rfl
    · exact d.step_len _ _ _
theorem Bd.stepsN_ops (d : Bd) (l : List (Int × Int × Int)) : (d.stepsN l).ops ≤ d.ops + l.length := by
  induction l generalizing d with
  | nil => exact Nat.le_refl _
  | cons s l ih =>
    have h1 := ih (d.stepN s)
    have h2 : (d.stepN s).ops ≤ d.ops + 1 := by
      unfold Bd.stepN
      split
      · omega
      · exact d.step_ops _ _ _
    show (Bd.stepsN (d.stepN s) l).ops ≤ _
    rw [List.length_cons]; omega
theorem Bd.stepsN_left (d : Bd) (l : List (Int × Int × Int)) (h : d.left ≤ 9223372036854775807) (hl : ∀ s ∈ l, -9223372036854775808 ≤ s.2.1 ∧ s.2.1 ≤ 9223372036854775807) : (d.stepsN l).left ≤ 9223372036854775807 := by
  induction l generalizing d with
  | nil => exact h
  | cons s l ih =>
    refine ih (d.stepN s) ?_ (fun t ht => hl t (List.mem_cons_of_mem _ ht))
    unfold Bd.stepN
    split
    · exact h
    · exact d.step_left _ _ _ h (hl s List.mem_cons_self).2
theorem Bd.crash_last {d : Bd} {picks : List Int} {k : Nat} (h : k < d.good.length) : (d.crash picks).last k = d.crashAt picks k := by
  have e : (d.crash picks).pend k = [] := rfl
  rw [Bd.last_nil e, List.getD_eq_getElem?_getD]
  unfold Bd.crash
  simp only
  rw [List.getElem?_map, List.getElem?_range h]; rfl
theorem Bd.crash_again {d : Bd} {p q : List Int} {k : Nat} (h : k < d.good.length) : ((d.crash p).crash q).last k = (d.crash p).last k := by
  have e : (d.crash p).pend k = [] := rfl
  rw [Bd.crash_last (by rw [Bd.crash_len]; exact h), Bd.last_nil e]
  unfold Bd.crashAt
  rw [if_pos (.inl e)]
theorem Bd.crash_none {d : Bd} {k : Nat} (h : k < d.good.length) : (d.crash []).last k = d.good.getD k [] := by rw [Bd.crash_last h, Bd.crashAt_none]
theorem bNew_num {n : Nat} {z : Int} (hz : z = (n : Int)) (h0 : 0 < n) (h1 : n ≤ 1000) {w : World} : Calls Try.prog 9 #[.int .i64 z] w fun e w' => ∃ g F, e = .returned (.tuple #[.pointer (some ⟨g, 0, none⟩), .int .i64 0]) ∧ Dv w' g (Bd.new n) F ∧ (∀ x, F x → w.heap.size ≤ x) ∧ Below w.heap.size w w' := by subst hz; exact bNew_any h0 h1
theorem dNew_num {n : Nat} {z : Int} (hz : z = (n : Int)) (h0 : 0 < n) (h1 : n ≤ 1000) {w : World} : Calls Try.prog 16 #[.int .i64 z] w fun e w' => ∃ g F S, e = .returned (.tuple #[.pointer (some ⟨g, 0, none⟩), .int .i64 0]) ∧ Md w' g (Bd.new n) F S ∧ (∀ x, F x → w.heap.size ≤ x) ∧ (∀ x, S x → w.heap.size ≤ x) ∧ Below w.heap.size w w' := by subst hz; exact dNew_any h0 h1
theorem new_tw {w w1 w2 : World} {g m n : Nat} {F FM S : Nat → Prop} (hD : Dv w1 g (Bd.new n) F) (hF : ∀ x, F x → w.heap.size ≤ x) (hb1 : Below w.heap.size w w1) (hM : Md w2 m (Bd.new n) FM S) (hFM : ∀ x, FM x → w1.heap.size ≤ x) (hS : ∀ x, S x → w1.heap.size ≤ x) (hb2 : Below w1.heap.size w1 w2) : TwN w.heap.size w2 g m (Bd.new n) :=
  ⟨F, FM, S, ⟨hD.later hb2, hM, fun x hx => ⟨fun h => absurd (hD.lt x hx) (Nat.not_lt.2 (hFM x h)), fun h => absurd (hD.lt x hx) (Nat.not_lt.2 (hS x h))⟩⟩, hF, fun x hx => Nat.le_trans hb1.size (hFM x hx), fun x hx => Nat.le_trans hb1.size (hS x hx)⟩
set_option maxRecDepth 100000 in
set_option maxHeartbeats 400000 in
theorem bCrash_nil {a : Option Addr} {n cap : Nat} (w : World) : Calls Try.prog 13 #[.pointer none, .slice a n cap] w fun e w' => e = .returned (.pointer none) ∧ w = w' := by
  go_enter Try.func13, Try.ntmps13
  go_wp2_with (go_at_call 26; (with_reducible refine (bLen_nil _).mono ?_); rintro e wz ⟨rfl, rfl⟩)
  go_ret
  exact ⟨rfl, rfl⟩
set_option maxRecDepth 100000 in
set_option maxHeartbeats 400000 in
theorem bCopy_nil (w : World) : Calls Try.prog 24 #[.pointer none] w fun e w' => e = .returned (.pointer none) ∧ w = w' := by
  go_enter Try.func24, Try.ntmps24
  go_wp2_with (go_at_call 26; (with_reducible refine (bLen_nil _).mono ?_); rintro e wz ⟨rfl, rfl⟩)
  go_ret
  exact ⟨rfl, rfl⟩
theorem rng_cell {w : World} {b o : Nat} {x y z : Value} (h : w.rangeAt b o [x, y, z]) : w.cell? ⟨b, o, none⟩ = some x ∧ w.cell? ⟨b, o + 1, none⟩ = some y ∧ w.cell? ⟨b, o + 2, none⟩ = some z := ⟨h 0 x rfl, h 1 y rfl, h 2 z rfl⟩
end Go.Proofs.Ytgehbchaamilhaa
