/- What SO rests on, part 2 of 2: my own texts, put together (merge.py). -/
import Derived.WalkKit
import Derived.ProofKit
import Derived.Lib.Hide
import Derived.OpenShut
import Derived.Test.YtogjbhkhdccahaaRows
import Derived.WalkSpells
import Derived.StillTactics
import Derived.Laws.Pointers
import Derived.Laws.CopyOwn
import Derived.Laws.AppendOwnNone
import Derived.Deep.RegionHeld3
import Derived.RowKit3
import Derived.BigQuiet
import Derived.Deep.QuietTactic
import Derived.Deep.LoopGhost
import Derived.Deep.DeepFit
import Derived.WalkLawsBesides
import Derived.Shelf.Spec.BitsCarry
import Derived.Deep.MidRow
import Derived.Deep.WholeRow
import Derived.Laws.Rows
import Derived.Deep.DeepCutAuto
import Derived.Maps.RangeWalk
import Derived.Laws.MakeOwn
import Derived.Laws.IdiomStrings
import Derived.Maps.AppendAt
import Derived.Laws.CopyRow
import Derived.Laws.IdiomCopy
import Derived.Shelf.SlIterI.Nil
import Derived.Shelf.SlIterI.Sorted
import Derived.Shelf.SortM.Plain
import Derived.Shelf.SortM.SortNone
import Derived.Laws.OwnMore
import Derived.Lib.AppendZerosOnto
import Derived.Lib.SliceRun
import Derived.Shelf.SlicesE.IndexFunc
import Derived.Lib.SlBytesConst
import Derived.Deep.Slices
import Derived.Deep.Fields
import Derived.ChangeSame
import Derived.ShutString
import Derived.ChangeOld
import Derived.Test.YtogjbhkhdccahaaZSOA
namespace Go.Proofs.Ytogjbhkhdccahaa
open Go Go.RowKit Go.Maps
/-- A slice reads as numbers. -/
structure RdI (w : World) (a : Option Addr) (n cap : Nat) (l : List Int) : Prop where
  hlen : l.length = n
  hcap : n ≤ cap
  hmax : cap ≤ maxLen
  get : ∀ i (h : i < l.length), ∃ b o, a = some ⟨b, o, none⟩ ∧ w.cell? ⟨b, o + i, none⟩ = some (.int .i64 l[i])
  wf : ∀ x ∈ l, -9223372036854775808 ≤ x ∧ x ≤ 9223372036854775807
theorem RdI.below {w w' : World} {a : Option Addr} {n cap : Nat} {l : List Int} (h : RdI w a n cap l) (hb : Below w.heap.size w w') : RdI w' a n cap l := by
  refine ⟨h.hlen, h.hcap, h.hmax, fun i hi => ?_, h.wf⟩
  obtain ⟨b, o, ha, hc⟩ := h.get i hi
  exact ⟨b, o, ha, by rw [hb.cell (cell_lt hc)]; exact hc⟩
theorem RdI.nil (w : World) : RdI w none 0 0 [] := ⟨rfl, Nat.le_refl _, by simp, fun i h => by simp at h, fun x hx => by simp at hx⟩
theorem RdI.blk {w : World} {g E n cap : Nat} {l : List Int} (r : List Value) (h : Blk w g (l.map (Value.int .i64) ++ r) E) (hn : l.length = n) (hc : n ≤ cap) (hm : cap ≤ maxLen) (hw : ∀ x ∈ l, -9223372036854775808 ≤ x ∧ x ≤ 9223372036854775807) : RdI w (some ⟨g, 0, none⟩) n cap l :=
  ⟨hn, hc, hm, fun i hi => ⟨g, 0, rfl, by rw [Nat.zero_add, h.cell, List.getElem?_append_left (by simpa using hi)]; simp [hi]⟩, hw⟩
/-- A device's blocks, and what may be done with them. -/
theorem Dv.opened {w : World} {g : Nat} {d : Bd} {F : Nat → Prop} (h : Dv w g d F) : ∃ gb c r, w.cell? ⟨g, 0, none⟩ = some (.slice (some ⟨gb, 0, none⟩) d.good.length c) ∧ g < w.heap.size ∧ Blk w gb (rowsV d.good ++ r) 67 ∧ F gb ∧ d.good.length ≤ c ∧ c ≤ maxLen ∧
    ∀ (w' : World) (good' : List (List UInt8)), good'.length = d.good.length → (∀ x ∈ good', x.length = 64) → Blk w' gb (rowsV good' ++ r) 67 → Fr (fun y => y = gb) w w' → Dv w' g { d with good := good' } F := by
  have hok := h.ok
  obtain ⟨gb, c, mb, h1, hR⟩ := h.ex
  obtain ⟨m, r, D, G, h2, h3, h4, h5, h6, h7, n1, n2, n3, hx, n4, n5, n6, h8⟩ := hR.ex
  refine ⟨gb, c, r, h1.cell 0, h1.lt, h2, (hx gb).2 (.inr (.inl rfl)), h3, h4, fun w' good' hl hr hB hf => ⟨⟨hr, hok.pend, fun k hk => hok.few k (by rw [← hl]; exact hk), hok.left, hok.cnt⟩, gb, c, mb, ?_, m, r, D, G, hB, by show good'.length ≤ c; rw [hl]; exact h3, h4, ownsMap_frame hf h5 (fun e => n3 e.symm), h6, h7.frame hf (fun y hy e => n5 (e ▸ hy)), n1, n2, n3, hx, n4, n5, n6, fun y hy => Nat.lt_of_lt_of_le (h8 y hy) hf.size⟩⟩
  have e : dvS gb c mb { d with good := good' } = dvS gb c mb d := by unfold dvS; simp only [hl]
  rw [e]; exact hf.blk h1 n1
/-- Rows of cells are copied. -/
theorem run_copy_many {P : Program} (w : World) (dT sT ty elem : TypeId) (b o dLen dCap S : Nat) (a : Addr) (sLen sCap : Nat) (cs : List Value)
    (hu : P.underlying dT = some (.slice elem)) (hs : (P.info? elem).map (·.size) = some S) (hn : cs.length = Nat.min sLen dLen * S)
    (hsrc : ∀ j v, cs[j]? = some v → w.cell? (a.add j) = some v) (hc : ∀ j, j < cs.length → (w.cell? ⟨b, o + j, none⟩).isSome = true) (hf : ∀ j, j < cs.length → w.frozen? ⟨b, o + j, none⟩ = false) (h1 : ∀ v ∈ cs, v.oneCell' = true) :
    (Builtin.copy_ #[dT, sT] ty #[.slice (some ⟨b, o, none⟩) dLen dCap, .slice (some a) sLen sCap]).run P w = .ok (goInt (Nat.min sLen dLen)) (w.setCells b o cs) := by
  have hl := run_loadCells_list (P := P) w a cs hsrc
  have hst := run_storeCells_cells (P := P) b o cs 0 w (by simpa using hc) (by simpa using hf) h1
  cases hq : P.info? elem with
  | none => simp [hq] at hs
  | some i =>
    have hi : i.size = S := by simpa [hq] using hs
    simp [Builtin.copy_, run_underlying hu, Builtin.lenOf, Builtin.firstCells, sizeOf, typeInfo, hq, hi, ← hn, hl, hst]
theorem rowsV_mem {l : List (List UInt8)} {v : Value} (h : v ∈ rowsV l) : ∃ c, v = bV c := by
  unfold rowsV at h
  rw [List.mem_map] at h
  obtain ⟨c, _, rfl⟩ := h
  exact ⟨c, rfl⟩
theorem run_copy_rows {ev : Operand → Value} {o : Oper} {a b : Operand} {w : World} {g s n c c2 : Nat} {l z : List (List UInt8)} {r r2 : List Value} (ho : o.op = .call { callee := .builtin .copy, args := #[a, b], argTypes := #[58, 58] })
    (ha : ev a = .slice (some ⟨g, 0, none⟩) n c) (hb : ev b = .slice (some ⟨s, 0, none⟩) n c2) (hB : Blk w g (rowsV z ++ r) 67) (hz : ∀ x ∈ z, x.length = 64) (hzn : z.length = n) (hL : Blk w s (rowsV l ++ r2) 67) (hl : ∀ x ∈ l, x.length = 64) (hln : l.length = n) :
    (execOp ev o).run Try.prog w = .ok (.value (goInt n)) (w.setCells g 0 (rowsV l)) := by
  have h1 := rowsV_len hz; have h2 := rowsV_len hl
  have hm : Nat.min n n = n := Nat.min_self n
  have h := run_copy_many (P := Try.prog) w 58 58 o.type 67 g 0 n c 64 ⟨s, 0, none⟩ n c2 (rowsV l) Try.underlying58 tyrow.size (by rw [h2, hln, hm]; omega)
    (fun j v hv => by
      rw [Addr.add_mid, Nat.zero_add, hL.cell, List.getElem?_append_left (List.getElem?_eq_some_iff.1 hv).1]; exact hv)
    (fun j hj => by rw [Nat.zero_add, hB.cell, List.getElem?_append_left (by rw [h1, hzn]; omega), List.getElem?_eq_getElem (by rw [h1, hzn]; omega)]; rfl) (fun j _ => hB.frozen _) (fun v hv => by obtain ⟨c, rfl⟩ := rowsV_mem hv; rfl)
  rw [hm] at h
  unfold execOp
  simp only [ho, ha, hb, resolve, invoke, builtin, Sem.run_bind, Sem.run_pure, Result.andThen_ok, List.map_toArray, List.map_cons, List.map_nil, h]
theorem rows_all {w : World} {g : Nat} {z l : List (List UInt8)} {r : List Value} (hB : Blk w g (rowsV z ++ r) 67) (hz : ∀ x ∈ z, x.length = 64) (hl : ∀ x ∈ l, x.length = 64) (hn : z.length = l.length) : Blk (w.setCells g 0 (rowsV l)) g (rowsV l ++ r) 67 := by
  have e0 : Blk w g ([] ++ (rowsV z ++ r)) 67 := by rw [List.nil_append]; exact hB
  have := setCells_half (rowsV l) [] _ _ w (by rw [rowsV_len hz, rowsV_len hl, hn]) e0
  exact this
theorem own_slice {w : World} {base E n : Nat} {v : Value} {xs : List Value} (h : w.ownsRow base E 1 v n xs) : ∃ ka kc, v = .slice ka n kc ∧ ∀ i x, xs[i]? = some x → ∃ b, ka = some ⟨b, 0, none⟩ ∧ base ≤ b ∧ b < w.heap.size ∧ w.cell? ⟨b, i, none⟩ = some x := by
  obtain ⟨hl, hr⟩ := h
  rcases hr with ⟨rfl, rfl⟩ | ⟨g, cap, cur, rfl, hb, hg, h1, h2, h3, h4⟩
  · exact ⟨none, 0, rfl, fun i x hx => by have := (List.getElem?_eq_some_iff.1 hx).1; omega⟩
  · refine ⟨_, _, rfl, fun i x hx => ⟨g, rfl, hb, (Array.getElem?_eq_some_iff.1 hg).1, ?_⟩⟩
    have hi := (List.getElem?_eq_some_iff.1 hx).1
    rw [Nat.mul_one] at h4
    have h5 : (cur.toList.take n)[i]? = some x := by rw [h4]; exact hx
    rw [List.getElem?_take_of_lt (by omega), Array.getElem?_toList] at h5
    simp [World.cell?, hg, h5]
/-- The pick's remainder. -/
theorem pick_rem {i n : Nat} (h : 0 < n) : (i : Int).tmod (n : Int) = ((i % n : Nat) : Int) := by rw [Int.tmod_eq_emod_of_nonneg (by omega)]; omega
theorem Bd.crashAt_some {d : Bd} {picks : List Int} {k : Nat} (hp : d.pend k ≠ []) (h : picks ≠ []) : d.crashAt picks k = d.crashRow k ((picks.getD (d.before k % picks.length) 0 % (2 * (d.pend k).length + 1 : Nat)).toNat) := by
  unfold Bd.crashAt; rw [if_neg (by rintro (h1 | h1); exact hp h1; exact h h1)]; rfl
theorem Bd.crashAt_none {d : Bd} {k : Nat} : d.crashAt [] k = d.good.getD k [] := by unfold Bd.crashAt; rw [if_pos (.inr rfl)]
set_option maxRecDepth 100000 in
set_option maxHeartbeats 2000000 in
theorem bCrash_any {w : World} {g np capp : Nat} {pa : Option Addr} {picks : List Int} {d : Bd} {F : Nat → Prop} (h : Dv w g d F) (h0 : 0 < d.good.length) (hN : d.good.length ≤ 1000) (ho : d.ops < 1000000) (hp : RdI w pa np capp picks) :
    Calls Try.prog 17 #[.pointer (some ⟨g, 0, none⟩), .slice pa np capp] w fun e w' => ∃ g' F', e = .returned (.pointer (some ⟨g', 0, none⟩)) ∧ Dv w' g' (d.crash picks) F' ∧ (∀ x, F' x → w.heap.size ≤ x) ∧ Below w.heap.size w w' := by
  have HD := Lib.hid h
  have H0 := Lib.hid h0; have H1 := Lib.hid hN; have HN : Hid (d.good.length ≤ 100000) := Lib.hid (by omega); have HO := Lib.hid ho; have HPI := Lib.hid hp
  have hz : ((d.good.length : Int) == 0) = false := by rw [beq_eq_false_iff_ne]; omega
  have hz2 : decide (d.good.length = 0) = false := decide_eq_false (by omega)
  clear h h0 hN ho hp
  go_enter Try.func17, Try.ntmps17
  go_upto_region 4 with (first
    | (go_at_call 23; (with_reducible refine (bLen_any HD.out).mono ?_); rintro e wz ⟨rfl, rfl⟩)
    | (go_at_call 20; (with_reducible refine (bNew_any H0.out H1.out).mono ?_); rintro e w1 ⟨gn, Fn, rfl, hDn, hFn, hb1⟩))
  have HDN := Lib.hid hDn
  obtain ⟨gb2, c2, r2, c0n, hln, hB2, hFb, hc1, hc2, hturn⟩ := hDn.opened
  have hnl : (Bd.new d.good.length).good.length = d.good.length := List.length_replicate
  rw [hnl] at c0n
  have hD1 := HD.out.later hb1
  obtain ⟨gb, c, r, c0, hlg, hBL, hFg, hc3, hc4, _⟩ := hD1.opened
  have HLN := Lib.hid hln; have HLG := Lib.hid hlg; have HB2 := Lib.hid hB2; have HBL := Lib.hid hBL
  have HZR : Hid (∀ x ∈ (Bd.new d.good.length).good, x.length = 64) := Lib.hid (Bd.new_ok _).rows
  have HZN : Hid ((Bd.new d.good.length).good.length = d.good.length) := Lib.hid hnl
  have HT := Lib.hid hturn
  have HFB := Lib.hid hFb
  have HFN := Lib.hid hFn
  have HB1 := Lib.hid hb1
  clear hDn hln hlg hB2 hBL hturn hFb hFg hc1 hc2 hc3 hc4 hD1 hnl hFn hb1
  refine rgX 8 [(18, 0), (0, 1), (0, 2), (0, 3), (0, 4), (0, 5), (0, 6), (0, 7), (0, 8)] [.pointer (some ⟨gn, 0, none⟩), .pointer (some ⟨gn, 0, none⟩), .pointer (some ⟨gn, 0, none⟩), .slice (some ⟨gb2, 0, none⟩) d.good.length c2, .pointer (some ⟨g, 0, none⟩), .pointer (some ⟨g, 0, none⟩), .pointer (some ⟨g, 0, none⟩), .slice (some ⟨gb, 0, none⟩) d.good.length c] (fun W => Blk W gb2 (rowsV d.good ++ r2) 67 ∧ Fr (fun y => y = gb2) w1 W) ?_ (fun u6 w2 hP _ => ?_)
  · refine ⟨?_, ?_, ?_, ?_, ?_, ?_, ?_, ?_, ?_, trivial⟩
    · refine kqP (by omega) (.cons (c := 3) (by kernel_rfl) (.cons (c := 2) (by kernel_rfl) (.cons (c := 1) (by kernel_rfl) (.one (by kernel_rfl))))) fun u W hb hu => ?_
      go_simp
    · refine kqP (by omega) (.cons (c := 3) (by kernel_rfl) (.cons (c := 2) (by kernel_rfl) (.one (by kernel_rfl)))) fun u W hb hu => ?_
      have e0 := hu 0 (by kernel_rfl) (by omega)
      simp only [List.getD_cons_zero, List.getD_cons_succ] at e0
      go_simp
    · refine kqP (by omega) (.cons (c := 3) (by kernel_rfl) (.one (by kernel_rfl))) fun u W hb hu => ?_
      have e1 := hu 1 (by kernel_rfl) (by omega)
      simp only [List.getD_cons_zero, List.getD_cons_succ] at e1
      go_simp
    · refine kqP (by omega) (.one (by kernel_rfl)) fun u W hb hu => ?_
      have e2 := hu 2 (by kernel_rfl) (by omega)
      simp only [List.getD_cons_zero, List.getD_cons_succ] at e2
      have hc := (hb.cell (p := ⟨gn, 0, none⟩) HLN.out).trans c0n
      go_simp
    · refine kqP (by omega) (.cons (c := 7) (by kernel_rfl) (.cons (c := 6) (by kernel_rfl) (.cons (c := 5) (by kernel_rfl) (.one (by kernel_rfl))))) fun u W hb hu => ?_
      go_simp
    · refine kqP (by omega) (.cons (c := 7) (by kernel_rfl) (.cons (c := 6) (by kernel_rfl) (.one (by kernel_rfl)))) fun u W hb hu => ?_
      have e4 := hu 4 (by kernel_rfl) (by omega)
      simp only [List.getD_cons_zero, List.getD_cons_succ] at e4
      go_simp
    · refine kqP (by omega) (.cons (c := 7) (by kernel_rfl) (.one (by kernel_rfl))) fun u W hb hu => ?_
      have e5 := hu 5 (by kernel_rfl) (by omega)
      simp only [List.getD_cons_zero, List.getD_cons_succ] at e5
      go_simp
    · refine kqP (by omega) (.one (by kernel_rfl)) fun u W hb hu => ?_
      have e6 := hu 6 (by kernel_rfl) (by omega)
      simp only [List.getD_cons_zero, List.getD_cons_succ] at e6
      have hc := (hb.cell (p := ⟨g, 0, none⟩) HLG.out).trans c0
      go_simp
    · refine kqV fun u W hb hu => ?_
      have e3 := hu 3 (by kernel_rfl) (by omega)
      have e7 := hu 7 (by kernel_rfl) (by omega)
      simp only [List.getD_cons_zero, List.getD_cons_succ] at e3 e7
      have hBW := HB2.out.below hb HB2.out.lt
      have hLW := HBL.out.below hb HBL.out.lt
      exact ⟨_, _, run_copy_rows rfl (by exact e3) (by exact e7) hBW HZR.out HZN.out hLW HD.out.ok.rows rfl, rows_all hBW HZR.out HD.out.ok.rows HZN.out, (Fr.of_below hb).trans (Fr.cellsS _ _ _ (Fr.refl _ _)) (fun y hy => .inl hy)⟩
  obtain ⟨hPb, hPf⟩ := hP
  have hDC : Dv w2 gn { Bd.new d.good.length with good := d.cI picks 0 } Fn := HT.out w2 _ (by rw [Bd.cI_len]; exact HZN.out.symm) (Bd.cI_rows HD.out.ok picks 0) (by rw [Bd.cI_zero]; exact hPb) hPf
  have hb2 : Below w.heap.size w w2 := HB1.out.trans (hPf.below HB1.out.size (fun y hy => by cases hy; exact HFN.out _ HFB.out))
  have hD2 := HD.out.later hb2
  have HDC := Lib.hid hDC; have HB2' := Lib.hid hb2
  clear hPb hPf c0n c0 hDC hb2
  obtain ⟨gb9, c9, mb, h1, hR⟩ := hD2.ex
  obtain ⟨m, r9, D, G, _, _, _, h5, h6, h7, _⟩ := hR.ex
  have c1 : w2.cell? ⟨g, 1, none⟩ = some (.map (some mb)) := h1.cell 1
  have HMM : Hid (m ≤ 1000000) := Lib.hid (by have := HO.out; omega)
  have H5 := Lib.hid h5; have H7 := Lib.hid h7
  clear hD2 h1 hR h5 h6 h7
  go_wp2_with (first
    | (go_at_call 32; (with_reducible refine (bKeys_any _ _).mono ?_); rintro e wz ⟨rfl, rfl⟩)
    | (go_at_call 31; (with_reducible refine (bSorted_any HD.out.ok H5.out H7.out HMM.out).mono ?_); rintro e w3 ⟨v, rfl, hrow, hb3⟩; obtain ⟨ka, kc, rfl, hkey⟩ := own_slice hrow; clear hrow))
  have HKL0 := Lib.hid (show d.keys.length ≤ 1000 by have := H1.out; have := List.length_filter_le (fun k => !(d.pend k).isEmpty) (List.range d.good.length); rw [List.length_range] at this; unfold Bd.keys; omega)
  have HB3 := Lib.hid hb3
  have HKEY := Lib.hid hkey
  have HS2 := Lib.hid (show w2.heap.size ≤ w3.heap.size from hb3.size)
  clear hkey c1 HMM H5 H7 HT HB2 HBL HZN HZR hb3
  go_loopw [34] (fun iv wr => ∃ i : Nat, i ≤ d.keys.length ∧ iv = .int .i64 i ∧ Dv wr gn { Bd.new d.good.length with good := d.cI picks i } Fn ∧ Fr Fn w3 wr) (fun iv _ => d.keys.length - (intOf iv).toNat)
  case atStart => exact ⟨0, by omega, rfl, HDC.out.later (HB3.out.mono (Nat.le_refl _)), Fr.refl _ _⟩
  case round =>
    obtain ⟨i, hi, rfl, hDi, hfr⟩ := hrel
    have HBR := Lib.hid ((Below.call HB2'.out HB3.out).trans (hfr.below (Below.call HB2'.out HB3.out).size (fun x hx => HFN.out x hx)))
    have hi8 : (i : Int) ≤ 1000 := by have := HKL0.out; omega
    have hi0 : (0 : Int) ≤ (i : Int) := by omega
    have hiw : IntKind.i64.wrap ((i : Int) + 1) = ((i + 1 : Nat) : Int) := by rw [IntKind.wrap_i64]; omega
    by_cases hlt : i < d.keys.length
    · obtain ⟨k, hk⟩ : ∃ k, d.keys[i]? = some k := ⟨_, List.getElem?_eq_getElem hlt⟩
      obtain ⟨hkl, hpk, hbk⟩ := Bd.keys_get hk
      obtain ⟨kb, rfl, hkb1, hkb2, hkc⟩ := HKEY.out i (.int .i64 (k : Int)) (by rw [List.getElem?_map, hk]; rfl)
      have hkf : ¬ Fn kb := fun hf => by have := HDC.out.lt kb hf; omega
      have kc1 : wr.cell? ⟨kb, i, none⟩ = some (.int .i64 (k : Int)) := (hfr.cell (p := ⟨kb, i, none⟩) hkb2 hkf).trans hkc
      have hi1 : (i : Int) < (d.keys.length : Int) := by omega
      have hkl0 : (0 : Int) ≤ (k : Int) := by omega
      have hkl1 : (k : Int) < (d.good.length : Int) := by omega
      have HFR := Lib.hid hfr
      have HDI := Lib.hid hDi
      have HKLI : Hid (k < d.good.length) := Lib.hid hkl
      have HST := Lib.hid (show d.cI picks (i + 1) = (d.cI picks i).set k (d.crashAt picks k) by rw [← hbk]; exact Bd.cI_step hkl hpk)
      rcases Nat.eq_zero_or_pos np with rfl | hnp
      · have hpe : picks = [] := List.eq_nil_of_length_eq_zero HPI.out.hlen
        have HDS : Hid (Dv wr gn { Bd.new d.good.length with good := d.cI picks (i + 1) } Fn) := Lib.hid (by
          rw [HST.out, hpe, Bd.crashAt_none]
          have e : (d.cI [] i).set k (d.good.getD k []) = d.cI [] i := by
            apply List.ext_getElem?
            intro j
            rw [List.getElem?_set]
            by_cases e : k = j
            · subst e
              rw [if_pos rfl, if_pos (by rw [Bd.cI_len]; exact hkl), Bd.cI_get hkl, Bd.crashAt_none]; simp
            · rw [if_neg e]
          rw [e, ← hpe]; exact hDi)
        clear hDi hkl hpk hbk hkb1 hkb2 hkc hkf hk hfr
        go_wp2
        go_roundw
        case rel => exact ⟨i + 1, by omega, by go_num, HDS.out, HFR.out⟩
        case measure => simp [intOf]; omega
      · have HPE : Hid (picks ≠ []) := Lib.hid (fun e => by have := HPI.out.hlen; rw [e] at this; simp at this; omega)
        obtain ⟨pb, po, rfl, hpc⟩ := (HPI.out.below HBR.out).get (i % np) (by rw [HPI.out.hlen]; exact Nat.mod_lt _ hnp)
        obtain ⟨pick, hpk2⟩ : ∃ pick, pick = picks[i % np]'(by rw [HPI.out.hlen]; exact Nat.mod_lt _ hnp) := ⟨_, rfl⟩
        rw [← hpk2] at hpc
        have HP1 := Lib.hid (show -9223372036854775808 ≤ pick ∧ pick ≤ 9223372036854775807 by rw [hpk2]; exact HPI.out.wf _ (List.getElem_mem _))
        obtain ⟨R, hR⟩ : ∃ R, R = d.crashAt picks k := ⟨_, rfl⟩
        have HRR : Hid (d.crashRow k (pick % (2 * (d.pend k).length + 1 : Nat)).toNat = R) := Lib.hid (by
          rw [hR, Bd.crashAt_some hpk HPE.out, hbk, HPI.out.hlen, hpk2, List.getD_eq_getElem?_getD, List.getElem?_eq_getElem (by rw [HPI.out.hlen]; exact Nat.mod_lt _ hnp)]; rfl)
        rw [← hR] at HST
        have HR64 : Hid (R.length = 64) := Lib.hid (by rw [hR]; exact (Bd.crash_ok HD.out.ok picks).rows _ (by unfold Bd.crash; simp only [List.mem_map, List.mem_range]; exact ⟨k, hkl, rfl⟩))
        obtain ⟨gb2, c2, r2, c0n, hln, hB2, hFb, hc1, hc2, hturn⟩ := hDi.opened
        have hcl : ({ Bd.new d.good.length with good := d.cI picks i } : Bd).good.length = d.good.length := Bd.cI_len d picks i
        rw [hcl] at c0n
        have HLN := Lib.hid hln; have HB2 := Lib.hid hB2; have HT := Lib.hid hturn
        have HCL : Hid ((d.cI picks i).length = d.good.length) := Lib.hid (Bd.cI_len d picks i)
        have HROW : Hid (∀ x ∈ d.cI picks i, x.length = 64) := Lib.hid (Bd.cI_rows HD.out.ok picks i)
        have HKL := HKLI
        have HPC := Lib.hid hpc
        have HNP := Lib.hid hnp
        have HFB := Lib.hid hFb
        have HRE := Lib.hid hR
        have hnp0 : (0 : Int) < (np : Int) := by omega
        have hnp2 : (np : Int) ≠ 0 := by omega
        have hm0 : (0 : Int) ≤ ((i % np : Nat) : Int) := by omega
        have hm1 : ((i % np : Nat) : Int) < (np : Int) := by have := Nat.mod_lt i hnp; omega
        clear hDi hkl hpk hbk hkb1 hkb2 hkc hkf hk hfr hpk2 hpc hln hB2 hturn hcl hFb hc1 hc2 hR
        go_upto_region 9 with fail
        refine rgX 16 [(42, 0), (0, 1), (0, 2), (0, 3), (0, 4), (0, 5), (0, 6), (0, 7), (0, 8), (0, 9), (0, 10), (0, 11), (0, 12), (0, 13), (0, 14), (0, 15)] [.pointer (some ⟨gn, 0, none⟩), .pointer (some ⟨gn, 0, none⟩), .pointer (some ⟨gn, 0, none⟩), .slice (some ⟨gb2, 0, none⟩) d.good.length c2, .int .i64 (k : Int), .pointer (some ⟨g, 0, none⟩), .int .i64 (k : Int), .slice (some ⟨pb, po, none⟩) np capp, .int .i64 (i : Int), .slice (some ⟨pb, po, none⟩) np capp, .int .i64 (np : Int), .int .i64 ((i % np : Nat) : Int), .pointer (some ⟨pb, po + i % np, none⟩), .int .i64 pick, rowV R, .pointer (some ⟨gb2, k * 64, none⟩)] (fun W => Blk W gb2 (rowsV ((d.cI picks i).set k R) ++ r2) 67 ∧ Fr (fun y => y = gb2) wr W) ?_ (fun u9 w9 hP _ => ?_)
        · refine ⟨?_, ?_, ?_, ?_, ?_, ?_, ?_, ?_, ?_, ?_, ?_, ?_, ?_, ?_, ?_, ?_, ?_, trivial⟩
          · refine kqP (by omega) (.cons (c := 15) (by kernel_rfl) (.cons (c := 3) (by kernel_rfl) (.cons (c := 2) (by kernel_rfl) (.cons (c := 1) (by kernel_rfl) (.one (by kernel_rfl)))))) fun u W hb hu => ?_
            go_simp
          · refine kqP (by omega) (.cons (c := 15) (by kernel_rfl) (.cons (c := 3) (by kernel_rfl) (.cons (c := 2) (by kernel_rfl) (.one (by kernel_rfl))))) fun u W hb hu => ?_
            have e0 := hu 0 (by kernel_rfl) (by omega)
            simp only [List.getD_cons_zero, List.getD_cons_succ] at e0
            go_simp
          · refine kqP (by omega) (.cons (c := 15) (by kernel_rfl) (.cons (c := 3) (by kernel_rfl) (.one (by kernel_rfl)))) fun u W hb hu => ?_
            have e1 := hu 1 (by kernel_rfl) (by omega)
            simp only [List.getD_cons_zero, List.getD_cons_succ] at e1
            go_simp
          · refine kqP (by omega) (.cons (c := 15) (by kernel_rfl) (.one (by kernel_rfl))) fun u W hb hu => ?_
            have e2 := hu 2 (by kernel_rfl) (by omega)
            simp only [List.getD_cons_zero, List.getD_cons_succ] at e2
            have hc := (hb.cell (p := ⟨gn, 0, none⟩) HLN.out).trans c0n
            go_simp
          · refine kqP (by omega) (.cons (c := 15) (by kernel_rfl) (.one (by kernel_rfl))) fun u W hb hu => ?_
            go_simp
          · refine kqP (by omega) (.cons (c := 14) (by kernel_rfl) (.one (by kernel_rfl))) fun u W hb hu => ?_
            go_simp
          · refine kqP (by omega) (.cons (c := 14) (by kernel_rfl) (.one (by kernel_rfl))) fun u W hb hu => ?_
            go_simp
          · refine kqP (by omega) (.cons (c := 14) (by kernel_rfl) (.cons (c := 13) (by kernel_rfl) (.cons (c := 12) (by kernel_rfl) (.one (by kernel_rfl))))) fun u W hb hu => ?_
            go_simp
          · refine kqP (by omega) (.cons (c := 14) (by kernel_rfl) (.cons (c := 13) (by kernel_rfl) (.cons (c := 12) (by kernel_rfl) (.cons (c := 11) (by kernel_rfl) (.one (by kernel_rfl)))))) fun u W hb hu => ?_
            go_simp
          · refine kqP (by omega) (.cons (c := 14) (by kernel_rfl) (.cons (c := 13) (by kernel_rfl) (.cons (c := 12) (by kernel_rfl) (.cons (c := 11) (by kernel_rfl) (.cons (c := 10) (by kernel_rfl) (.one (by kernel_rfl))))))) fun u W hb hu => ?_
            go_simp
          · refine kqP (by omega) (.cons (c := 14) (by kernel_rfl) (.cons (c := 13) (by kernel_rfl) (.cons (c := 12) (by kernel_rfl) (.cons (c := 11) (by kernel_rfl) (.one (by kernel_rfl)))))) fun u W hb hu => ?_
            have e9 := hu 9 (by kernel_rfl) (by omega)
            simp only [List.getD_cons_zero, List.getD_cons_succ] at e9
            go_simp
          · refine kqP (by omega) (.cons (c := 14) (by kernel_rfl) (.cons (c := 13) (by kernel_rfl) (.cons (c := 12) (by kernel_rfl) (.one (by kernel_rfl))))) fun u W hb hu => ?_
            have e8 := hu 8 (by kernel_rfl) (by omega)
            have e10 := hu 10 (by kernel_rfl) (by omega)
            simp only [List.getD_cons_zero, List.getD_cons_succ] at e8 e10
            go_simp
            rw [if_neg (by have := HNP.out; omega), pick_rem HNP.out, Int.natCast_emod]
          · refine kqP (by omega) (.cons (c := 14) (by kernel_rfl) (.cons (c := 13) (by kernel_rfl) (.one (by kernel_rfl)))) fun u W hb hu => ?_
            have e7 := hu 7 (by kernel_rfl) (by omega)
            have e11 := hu 11 (by kernel_rfl) (by omega)
            simp only [List.getD_cons_zero, List.getD_cons_succ] at e7 e11
            go_simp
            try rw [if_pos (by omega)]
            try (simp [addr_add]; done)
          · refine kqP (by omega) (.cons (c := 14) (by kernel_rfl) (.one (by kernel_rfl))) fun u W hb hu => ?_
            have e12 := hu 12 (by kernel_rfl) (by omega)
            simp only [List.getD_cons_zero, List.getD_cons_succ] at e12
            have hc := (hb.cell (p := ⟨pb, po + i % np, none⟩) (cell_lt HPC.out)).trans HPC.out
            go_simp
          · refine kqC (by omega) (.one (by kernel_rfl)) fun u W hb hu K hK => ?_
            have e5 := hu 5 (by kernel_rfl) (by omega)
            have e6 := hu 6 (by kernel_rfl) (by omega)
            have e13 := hu 13 (by kernel_rfl) (by omega)
            simp only [List.getD_cons_zero, List.getD_cons_succ] at e5 e6 e13
            go_simp
            go_at_call 33
            (with_reducible refine (bCrashed_any (HD.out.later (Below.call HBR.out hb)) HKL.out HN.out HO.out HP1.out.1 HP1.out.2 rfl).mono ?_); rintro e w5 ⟨rfl, hb5⟩
            rw [HRR.out]
            have hk9 := hK.out _ hb5
            simp only [List.getD_cons_zero, List.getD_cons_succ, e5, e6, e13] at hk9
            exact hk9
          · refine kqP (by omega) (.one (by kernel_rfl)) fun u W hb hu => ?_
            have e3 := hu 3 (by kernel_rfl) (by omega)
            have e4 := hu 4 (by kernel_rfl) (by omega)
            simp only [List.getD_cons_zero, List.getD_cons_succ] at e3 e4
            go_simp
            try rw [if_pos (by omega)]
          · refine kqL fun u W hb hu => ?_
            have e14 := hu 14 (by kernel_rfl) (by omega)
            have e15 := hu 15 (by kernel_rfl) (by omega)
            simp only [List.getD_cons_zero, List.getD_cons_succ] at e14 e15
            have hBW := HB2.out.below hb HB2.out.lt
            have ht : W.there gb2 (k * 64) 64 := rows_there hBW HROW.out (by rw [HCL.out]; exact HKL.out)
            exact ⟨W.setCells gb2 (k * 64) (R.map bV), run_store_row rfl (by exact e15) (by exact e14) ht HR64.out, rows_set hBW HROW.out (by rw [HCL.out]; exact HKL.out) HR64.out, (Fr.of_below hb).trans (Fr.cellsS _ _ _ (Fr.refl _ _)) (fun y hy => .inl hy)⟩
        obtain ⟨hPb, hPf⟩ := hP
        rw [← HST.out] at hPb
        have hDS : Dv w9 gn { Bd.new d.good.length with good := d.cI picks (i + 1) } Fn := HT.out w9 _ (by rw [Bd.cI_len]; exact (Bd.cI_len _ _ _).symm) (Bd.cI_rows HD.out.ok picks (i + 1)) hPb hPf
        have hF9 : Fr Fn w3 w9 := HFR.out.trans (hPf.mono (F' := Fn) (fun y hy => .inl (by cases hy; exact HFB.out))) (fun y hy => .inl hy)
        rename_i aK _
        refine aK _ _ ?_
        clear aK
        go_wp2
        go_roundw
        case rel => first | exact ⟨i + 1, by omega, by go_num, hDS, hF9⟩ | ((repeat apply Exists.intro); exact ⟨⟨i + 1, by omega, by go_num, hDS, hF9⟩, rfl⟩)
        case measure => simp [intOf]; omega
    · obtain rfl : i = d.keys.length := by omega
      have HDE : Hid (Dv wr gn (d.crash picks) Fn) := Lib.hid (by rw [Bd.cI_end] at hDi; exact hDi)
      clear hDi hfr
      go_wp2
      go_ret
      exact ⟨gn, Fn, rfl, HDE.out, fun x hx => HFN.out x hx, HBR.out⟩
end Go.Proofs.Ytogjbhkhdccahaa
namespace Go.Proofs.Ytogjbhkhdccahaa
open Go Go.RowKit
/-- Just this value. -/
def kn (x : Value) : WP := ⟨fun v _ => v = x, fun _ _ _ h _ => h⟩
def kany : WP := ⟨fun _ _ => True, fun _ _ _ _ _ => trivial⟩
/-- Of the first n operations' values T holds, till operation n has come up; a value that is told stays. -/
structure GT (n : Nat) (T : List WP) (i : Nat) (L : Nat → Bool) (u : Nat → Value) (W : World) : Prop where
  soft : i < n → L n = false → (T.getD i kany).P (u i) W
  val : i < n → ∀ x, T.getD i kany = kn x → u i = x
theorem GT.keep {n k i : Nat} {T : List WP} {L : Nat → Bool} {u : Nat → Value} {z : Value} {W W' : World} (hki : k ≠ i) (hb : Below W.heap.size W W') (h : GT n T k L u W) : GT n T k (putL L i) (putV u i z) W' :=
  ⟨fun hk hl => by rw [putV_ne hki]; exact (T.getD k kany).st _ _ _ (h.soft hk (putL_false hl)) hb, fun hk x e => by rw [putV_ne hki]; exact h.val hk x e⟩
section
variable {n : Nat} {w1 : World} {T : List WP} {P : World → Prop} {ops : Array Oper} {wt : Nat → Nat → Bool} {Q : Exit → Act → World → Prop} {fr : (Nat → Value) → Array Value} {df : List Deferred} {i : Nat} {o : Oper}
end
section
variable {F : List Value} {fr : (Nat → Value) → Array Value} {df : List Deferred} {ops : Array Oper} {id : Nat} {Q : Exit → Act → World → Prop} {w : World}
end
end Go.Proofs.Ytogjbhkhdccahaa
namespace Go.Proofs.Ytogjbhkhdccahaa
open Go Go.RowKit
/-- Of a value, with its own blocks S. -/
structure FP (Z : Nat → Prop) where
  tell : Option Value
  P : (Nat → Prop) → Value → World → Prop
  st : ∀ S v w w', P S v w → Fr (fun x => Z x ∧ ¬ S x) w w' → P S v w'
def kv {Z : Nat → Prop} (x : Value) : FP Z := ⟨some x, fun _ v _ => v = x, fun _ _ _ _ h _ => h⟩
def kz {Z : Nat → Prop} : FP Z := ⟨none, fun _ _ _ => True, fun _ _ _ _ _ _ => trivial⟩
def zone (Fw : Nat → Prop) (B : Nat) (x : Nat) : Prop := Fw x ∨ B ≤ x
def liveT (tl : List (Option Nat)) (L : Nat → Bool) (i : Nat) : Prop := ∀ t, tl.getD i none = some t → L t = false
theorem liveT.mono {tl : List (Option Nat)} {L : Nat → Bool} {i k : Nat} (h : liveT tl (putL L i) k) : liveT tl L k := fun t ht => putL_false (h t ht)
theorem liveT.ne {tl : List (Option Nat)} {L : Nat → Bool} {i k : Nat} (h : liveT tl (putL L i) k) : tl.getD k none ≠ some i := fun ht => putL_false' (h i ht) rfl
/-- In the midst: gh: each value's own blocks. -/
structure JR (n m : Nat) (Fw : Nat → Prop) (w1 : World) (T : List (FP (zone Fw w1.heap.size))) (tl : List (Option Nat)) (gh : Nat → Nat → Prop) (L : Nat → Bool) (u : Nat → Value) (W : World) : Prop where
  old : L m = false → Below w1.heap.size w1 W
  fr : Fr Fw w1 W
  fact : ∀ i, i < n → L i = true → liveT tl L i → (T.getD i kz).P (gh i) (u i) W
  foot : ∀ i, i < n → L i = true → liveT tl L i → ∀ x, gh i x → (w1.heap.size ≤ x ∨ (Fw x ∧ L m = true)) ∧ x < W.heap.size
  apart : ∀ i j x, i < n → j < n → i ≠ j → L i = true → L j = true → liveT tl L i → liveT tl L j → gh i x → gh j x → False
structure JS (n m : Nat) (Fw : Nat → Prop) (w1 : World) (T : List (FP (zone Fw w1.heap.size))) (tl : List (Option Nat)) (Pd : Value → World → Prop) (L : Nat → Bool) (u : Nat → Value) (W : World) : Prop where
  val : ∀ k, k < n → L k = true → ∀ x, (T.getD k kz).tell = some x → u k = x
  done : L n = true → Pd (u n) W
  run : L n = false → ∃ gh, JR n m Fw w1 T tl gh L u W
def G0 (_i : Nat) (_L : Nat → Bool) (_u : Nat → Value) (_W : World) : Prop := True
/-- What an operation that waits for them finds. -/
structure CS (n m i : Nat) (Fw : Nat → Prop) (w1 : World) (T : List (FP (zone Fw w1.heap.size))) (tl : List (Option Nat)) (wt : Nat → Nat → Bool) (gh : Nat → Nat → Prop) (L : Nat → Bool) (u : Nat → Value) (W : World) : Prop where
  old : L m = false → Below w1.heap.size w1 W
  fr : Fr Fw w1 W
  free : ∀ t, t = i ∨ Path wt t i → L t = false
  val : ∀ j, wt i j = true → j < n → ∀ x, (T.getD j kz).tell = some x → u j = x
  fact : ∀ j, wt i j = true → j < n → liveT tl L j → (T.getD j kz).P (gh j) (u j) W
  foot : ∀ j, wt i j = true → j < n → liveT tl L j → ∀ x, gh j x → (w1.heap.size ≤ x ∨ (Fw x ∧ L m = true)) ∧ x < W.heap.size
  apart : ∀ j k x, wt i j = true → wt i k = true → j < n → k < n → j ≠ k → liveT tl L j → liveT tl L k → gh j x → gh k x → False
/-- The blocks of the values that operation i takes over. -/
def eats (n i : Nat) (tl : List (Option Nat)) (wt : Nat → Nat → Bool) (gh : Nat → Nat → Prop) (x : Nat) : Prop := ∃ j, wt i j = true ∧ j < n ∧ tl.getD j none = some i ∧ gh j x
section
variable {n m : Nat} {Fw : Nat → Prop} {w1 : World} {T : List (FP (zone Fw w1.heap.size))} {tl : List (Option Nat)} {Pd : Value → World → Prop} {ops : Array Oper} {wt : Nat → Nat → Bool} {Q : Exit → Act → World → Prop} {fr : (Nat → Value) → Array Value} {df : List Deferred} {i : Nat} {o : Oper}
theorem soft_G0 : Soft wt G0 := ⟨fun _ _ _ _ _ _ _ _ h => h, fun _ _ _ _ _ _ h => h⟩
theorem CS.before {gh : Nat → Nat → Prop} {L : Nat → Bool} {u : Nat → Value} {W : World} (h : CS n m i Fw w1 T tl wt gh L u W) (hp : m = i ∨ Path wt m i) : Below w1.heap.size w1 W := h.old (h.free m hp)
theorem CS.mk' {gh : Nat → Nat → Prop} {L : Nat → Bool} {u : Nat → Value} {W : World} (hcl : ∀ k d, L k = true → wt k d = true → L d = true) (hv : ∀ k, k < n → L k = true → ∀ x, (T.getD k kz).tell = some x → u k = x) (hJ : JR n m Fw w1 T tl gh L u W) (hL : L i = false) (hdep : ∀ d, wt i d = true → L d = true) : CS n m i Fw w1 T tl wt gh L u W :=
  ⟨hJ.old, hJ.fr, fun t ht => by rcases ht with rfl | ht; exact hL; exact notL hcl ht hL, fun j hw hj x e => hv j hj (hdep j hw) x e, fun j hw hj ha => hJ.fact j hj (hdep j hw) ha, fun j hw hj ha => hJ.foot j hj (hdep j hw) ha, fun j k x hj hk h1 h2 hne a1 a2 => hJ.apart j k x h1 h2 hne (hdep j hj) (hdep k hk) a1 a2⟩
/-- The state behind an operation that is not the last. -/
theorem JS.step {Fx : Nat → Prop} {L : Nat → Bool} {u : Nat → Value} {W w' : World} {gh : Nat → Nat → Prop} {v : Value} {S : Nat → Prop} (hi : i < n) (hn : L n = false) (hL : L i = false) (hdep : ∀ d, wt i d = true → L d = true)
    (hv : ∀ k, k < n → L k = true → ∀ x, (T.getD k kz).tell = some x → u k = x) (hJ : JR n m Fw w1 T tl gh L u W)
    (hFw : ∀ x, Fw x → x < w1.heap.size) (hFx : ∀ x, Fx x → (i = m ∧ Fw x)) (hf : Fr (fun x => Fx x ∨ eats n i tl wt gh x) W w') (hP : (T.getD i kz).P S v w') (hvi : ∀ x, (T.getD i kz).tell = some x → v = x)
    (hS : ∀ x, S x → Fx x ∨ eats n i tl wt gh x ∨ W.heap.size ≤ x) (hlt : ∀ x, S x → x < w'.heap.size) : JS n m Fw w1 T tl Pd (putL L i) (putV u i v) w' := by
  have hz : w1.heap.size ≤ W.heap.size := hJ.fr.size
  have hlive : ∀ j, tl.getD j none = some i → liveT tl L j := fun j e t ht => by rw [e] at ht; cases ht; exact hL
  have heat : ∀ x, eats n i tl wt gh x → (w1.heap.size ≤ x ∨ (Fw x ∧ L m = true)) ∧ x < W.heap.size := fun x ⟨j, hw, hj, ht, hg⟩ => hJ.foot j hj (hdep j hw) (hlive j ht) x hg
  -- what another live value has is not touched
  have hsep : ∀ k, k < n → k ≠ i → L k = true → liveT tl (putL L i) k → ∀ x, (Fx x ∨ eats n i tl wt gh x) → zone Fw w1.heap.size x ∧ ¬ gh k x := fun k hk hki hLk ha x hx => by
    have ha0 := ha.mono
    have hf := hJ.foot k hk hLk ha0 x
    rcases hx with hx | ⟨j, hw, hj, ht, hg⟩
    · obtain ⟨rfl, hx2⟩ := hFx x hx
      refine ⟨.inl hx2, fun hgk => ?_⟩
      rcases (hf hgk).1 with h | ⟨_, h⟩
      · have := hFw x hx2; omega
      · rw [hL] at h; cases h
    · refine ⟨?_, fun hgk => hJ.apart j k x hj hk (fun e => ?_) (hdep j hw) hLk (hlive j ht) ha0 hg hgk⟩
      · rcases (heat x ⟨j, hw, hj, ht, hg⟩).1 with h | ⟨h, _⟩
        · exact .inr h
        · exact .inl h
      · subst e; exact ha.ne ht
  have hgk : ∀ k, k ≠ i → (if k = i then S else gh k) = gh k := fun k h => if_neg h
  have hgi : (if i = i then S else gh i) = S := if_pos rfl
  have hlm : ∀ x, Fw x → L m = true → putL L i m = true := fun _ _ h => putL_old h
  refine ⟨fun k hk hLk x e => ?_, fun h => ?_, fun _ => ⟨fun k => if k = i then S else gh k, fun h => ?_, ?_, fun k hk hLk ha => ?_, fun k hk hLk ha x hx => ?_, fun j k x hj hk hne hLj hLk haj hak hgj hgk2 => ?_⟩⟩
  · by_cases hki : k = i
    · subst hki; rw [putV_same]; exact hvi x e
    · rw [putV_ne hki]; rw [putL_ne hki] at hLk; exact hv k hk hLk x e
  · rw [putL_ne (by omega)] at h; rw [hn] at h; cases h
  · have hm := putL_false h
    refine Below.trans (hJ.old hm) (hf.below hz (fun x hx => ?_))
    rcases hx with hx | hx
    · obtain ⟨rfl, _⟩ := hFx x hx
      rw [putL_same] at h; cases h
    · rcases (heat x hx).1 with h | ⟨_, h⟩
      · exact h
      · rw [hm] at h; cases h
  · refine hJ.fr.trans hf (fun x hx => ?_)
    rcases hx with hx | hx
    · exact .inl (hFx x hx).2
    · rcases (heat x hx).1 with h | ⟨h, _⟩
      · exact .inr h
      · exact .inl h
  · by_cases hki : k = i
    · subst hki; simp only [hgi, putV_same]; exact hP
    · rw [putL_ne hki] at hLk
      simp only [hgk k hki, putV_ne hki]
      exact (T.getD k kz).st _ _ _ _ (hJ.fact k hk hLk ha.mono) (hf.mono (fun x hx => .inl (hsep k hk hki hLk ha x hx)))
  · by_cases hki : k = i
    · subst hki
      simp only [hgi] at hx
      refine ⟨?_, hlt x hx⟩
      rcases hS x hx with h | h | h
      · obtain ⟨rfl, h2⟩ := hFx x h
        exact .inr ⟨h2, putL_same _ _⟩
      · rcases (heat x h).1 with h | ⟨h1, h2⟩
        · exact .inl h
        · exact .inr ⟨h1, putL_old h2⟩
      · exact .inl (by omega)
    · rw [putL_ne hki] at hLk
      simp only [hgk k hki] at hx
      have h := hJ.foot k hk hLk ha.mono x hx
      refine ⟨?_, Nat.lt_of_lt_of_le h.2 hf.size⟩
      rcases h.1 with h | ⟨h1, h2⟩
      · exact .inl h
      · exact .inr ⟨h1, putL_old h2⟩
  · have key : ∀ k, k < n → k ≠ i → putL L i k = true → liveT tl (putL L i) k → S x → gh k x → False := fun k hk hki hLk ha hSx hg => by
      rw [putL_ne hki] at hLk
      rcases hS x hSx with h | h | h
      · exact (hsep k hk hki hLk ha x (.inl h)).2 hg
      · exact (hsep k hk hki hLk ha x (.inr h)).2 hg
      · have := (hJ.foot k hk hLk ha.mono x hg).2; omega
    by_cases hji : j = i
    · subst hji
      simp only [hgi] at hgj
      rw [hgk k (fun e => hne e.symm)] at hgk2
      exact key k hk (fun e => hne e.symm) hLk hak hgj hgk2
    · rw [hgk j hji] at hgj
      by_cases hki : k = i
      · subst hki
        simp only [hgi] at hgk2
        exact key j hj hji hLj haj hgk2 hgj
      · rw [hgk k hki] at hgk2
        rw [putL_ne hji] at hLj; rw [putL_ne hki] at hLk
        exact hJ.apart j k x hj hk hne hLj hLk haj.mono hak.mono hgj hgk2
/-- An operation is wanted: it has no guard, or its guard's value is told. -/
def Gd (n : Nat) (T : List (FP (zone Fw w1.heap.size))) (ops : Array Oper) (wt : Nat → Nat → Bool) (fr : (Nat → Value) → Array Value) (i : Nat) (o : Oper) : Prop :=
  o.guard = none ∨ ∃ j b, o.guard = some (j, b) ∧ wt i j = true ∧ j < n ∧ (T.getD j kz).tell = some (.bool b) ∧ ∀ u, ((ops[j]?).bind (·.dst)).bind ((fr u)[·]?) = some (u j)
theorem Gd.wanted {L : Nat → Bool} {u : Nat → Value} (h : Gd n T ops wt fr i o) (hv : ∀ k, k < n → L k = true → ∀ x, (T.getD k kz).tell = some x → u k = x) (hdep : ∀ d, wt i d = true → L d = true) : Region.wanted o (yielded ops (fr u)) = true := by
  rcases h with h | ⟨j, b, h1, h2, h3, h4, h5⟩
  · simp [Region.wanted, h]
  · have e := hv j h3 (hdep j h2) _ h4
    simp [Region.wanted, h1, yielded, h5, e]
theorem Gd.on {b : Bool} (j : Nat) (h1 : o.guard = some (j, b)) (h2 : wt i j = true) (h3 : j < n) (h4 : (T.getD j kz).tell = some (.bool b)) (h5 : ∀ u, ((ops[j]?).bind (·.dst)).bind ((fr u)[·]?) = some (u j)) : Gd n T ops wt fr i o := .inr ⟨j, b, h1, h2, h3, h4, h5⟩
/-- A call. -/
theorem ksC (hFw : ∀ x, Fw x → x < w1.heap.size) (hi : i < n) (hp : Path wt n i)
    (hr : ∀ L u W gh, CS n m i Fw w1 T tl wt gh L u W → ∀ K : Act → World → Prop, Shut (∀ v w' S, Fr (eats n i tl wt gh) W w' → (T.getD i kz).P S v w' → (∀ x, (T.getD i kz).tell = some x → v = x) → (∀ x, S x → eats n i tl wt gh x ∨ W.heap.size ≤ x) → (∀ x, S x → x < w'.heap.size) → K ((⟨fr u, df⟩ : Act).put o.dst v) w') → Oper.wp Try.prog o ⟨fr u, df⟩ W K Q) (hg : Gd n T ops wt fr i o := by exact Or.inl rfl) :
    StepAt Try.prog ops wt Q fr df G0 (JS n m Fw w1 T tl Pd) i o := by
  intro L u W hcl hJ _ hL hdep K hK
  rw [if_pos (hg.wanted hJ.val hdep)]
  have hn := notL hcl hp hL
  obtain ⟨gh, hR⟩ := hJ.run hn
  refine hr L u W gh (CS.mk' hcl hJ.val hR hL hdep) K (fun v w' S hf hP hv hS hlt => ?_)
  exact hK.out v w' (JS.step (Fx := fun _ => False) hi hn hL hdep hJ.val hR hFw (fun _ h => h.elim) (hf.mono (fun x h => .inl (.inr h))) hP hv (fun x h => .inr (hS x h)) hlt) (fun _ _ _ _ h => h) trivial
/-- An operation that reads, makes memory, or writes to what it takes over. -/
theorem ksM (hFw : ∀ x, Fw x → x < w1.heap.size) (hi : i < n) (hp : Path wt n i)
    (hr : ∀ L u W gh, CS n m i Fw w1 T tl wt gh L u W → ∃ v w' S, (execOp (⟨fr u, df⟩ : Act).eval o).run Try.prog W = .ok (.value v) w' ∧ Fr (eats n i tl wt gh) W w' ∧ (T.getD i kz).P S v w' ∧ (∀ x, (T.getD i kz).tell = some x → v = x) ∧ (∀ x, S x → eats n i tl wt gh x ∨ W.heap.size ≤ x) ∧ (∀ x, S x → x < w'.heap.size)) (hg : Gd n T ops wt fr i o := by exact Or.inl rfl) :
    StepAt Try.prog ops wt Q fr df G0 (JS n m Fw w1 T tl Pd) i o :=
  ksC hFw hi hp (fun L u W gh hc K hK => by
    obtain ⟨v, w', S, hrun, h1, h2, h3, h4, h5⟩ := hr L u W gh hc
    unfold Oper.wp
    rw [hrun]
    exact hK.out v w' S h1 h2 h3 h4 h5) hg
/-- .. that gives just this. -/
theorem ksP {x : Value} (hFw : ∀ x, Fw x → x < w1.heap.size) (hi : i < n) (hp : Path wt n i) (hT : T.getD i kz = kv x)
    (hr : ∀ L u W gh, CS n m i Fw w1 T tl wt gh L u W → (execOp (⟨fr u, df⟩ : Act).eval o).run Try.prog W = .ok (.value x) W) (hg : Gd n T ops wt fr i o := by exact Or.inl rfl) :
    StepAt Try.prog ops wt Q fr df G0 (JS n m Fw w1 T tl Pd) i o :=
  ksM hFw hi hp (fun L u W gh hc => ⟨x, W, fun _ => False, hr L u W gh hc, Fr.refl _ _, by rw [hT]; rfl, fun y e => by
    rw [hT] at e
    cases e; rfl, fun _ h => h.elim, fun _ h => h.elim⟩) hg
/-- The last one, which may write to what was there. -/
theorem ksL (hr : ∀ L u W gh, CS n m n Fw w1 T tl wt gh L u W → ∃ r v w', (execOp (⟨fr u, df⟩ : Act).eval o).run Try.prog W = .ok r w' ∧ (r = .skip ∧ v = undef ∨ r = .value v) ∧ Pd v w') (hg : Gd n T ops wt fr n o := by exact Or.inl rfl) :
    StepAt Try.prog ops wt Q fr df G0 (JS n m Fw w1 T tl Pd) n o := by
  intro L u W hcl hJ _ hL hdep K hK
  rw [if_pos (hg.wanted hJ.val hdep)]
  obtain ⟨gh, hR⟩ := hJ.run hL
  obtain ⟨r, v, w', hrun, hr2, hP⟩ := hr L u W gh (CS.mk' hcl hJ.val hR hL hdep)
  have hJ' : JS n m Fw w1 T tl Pd (putL L n) (putV u n v) w' := ⟨fun k hk hLk x e => by rw [putL_ne (by omega)] at hLk; rw [putV_ne (by omega)]; exact hJ.val k hk hLk x e, fun _ => by rw [putV_same]; exact hP, fun h => by rw [putL_same] at h; cases h⟩
  unfold Oper.wp
  rw [hrun]
  rcases hr2 with ⟨rfl, rfl⟩ | rfl
  · exact hK.out undef w' hJ' (fun _ _ _ _ h => h) trivial
  · exact hK.out v w' hJ' (fun _ _ _ _ h => h) trivial
end
section
variable {F : List Value} {fr : (Nat → Value) → Array Value} {df : List Deferred} {ops : Array Oper} {id : Nat} {Q : Exit → Act → World → Prop} {w : World}
/-- A statement that draws its order. -/
theorem rgS (n m : Nat) (Fw : Nat → Prop) (p : List (Nat × Nat)) (T : List (FP (zone Fw w.heap.size))) (tl : List (Option Nat)) (Pd : Value → World → Prop)
    (hsteps : AllSteps Try.prog ops (waitsOn .any ops) Q fr df G0 (JS n m Fw w T tl Pd) 0 ops.toList)
    (hdone : ∀ u W, Pd (u n) W → (∀ k, k < n → ∀ x, (T.getD k kz).tell = some x → u k = x) → Q .normal ⟨fr u, df⟩ W)
    (hF : ∀ u, (mrg F p u).toArray = fr u := by intro u; dsimp only [mrg]; try exact rfl)
    (hc : okP p ops = true := by kernel_rfl) (hn : ops.size = n + 1 := by kernel_rfl) (hm : Try.prog.follows .mixedOrders = true := by kernel_rfl) (he : earlier .any ops = true := by kernel_rfl) : (Code.region id ops true).wp Try.prog Q ⟨F.toArray, df⟩ w := by
  obtain ⟨u0, hu⟩ := mrg_self p F (by simp only [okP, Bool.and_eq_true] at hc; exact hc.1)
  have h0 : JS n m Fw w T tl Pd (fun _ => false) u0 w.drew := ⟨fun _ _ h => (by cases h), fun h => (by cases h), fun _ => ⟨fun _ _ => False, fun _ => (Below.refl _ _).drew, (Fr.refl _ _).drew, fun _ _ h => (by cases h), fun _ _ h => (by cases h), fun _ _ _ _ _ _ h => (by cases h)⟩⟩
  exact wp_region_mid (a := ⟨F.toArray, df⟩) fr G0 (JS n m Fw w T tl Pd) u0 hm he (okP_put hc hF) (by rw [← hF, hu]) h0 soft_G0 (fun _ => hsteps)
    (fun L u W hall hJ _ => hdone u W (hJ.done (hall n (by omega))) (fun k hk x e => hJ.val k hk (hall k (by omega)) x e))
end
end Go.Proofs.Ytogjbhkhdccahaa
namespace Go.Proofs.Ytogjbhkhdccahaa
open Go Go.RowKit
/-- A slice type and its element. -/
structure ElT (tS E sz bytes : Nat) (z : Value) : Prop where
  und : Try.prog.underlying tS = some (.slice E)
  info : ∃ i, Try.prog.info? E = some i ∧ i.zero = some z ∧ i.size = sz ∧ i.bytes = bytes
  zs : z.cells.size = sz
  pos : 0 < sz
theorem elT_info {E sz b : Nat} {z : Value} (h : (Try.prog.info? E).map (fun i => (i.zero, i.size, i.bytes)) = some (some z, sz, b)) : ∃ i, Try.prog.info? E = some i ∧ i.zero = some z ∧ i.size = sz ∧ i.bytes = b := by
  obtain ⟨i, hi, e⟩ := Option.map_eq_some_iff.1 h
  simp only [Prod.mk.injEq] at e
  exact ⟨i, hi, e.1, e.2.1, e.2.2⟩
theorem elB : ElT 28 5 1 1 (.int .u8 0) := ⟨Try.underlying28, elT_info (by kernel_rfl), rfl, by omega⟩
theorem elR : ElT 69 28 1 24 (.slice none 0 0) := ⟨Try.underlying69, elT_info (by kernel_rfl), rfl, by omega⟩
section
variable {tS E sz bytes : Nat} {z : Value} {ev : Operand → Value} {o : Oper} {w : World}
end
section
variable {Z : Nat → Prop}
/-- A slice that reads as these bytes: its own, or of no block of the zone. -/
def RdZ (Z S : Nat → Prop) (v : Value) (w : World) (l : List UInt8) : Prop := ∃ a n c, v = .slice a n c ∧ RdB w a n c l ∧ ∀ p, a = some p → S p.block ∨ ¬ Z p.block
theorem RdZ.frame {F S : Nat → Prop} {v : Value} {w w' : World} {l : List UInt8} (h : RdZ Z S v w l) (hf : Fr F w w') (hF : ∀ x, F x → Z x ∧ ¬ S x) : RdZ Z S v w' l := by
  obtain ⟨a, n, c, e, hr, hs⟩ := h
  refine ⟨a, n, c, e, hf.rd hr (fun p hp hx => ?_), hs⟩
  obtain ⟨h1, h2⟩ := hF _ hx
  rcases hs p hp with h | h
  · exact h2 h
  · exact h h1
def rdF (l : List UInt8) : FP Z := ⟨none, fun S v w => RdZ Z S v w l, fun _ _ _ _ h hf => h.frame hf (fun _ h => h)⟩
end
end Go.Proofs.Ytogjbhkhdccahaa
namespace Go.Proofs.Ytogjbhkhdccahaa
open Go Go.RowKit
/-- j of the calls have come up; P j holds. -/
def JQ (c : List Nat) (Pj : Nat → World → Prop) (L : Nat → Bool) (_u : Nat → Value) (W : World) : Prop := ∃ j, j ≤ c.length ∧ (∀ t k, c[t]? = some k → L k = decide (t < j)) ∧ Pj j W
def GQ (X : List Value) (i : Nat) (_L : Nat → Bool) (u : Nat → Value) (_W : World) : Prop := u i = X.getD i undef
section
variable {c : List Nat} {Pj : Nat → World → Prop} {X : List Value} {ops : Array Oper} {wt : Nat → Nat → Bool} {Q : Exit → Act → World → Prop} {fr : (Nat → Value) → Array Value} {df : List Deferred} {i : Nat} {o : Oper}
theorem soft_GQ : Soft wt (GQ X) := ⟨fun _ _ _ _ _ _ hki _ h => by unfold GQ at *; rw [putV_ne hki]; exact h, fun _ _ _ _ _ _ h => h⟩
/-- An operation that reads. -/
theorem kkP (hi : i ∉ c) (hr : ∀ u W j, Pj j W → (∀ t k, c[t]? = some k → Path wt i k → t < j) → (∀ t k, c[t]? = some k → Path wt k i → j ≤ t) → (∀ d, wt i d = true → u d = X.getD d undef) → (execOp (⟨fr u, df⟩ : Act).eval o).run Try.prog W = .ok (.value (X.getD i undef)) W) (hg : o.guard = none := by rfl) :
    StepAt Try.prog ops wt Q fr df (GQ X) (JQ c Pj) i o := by
  intro L u W hcl hJ hG hL hdep K hK
  rw [if_pos (by simp [Region.wanted, hg])]
  obtain ⟨j, hj, hc, hP⟩ := hJ
  unfold Oper.wp
  rw [hr u W j hP (fun t k hk hp => by have h1 := hp.first hcl hdep; rw [hc t k hk] at h1; exact of_decide_eq_true h1) (fun t k hk hp => by have h1 := notL hcl hp hL; rw [hc t k hk] at h1; have := of_decide_eq_false h1; omega) (fun d hd => hG d (hdep d hd))]
  refine hK.out _ W ⟨j, hj, fun t k hk => ?_, hP⟩ (fun k hk hki _ h => by unfold GQ at *; rw [putV_ne hki]; exact h) (by unfold GQ; exact putV_same _ _ _)
  have hne : k ≠ i := fun e => hi (by rw [← e]; exact List.mem_of_getElem? hk)
  rw [putL_ne hne]; exact hc t k hk
/-- A call. -/
theorem kkC {t : Nat} (ht : c[t]? = some i) (hnd : c.Nodup) (hord : ∀ s k, s < t → c[s]? = some k → Path wt i k) (hr : ∀ u W, Pj t W → (∀ d, wt i d = true → u d = X.getD d undef) → ∀ K : Act → World → Prop, Shut (∀ w', Pj (t + 1) w' → K ((⟨fr u, df⟩ : Act).put o.dst (X.getD i undef)) w') → Oper.wp Try.prog o ⟨fr u, df⟩ W K Q) (hg : o.guard = none := by rfl) :
    StepAt Try.prog ops wt Q fr df (GQ X) (JQ c Pj) i o := by
  intro L u W hcl hJ hG hL hdep K hK
  rw [if_pos (by simp [Region.wanted, hg])]
  obtain ⟨j, hj, hc, hP⟩ := hJ
  have htl := (List.getElem?_eq_some_iff.1 ht).1
  have hjt : j = t := by
    have h1 := hc t i ht
    rw [hL] at h1
    have h2 := of_decide_eq_false h1.symm
    rcases Nat.lt_or_ge j t with h | h
    · obtain ⟨k, hk⟩ : ∃ k, c[j]? = some k := ⟨_, List.getElem?_eq_getElem (by omega)⟩
      have h3 := (hord j k h hk).first hcl hdep
      rw [hc j k hk] at h3
      have := of_decide_eq_true h3
      omega
    · omega
  subst hjt
  refine hr u W hP (fun d hd => hG d (hdep d hd)) K (fun w' hP' => ?_)
  refine hK.out _ w' ⟨j + 1, htl, fun s k hk => ?_, hP'⟩ (fun k hk hki _ h => by unfold GQ at *; rw [putV_ne hki]; exact h) (by unfold GQ; exact putV_same _ _ _)
  by_cases e : s = j
  · subst e
    rw [ht] at hk; cases hk
    rw [putL_same]; simp
  · have hki : k ≠ i := fun h => by
      subst h
      have h1 := (List.getElem?_eq_some_iff.1 hk); have h2 := (List.getElem?_eq_some_iff.1 ht)
      exact e ((List.getElem_inj (h₀ := h1.1) (h₁ := h2.1) hnd).1 (h1.2.trans h2.2.symm))
    rw [putL_ne hki, hc s k hk]
    simp only [decide_eq_decide]; omega
end
section
variable {F : List Value} {fr : (Nat → Value) → Array Value} {df : List Deferred} {ops : Array Oper} {id : Nat} {Q : Exit → Act → World → Prop} {w : World}
theorem rgQ (n : Nat) (p : List (Nat × Nat)) (X : List Value) (c : List Nat) (Pj : Nat → World → Prop) (hP0 : Pj 0 w.drew) (hcn : ∀ k ∈ c, k < n)
    (hsteps : AllSteps Try.prog ops (waitsOn .any ops) Q fr df (GQ X) (JQ c Pj) 0 ops.toList)
    (hdone : ∀ u W, Pj c.length W → (∀ k, k < n → u k = X.getD k undef) → Q .normal ⟨fr u, df⟩ W)
    (hF : ∀ u, (mrg F p u).toArray = fr u := by intro u; dsimp only [mrg]; try exact rfl)
    (hc : okP p ops = true := by kernel_rfl) (hn : ops.size = n := by kernel_rfl) (hm : Try.prog.follows .mixedOrders = true := by kernel_rfl) (he : earlier .any ops = true := by kernel_rfl) : (Code.region id ops true).wp Try.prog Q ⟨F.toArray, df⟩ w := by
  obtain ⟨u0, hu⟩ := mrg_self p F (by simp only [okP, Bool.and_eq_true] at hc; exact hc.1)
  refine wp_region_mid (a := ⟨F.toArray, df⟩) fr (GQ X) (JQ c Pj) u0 hm he (okP_put hc hF) (by rw [← hF, hu]) ⟨0, Nat.zero_le _, fun t k hk => by simp, hP0⟩ soft_GQ (fun _ => hsteps) (fun L u W hall hJ hG => ?_)
  obtain ⟨j, hj, hcj, hP⟩ := hJ
  have : j = c.length := by
    rcases Nat.lt_or_ge j c.length with h | h
    · have h1 := hcj j _ (List.getElem?_eq_getElem h)
      rw [hall _ (by rw [hn]; exact hcn _ (List.getElem_mem h))] at h1
      have := of_decide_eq_true h1.symm
      omega
    · omega
  subst this
  exact hdone u W hP (fun k hk => hG k (by omega))
end
end Go.Proofs.Ytogjbhkhdccahaa
namespace Go.Proofs.Ytogjbhkhdccahaa
open Go Go.RowKit Go.Maps
theorem round_neg {k n : Int} (hn : 0 < n) (h : k.tmod n < 0) : k.tmod n + n = k % n := by
  have h1 := Int.tmod_eq_emod (a := k) (b := n)
  have h2 := Int.emod_nonneg k (show n ≠ 0 by omega)
  have h3 : (n.natAbs : Int) = n := by omega
  generalize k % n = r at *
  generalize k.tmod n = t at *
  split at h1 <;> omega
theorem round_pos {k n : Int} (hn : 0 < n) (h : ¬ k.tmod n < 0) : k.tmod n = k % n := by
  have h1 := Int.tmod_eq_emod (a := k) (b := n)
  have h2 := Int.emod_lt_of_pos k hn
  have h3 : (n.natAbs : Int) = n := by omega
  generalize k % n = r at *
  generalize k.tmod n = t at *
  split at h1 <;> omega
set_option maxRecDepth 100000 in
set_option maxHeartbeats 1000000 in
theorem alRound_any {k n : Int} {w : World} (hn : 0 < n) (hn2 : n ≤ 4611686018427387904) : Calls Try.prog 12 #[.int .i64 k, .int .i64 n] w fun e w' => e = .returned (.int .i64 (k % n)) ∧ w = w' := by
  have hz : n ≠ 0 := by omega
  by_cases ht : k.tmod n < 0
  · have hd : decide (k.tmod n < 0) = true := decide_eq_true ht
    have hlo : -n < k.tmod n := Int.lt_tmod_of_pos k hn
    have HE := Lib.hid (round_neg hn ht)
    have hw : IntKind.i64.wrap (k.tmod n + n) = k.tmod n + n := by rw [IntKind.wrap_i64]; omega
    obtain ⟨t, hte⟩ : ∃ t, k.tmod n = t := ⟨_, rfl⟩
    rw [hte] at hd hlo HE hw ht
    go_enter Try.func12, Try.ntmps12
    go_wp2
    go_ret
    rw [← HE.out]
    exact ⟨rfl, rfl⟩
  · have hd : decide (k.tmod n < 0) = false := decide_eq_false ht
    have HE := Lib.hid (round_pos hn ht)
    obtain ⟨t, hte⟩ : ∃ t, k.tmod n = t := ⟨_, rfl⟩
    rw [hte] at hd HE ht
    go_enter Try.func12, Try.ntmps12
    go_wp2
    go_ret
    rw [← HE.out]
    exact ⟨rfl, rfl⟩
/-- Byte i of the bytes that hang on k. -/
def alBy (k : Int) (i : Nat) : UInt8 := UInt8.ofNat ((wrap64 (wrap64 (wrap64 ((i : Int) * i) + wrap64 (k * 7)) + 1) % 251).toNat)
def alB (n : Nat) (k : Int) : List UInt8 := (List.range n).map (alBy k)
theorem alB_len (n : Nat) (k : Int) : (alB n k).length = n := by simp [alB]
def alR (n : Nat) (k : Int) (i : Nat) : List Value := row n fun j => if j < i then bV (alBy k j) else bV 0
theorem alBy_val (k : Int) (i : Nat) : ((alBy k i).toNat : Int) = wrap64 (wrap64 (wrap64 ((i : Int) * i) + wrap64 (k * 7)) + 1) % 251 := by
  have h1 := Int.emod_nonneg (wrap64 (wrap64 (wrap64 ((i : Int) * i) + wrap64 (k * 7)) + 1)) (show (251 : Int) ≠ 0 by omega)
  have h2 := Int.emod_lt_of_pos (wrap64 (wrap64 (wrap64 ((i : Int) * i) + wrap64 (k * 7)) + 1)) (show (0 : Int) < 251 by omega)
  unfold alBy
  generalize wrap64 (wrap64 (wrap64 ((i : Int) * i) + wrap64 (k * 7)) + 1) % 251 = r at *
  have h3 : r.toNat < 256 := by omega
  rw [UInt8.toNat_ofNat', Nat.mod_eq_of_lt h3]; omega
theorem mkB (n : Nat) (h : n ≤ 1000000) (w : World) : (Instr.makeSlice 28 (.int .i64 (n : Int)) (.int .i64 (n : Int))).run Try.prog w = .ok (.slice (some ⟨w.heap.size, 0, none⟩) n n) (w.alloc (.cells (List.replicate n (bV 0)).toArray 5)) := by
  obtain ⟨i, hi, hz, hs, hb⟩ := elB.info
  have hr := run_make (P := Try.prog) w 28 5 i _ Try.underlying28 hi hz .i64 .i64 n n (by omega) (Int.le_refl _) (by rw [hb]; omega) (by omega)
  have e : (Value.int .u8 0).cells = (List.replicate 1 (bV 0)).toArray := rfl
  simp only [Int.toNat_natCast, hs, e, Nat.mul_one] at hr
  rw [made_const (v := bV 0) (by simp) (fun j hj => by simp at hj; subst hj; rfl)] at hr
  exact hr
set_option maxRecDepth 100000 in
set_option maxHeartbeats 1000000 in
theorem alBlock_any {n : Nat} {k : Int} {w : World} (hn : n ≤ 100000) : Calls Try.prog 11 #[.int .i64 (n : Int), .int .i64 k] w fun e w' => ∃ q, e = .returned (.slice (some ⟨q, 0, none⟩) n n) ∧ w.heap.size ≤ q ∧ Blk w' q ((alB n k).map bV) 5 ∧ Below w.heap.size w w' := by
  have hmk := mkB n (by omega)
  have HN := Lib.hid hn
  have hmax : max (n : Int) 0 = (n : Int) := by omega
  clear hn
  go_enter Try.func11, Try.ntmps11
  go_wp2
  refine wp_gen (fun W => Blk W w.heap.size (alR n k 0) 5 ∧ Below w.heap.size w W) ⟨?_, (Below.refl _ _).alloc (Nat.le_refl _) _⟩ (fun w1 hW => ?_)
  · have h := Blk.new w (List.replicate n (bV 0)).toArray 5
    rw [List.toList_toArray] at h
    have e : alR n k 0 = List.replicate n (bV 0) := by
      unfold alR row
      apply List.ext_getElem?
      intro i
      rcases Nat.lt_or_ge i n with hi | hi
      · rw [List.getElem?_map, List.getElem?_range hi]; simp [hi]
      · rw [List.getElem?_eq_none (by simpa using hi), List.getElem?_eq_none (by simpa using hi)]
    rw [e]; exact h
  have HW := Lib.hid hW
  clear hW hmk hmax
  go_loopw [6] (fun iv wr => ∃ i : Nat, i ≤ n ∧ iv = .int .i64 i ∧ Blk wr w.heap.size (alR n k i) 5 ∧ Below w.heap.size w wr) (fun iv _ => n - (intOf iv).toNat)
  case atStart => exact ⟨0, Nat.zero_le _, rfl, HW.out.1, HW.out.2⟩
  case round =>
    obtain ⟨i, hi, rfl, hB, hbw⟩ := hrel
    have hn8 : (n : Int) ≤ 100000 := by have := HN.out; omega
    have hi8 : (i : Int) ≤ 100000 := by omega
    have hi0 : (0 : Int) ≤ (i : Int) := by omega
    have hiw : IntKind.i64.wrap ((i : Int) + 1) = ((i + 1 : Nat) : Int) := by rw [IntKind.wrap_i64]; omega
    have HB := Lib.hid hB; have HBW := Lib.hid hbw
    by_cases hlt : i < n
    · have hi1 : (i : Int) < (n : Int) := by omega
      have hcc : wr.cell? ⟨w.heap.size, i, none⟩ = some (bV 0) := by have h := hB.at hlt; rw [if_neg (Nat.lt_irrefl i)] at h; exact h
      have hff := hB.frozen
      have HLT := Lib.hid hlt
      obtain ⟨v, hv⟩ : ∃ v, v = wrap64 (wrap64 (wrap64 ((i : Int) * i) + wrap64 (k * 7)) + 1) % 251 := ⟨_, rfl⟩
      have HV := Lib.hid hv
      have hv0 : 0 ≤ v ∧ v < 251 := by rw [hv]; exact ⟨Int.emod_nonneg _ (by omega), Int.emod_lt_of_pos _ (by omega)⟩
      have hvw : IntKind.u8.wrap v = v := by rw [IntKind.wrap_u8]; omega
      have HS : Hid ((alR n k i).set i (.int .u8 v) = alR n k (i + 1)) := Lib.hid (row_set i _ (by rw [if_pos (by omega)]; unfold bV; rw [alBy_val, ← hv]) (fun j hj hne => by
        by_cases h : j < i
        · rw [if_pos (by omega), if_pos h]
        · rw [if_neg (by omega), if_neg h]))
      unfold bV at hcc
      clear hv hB hbw hlt hi
      go_wp2_with (go_at_call 12; (with_reducible refine (alRound_any (by omega) (by omega)).mono ?_); rintro e wz ⟨rfl, rfl⟩)
      have HI : Hid (i + 1 ≤ n) := Lib.hid (by have := HLT.out; omega)
      go_roundw
      case rel => exact ⟨i + 1, HI.out, by go_num, by rw [← HV.out, ← HS.out]; exact HB.out.set i _, HBW.out.setCell (Nat.le_refl _) _⟩
      case measure => have := HI.out; simp [intOf]; omega
    · obtain rfl : i = n := by omega
      have HE : Hid (alR i k i = (alB i k).map bV) := Lib.hid (by
        unfold alR row alB
        rw [List.map_map]
        apply List.map_congr_left
        intro j hj
        rw [if_pos (List.mem_range.1 hj)]; rfl)
      clear hB hbw hlt
      go_wp2
      go_ret
      exact ⟨w.heap.size, rfl, Nat.le_refl _, by rw [← HE.out]; exact HB.out, HBW.out⟩
end Go.Proofs.Ytogjbhkhdccahaa
namespace Go.Proofs.Ytogjbhkhdccahaa
open Go.RowKit
/-- The slice (a, n, cap) holds slices that read as the rows ls. -/
structure RdRows (w : World) (a : Option Addr) (n cap : Nat) (ls : List (List UInt8)) : Prop where
  hlen : ls.length = n
  hcap : n ≤ cap
  hmax : cap ≤ maxLen
  get : ∀ i (h : i < ls.length), ∃ b o sa sn sc, a = some ⟨b, o, none⟩ ∧ w.cell? ⟨b, o + i, none⟩ = some (.slice sa sn sc) ∧ RdB w sa sn sc ls[i]
theorem RdRows.below {w w' : World} {a : Option Addr} {n cap : Nat} {ls : List (List UInt8)} (h : RdRows w a n cap ls) (hb : Below w.heap.size w w') : RdRows w' a n cap ls := by
  refine ⟨h.hlen, h.hcap, h.hmax, fun i hi => ?_⟩
  obtain ⟨b, o, sa, sn, sc, ha, hc, hr⟩ := h.get i hi
  exact ⟨b, o, sa, sn, sc, ha, by rw [hb.cell (cell_lt hc)]; exact hc, hr.below hb⟩
theorem RdRows.cases {w : World} {a : Option Addr} {n cap : Nat} {ls : List (List UInt8)} (h : RdRows w a n cap ls) :
    (n = 0 ∧ ls = []) ∨ ∃ b o, 0 < n ∧ a = some ⟨b, o, none⟩ ∧ ∀ i (hi : i < ls.length), ∃ sa sn sc, w.cell? ⟨b, o + i, none⟩ = some (.slice sa sn sc) ∧ RdB w sa sn sc ls[i] := by
  by_cases h0 : n = 0
  · exact .inl ⟨h0, List.eq_nil_of_length_eq_zero (by rw [h.hlen, h0])⟩
  · obtain ⟨b, o, _, _, _, ha, _, _⟩ := h.get 0 (by have := h.hlen; omega)
    refine .inr ⟨b, o, by omega, ha, fun i hi => ?_⟩
    obtain ⟨b', o', sa, sn, sc, ha', hc, hr⟩ := h.get i hi
    rw [ha] at ha'
    simp at ha'
    obtain ⟨rfl, rfl⟩ := ha'
    exact ⟨sa, sn, sc, hc, hr⟩
/-- How many bytes the first k rows have. -/
def lens (ls : List (List UInt8)) (k : Nat) : Nat := (ls.take k).flatten.length
theorem lens_succ (ls : List (List UInt8)) (k : Nat) (h : k < ls.length) : lens ls (k + 1) = lens ls k + ls[k].length := by
  unfold lens; rw [List.take_succ_eq_append_getElem h, List.flatten_append, List.length_append, List.flatten_singleton]
theorem flat_succ (ls : List (List UInt8)) (k : Nat) (h : k < ls.length) : (ls.take (k + 1)).flatten = (ls.take k).flatten ++ ls[k] := by
  rw [List.take_succ_eq_append_getElem h, List.flatten_append, List.flatten_singleton]
theorem lens_le (ls : List (List UInt8)) (k : Nat) : lens ls k ≤ ls.flatten.length := by
  unfold lens
  conv => rhs; rw [← List.take_append_drop k ls, List.flatten_append, List.length_append]
  omega
set_option maxRecDepth 100000 in
set_option maxHeartbeats 4000000 in
theorem grow_any (n : Nat) (hn : n ≤ 70368744177664) (w : World) :
    Calls Try.prog 44 #[.slice none 0 0, .int .i64 n] w fun e w' => ∃ v, e = .returned v ∧ w'.ownsRow w.heap.size 5 1 v 0 [] ∧ Below w.heap.size w w' := by
  obtain ⟨i0, hi, hz0, hz1, hz2⟩ := info_parts infoU8
  by_cases h0 : n = 0
  · subst h0
    go_enter Try.func44, Try.ntmps44
    go_wp2
    go_ret
    exact ⟨_, rfl, World.ownsRow_nil _ _ _ _, Below.refl _ _⟩
  · have h1 : ¬ ((n : Int) < 0) := by omega
    have h4 : (n : Int) > 0 := by omega
    have hrz : ∀ ty, (Builtin.append_ #[28, 3] ty #[.slice none 0 0, .int .i64 (n : Int)]).run Try.prog w =
        .ok (.slice (some ⟨w.heap.size, 0, none⟩) n (grownCap w n 0 5)) (w.drew.alloc (.cells (([] : List Value).toArray ++ Builtin.zeroCells (Value.int .u8 0).cells n ++ Builtin.zeroCells (Value.int .u8 0).cells (grownCap w n 0 5 - n)) 5)) := fun ty => by
      have h := Lib.run_append_grow_zeros w 28 3 ty 5 i0 (.int .u8 0) .i64 .i64 Try.underlying28 Try.underlying3 hi hz0 none 0 0 [] (run_firstCells_none w.drew i0.size 0 0 0) n (by omega) (by omega) (by omega) (by omega)
        (by rw [hz2]; omega)
        (by rw [Nat.zero_add]; exact growslice_fits (by omega) (by rw [hz2]; omega))
      rw [Nat.zero_add] at h
      exact h
    have hGn : n ≤ grownCap w n 0 5 := grownCap_ge w _ _ _
    obtain ⟨G, hG⟩ : ∃ G, G = grownCap w n 0 5 := ⟨_, rfl⟩
    rw [← hG] at hrz hGn
    have hGm : G ≤ maxLen := by
      have := grownCap_le_maxLen w n 0 5 (by unfold maxLen; omega)
      rw [← hG] at this; exact this
    have hG63 : G ≤ 9223372036854775807 := by unfold maxLen at hGm; omega
    obtain ⟨O, hO⟩ : ∃ O, O = Obj.cells (([] : List Value).toArray ++ Builtin.zeroCells (Value.int .u8 0).cells n ++ Builtin.zeroCells (Value.int .u8 0).cells (G - n)) 5 (0, 0) := ⟨_, rfl⟩
    rw [← hO] at hrz
    have hown : World.ownsRow (w.alloc O).drew w.heap.size 5 1 (.slice (some ⟨w.heap.size, 0, none⟩) 0 G) 0 [] := by
      rw [hO]
      refine World.ownsRow_made w.drew _ G (Nat.le_refl _) hGm ?_
      simp [size_zeroCells, Value.cells]; omega
    have HO := Lib.hid hown
    clear hG hown hi hz0 hz1 hz2 hGm hO
    go_enter Try.func44, Try.ntmps44
    go_wp2_with (at_builtin; refine Lib.wpList_append_run _ rfl _ _ _ _ rfl _ _ rfl rfl _ _ (hrz _) ?_)
    all_goals (go_ret; exact ⟨_, rfl, HO.out, (by repeat (first | (with_reducible refine Below.alloc' ?_ _) | (with_reducible refine Below.drew ?_) | (with_reducible refine below_drewN ?_ _) | ((with_reducible refine Below.setCell ?_ ?_ _); rotate_left; (focus (first | exact Nat.le_refl _ | (simp; done) | (simp; omega)))) | (with_reducible assumption) | (with_reducible exact Below.refl _ _)))⟩)
set_option maxRecDepth 100000 in
set_option maxHeartbeats 4000000 in
theorem concat_any {a : Option Addr} {n cap : Nat} {ls : List (List UInt8)} (w : World) (h : RdRows w a n cap ls) (hs : ls.flatten.length ≤ 70368744177664) :
    Calls Try.prog 35 #[.slice a n cap] w fun e w' => ∃ v, e = .returned v ∧ w'.ownsRow w.heap.size 5 1 v ls.flatten.length (ls.flatten.map bV) ∧ Below w.heap.size w w' := by
  have HL := Lib.hid h.hlen
  have HS := Lib.hid hs
  have hm63 : (n : Int) ≤ 9223372036854775807 := by have := h.hcap; have := h.hmax; unfold maxLen at *; omega
  have HR := Lib.hid h
  clear h
  go_enter Try.func35, Try.ntmps35
  go_wp2
  go_loopw [3, 11] (fun s i wr => ∃ k : Nat, k ≤ n ∧ i = .int .i64 k ∧ s = .int .i64 (lens ls k : Nat) ∧ Below w.heap.size w wr) (fun _ i _ => n - (intOf i).toNat)
  case atStart => exact ⟨0, by omega, rfl, rfl, Below.refl _ _⟩
  case round =>
    obtain ⟨k, hk, rfl, rfl, hbel⟩ := hrel
    by_cases hlt : k < n
    · rcases HR.out.cases with ⟨h0, _⟩ | ⟨b, o, _, rfl, hget⟩
      · omega
      · have hkl : k < ls.length := by rw [HL.out]; exact hlt
        obtain ⟨sa, sn, sc, hc, hr⟩ := hget k hkl
        have hc2 : wr.cell? ⟨b, o + k, none⟩ = some (.slice sa sn sc) := by rw [hbel.cell (cell_lt hc)]; exact hc
        have e1 := lens_succ ls k hkl
        rw [hr.hlen] at e1
        have h2 := lens_le ls (k + 1)
        have hsum : lens ls k + sn ≤ 70368744177664 := by have := HS.out; omega
        have HE := Lib.hid e1
        have hcp := hr.hcap
        have hsn : sn ≤ 70368744177664 := by omega
        clear h2 e1 hc hr hget
        generalize lens ls k = s at *
        have hw : IntKind.i64.wrap ((s : Int) + (sn : Int)) = ((s + sn : Nat) : Int) := by rw [IntKind.wrap_i64]; omega
        have hpos : decide (((s + sn : Nat) : Int) < 0) = false := by simp; omega
        go_wp2
        go_roundw
        case rel => exact ⟨k + 1, by omega, by go_num, by rw [HE.out, Int.natCast_add], (by repeat (first | (with_reducible refine Below.alloc' ?_ _) | (with_reducible refine Below.drew ?_) | (with_reducible refine below_drewN ?_ _) | ((with_reducible refine Below.setCell ?_ ?_ _); rotate_left; (focus (first | exact Nat.le_refl _ | (simp; done) | (simp; omega)))) | (with_reducible assumption) | (with_reducible exact Below.refl _ _)))⟩
        case measure => simp [intOf]; omega
    · obtain rfl : k = n := by omega
      have HT : Hid (lens ls k = ls.flatten.length) := Lib.hid (by unfold lens; rw [List.take_of_length_le (by rw [HL.out]; omega)])
      obtain ⟨wo, rfl⟩ : ∃ wo : World, wo = wr := ⟨_, rfl⟩
      have HS2 : Hid (lens ls k ≤ 70368744177664) := Lib.hid (by rw [HT.out]; exact HS.out)
      go_wp2_with (go_at_call 44; go_must (refine (grow_any _ HS2.out _).mono ?_; rintro e w1 ⟨v, rfl, hown, hb⟩; have hbel1 := Below.call hbel hb; have hown1 : World.ownsRow w1 w.heap.size 5 1 v (lens ls 0) ((ls.take 0).flatten.map bV) := ⟨hown.1, by rcases hown.2 with h | ⟨g, c, cur, h1, h2, h3⟩; exact .inl h; exact .inr ⟨g, c, cur, h1, Nat.le_trans hbel.size h2, h3⟩⟩; clear hown hb))
      clear hlt
      go_loopw [6, 27] (fun s i wr => ∃ j : Nat, j ≤ k ∧ i = .int .i64 j ∧ wr.ownsRow w.heap.size 5 1 s (lens ls j) ((ls.take j).flatten.map bV) ∧ Below w.heap.size w wr) (fun _ i _ => k - (intOf i).toNat)
      case atStart => exact ⟨0, by omega, rfl, hown1, hbel1⟩
      case round =>
        clear hown1 hbel1 hbel
        obtain ⟨j, hj, rfl, hown, hbel⟩ := hrel
        by_cases hlt : j < k
        · rcases HR.out.cases with ⟨h0, _⟩ | ⟨b, o, _, rfl, hget⟩
          · omega
          · have hkl : j < ls.length := by rw [HL.out]; exact hlt
            obtain ⟨sa, sn, sc, hc, hr⟩ := hget j hkl
            have hc2 : wr.cell? ⟨b, o + j, none⟩ = some (.slice sa sn sc) := by rw [hbel.cell (cell_lt hc)]; exact hc
            have e1 := lens_succ ls j hkl
            rw [hr.hlen] at e1
            have h2 := lens_le ls (j + 1)
            have hsum : lens ls j + sn ≤ 70368744177664 := by have := HS.out; omega
            have HE := Lib.hid e1
            have HF := Lib.hid (flat_succ ls j hkl)
            have HRD := Lib.hid (hr.below hbel)
            clear h2 e1 hc hr hget
            go_wp2_with (at_builtin; refine app_bytes _ rfl (.tmp 31) (.tmp 32) rfl w.heap.size _ (lens ls j) ((ls.take j).flatten) rfl hown sa sn sc ls[j] rfl HRD.out hsum hbel.size w hbel ?_; intro v' w2 hown2 hbel2; have HO2 : Hid (w2.ownsRow w.heap.size 5 1 v' (lens ls (j + 1)) ((ls.take (j + 1)).flatten.map bV)) := Lib.hid (by rw [HE.out, HF.out]; exact hown2); clear hown2)
            go_roundw
            case rel => exact ⟨j + 1, by omega, by go_num, HO2.out, hbel2⟩
            case measure => simp [intOf]; omega
        · obtain rfl : j = k := by omega
          have hO := Lib.hid (show wr.ownsRow w.heap.size 5 1 _ ls.flatten.length (ls.flatten.map bV) from by
            have := hown
            rw [HT.out, List.take_of_length_le (by rw [HL.out]; omega)] at this; exact this)
          clear hown
          go_wp2
          go_ret
          exact ⟨_, rfl, hO.out, hbel⟩
set_option maxRecDepth 100000 in
set_option maxHeartbeats 4000000 in
theorem cat_any {a : Option Addr} {n cap : Nat} {ls : List (List UInt8)} (w : World) (h : RdRows w a n cap ls) (hs : ls.flatten.length ≤ 70368744177664) :
    Calls Try.prog 26 #[.slice a n cap] w fun e w' => ∃ v, e = .returned v ∧ w'.ownsRow w.heap.size 5 1 v ls.flatten.length (ls.flatten.map bV) ∧ Below w.heap.size w w' := by
  go_enter Try.func26, Try.ntmps26
  go_wp2_with (go_at_call 35; go_must (refine (concat_any _ h hs).mono ?_; rintro e w1 ⟨v, rfl, ho, hb⟩; have HO := Lib.hid ho; clear ho))
  go_ret
  exact ⟨_, rfl, HO.out, hb⟩
/-- Slices that read as rows. -/
inductive Rows (w : World) : List Value → List (List UInt8) → Prop
  | nil : Rows w [] []
  | cons {sa : Option Addr} {sn sc : Nat} {l : List UInt8} {cs : List Value} {ls : List (List UInt8)} : RdB w sa sn sc l → Rows w cs ls → Rows w (.slice sa sn sc :: cs) (l :: ls)
theorem Rows.len {w : World} {cs : List Value} {ls : List (List UInt8)} (h : Rows w cs ls) : cs.length = ls.length := by
  induction h with
  | nil => rfl
  | cons _ _ ih => simp [ih]
theorem Rows.get {w : World} {cs : List Value} {ls : List (List UInt8)} (h : Rows w cs ls) : ∀ i (hi : i < ls.length), ∃ sa sn sc, cs[i]? = some (.slice sa sn sc) ∧ RdB w sa sn sc ls[i] := by
  induction h with
  | nil => intro i hi; simp at hi
  | cons h1 _ ih =>
    intro i hi
    cases i with
    | zero => exact ⟨_, _, _, rfl, h1⟩
    | succ i => obtain ⟨sa, sn, sc, h2, h3⟩ := ih i (by simpa using hi); exact ⟨sa, sn, sc, by simpa using h2, by simpa using h3⟩
theorem RdRows.blk {w : World} {g E n : Nat} {cs : List Value} {ls : List (List UInt8)} (h : Blk w g cs E) (hr : Rows w cs ls) (hn : ls.length = n) (hm : n ≤ maxLen) : RdRows w (some ⟨g, 0, none⟩) n n ls :=
  ⟨hn, Nat.le_refl _, hm, fun i hi => by
    obtain ⟨sa, sn, sc, h2, h3⟩ := hr.get i hi
    exact ⟨g, 0, sa, sn, sc, rfl, by rw [Nat.zero_add, h.cell]; exact h2, h3⟩⟩
end Go.Proofs.Ytogjbhkhdccahaa
namespace Go.Proofs.Ytogjbhkhdccahaa
open Go Go.RowKit
theorem zeroB (k : Nat) : Builtin.zeroCells (Value.int .u8 0).cells k = ((List.replicate k (0 : UInt8)).map bV).toArray := by
  apply Array.ext
  · simp [Builtin.zeroCells, Value.cells]
  · intro i h1 h2
    simp [Builtin.zeroCells, Value.cells, bV, Nat.mod_one]
theorem one_bytes (l : List UInt8) : ∀ u ∈ l.map bV, u.oneCell' = true := fun u hu => by
  rw [List.mem_map] at hu
  obtain ⟨c, _, rfl⟩ := hu
  rfl
theorem run_append_zeros (w : World) (ty : TypeId) (base : Nat) (v : Value) (n k : Nat) (l : List UInt8) (hown : w.ownsRow base 5 1 v n (l.map bV)) (hlen : n + k ≤ 70368744177664) (hbase : base ≤ w.heap.size) :
    ∃ v' w', (Builtin.append_ #[28, 3] ty #[v, .int .i64 (k : Int)]).run Try.prog w = .ok v' w' ∧ w'.ownsRow base 5 1 v' (n + k) ((l ++ List.replicate k 0).map bV) ∧ w.grownBy w' v.ownBlock := by
  obtain ⟨i0, hi, hz0, hz1, hz2⟩ := info_parts infoU8
  have hl : l.length = n := by have := hown.1; simpa using this
  have hw : IntKind.i64.wrap (k : Int) = k := by rw [IntKind.wrap_i64]; omega
  have hneg : ¬ ((k : Int) < 0) := by omega
  have hw0 : IntKind.i64.wrap 0 = 0 := by rw [IntKind.wrap_i64]; rfl
  have h48k : ¬ (281474976710656 < (k : Int)) := by omega
  have h48i : ¬ (281474976710656 < (k : Int) * (i0.bytes : Int)) := by rw [hz2]; omega
  have grown : ∀ (old : Nat), old < n + k →
      (w.drew.alloc (.cells ((l.map bV).toArray ++ Builtin.zeroCells (Value.int .u8 0).cells k ++ Builtin.zeroCells (Value.int .u8 0).cells (grownCap w (n + k) old 5 - (n + k))) 5)).ownsRow base 5 1
        (.slice (some ⟨w.heap.size, 0, none⟩) (n + k) (grownCap w (n + k) old 5)) (n + k) ((l ++ List.replicate k 0).map bV) ∧
      w.grownBy (w.drew.alloc (.cells ((l.map bV).toArray ++ Builtin.zeroCells (Value.int .u8 0).cells k ++ Builtin.zeroCells (Value.int .u8 0).cells (grownCap w (n + k) old 5 - (n + k))) 5)) v.ownBlock := by
    intro old ho
    have hge := grownCap_ge w (n + k) old 5
    have hcm : grownCap w (n + k) old 5 ≤ maxLen := grownCap_le_maxLen w (n + k) old 5 (by unfold maxLen; omega)
    refine ⟨⟨by simp [hl], .inr ⟨w.heap.size, _, _, rfl, hbase, heap_alloc_new w.drew _, hge, hcm, ?_, ?_⟩⟩, ⟨rfl, rfl, rfl, by simp, fun j hj _ => heap_alloc_old w.drew _ hj⟩⟩
    · simp only [Array.size_append, List.size_toArray, size_zeroCells, List.length_map, hl]
      show n + k * 1 + _ * 1 = _
      omega
    · rw [zeroB, zeroB]
      simp only [Array.toList_append, List.map_append]
      rw [List.take_left' (by simp [hl])]
  have noroom : ∀ (bs : Option Addr) (c : Nat), v = .slice bs n c → 0 < k → c < n + k → (Builtin.firstCells i0.size n (.slice bs n c)).run Try.prog w.drew = .ok (l.map bV).toArray w.drew →
      ∃ v' w', (Builtin.append_ #[28, 3] ty #[v, .int .i64 (k : Int)]).run Try.prog w = .ok v' w' ∧ w'.ownsRow base 5 1 v' (n + k) ((l ++ List.replicate k 0).map bV) ∧ w.grownBy w' v.ownBlock := by
    intro bs c hv hk hc hf
    have hr := Lib.run_append_grow_zeros w 28 3 ty 5 i0 (.int .u8 0) .i64 .i64 Try.underlying28 Try.underlying3 hi hz0 bs n c (l.map bV) hf k hk (by omega) hc (by omega) (by rw [hz2]; omega) (growslice_fits (by omega) (by rw [hz2]; omega))
    obtain ⟨g1, g2⟩ := grown c hc
    rw [hv] at g2 ⊢
    exact ⟨_, _, hr, g1, g2⟩
  rcases hown.2 with ⟨rfl, rfl⟩ | ⟨g, cap, cur, rfl, hbg, hg, hnc, hcm, hcs, htake⟩
  · obtain rfl : l = [] := List.eq_nil_of_length_eq_zero hl
    by_cases hk : k = 0
    · subst hk
      refine ⟨.slice none 0 0, w, ?_, World.ownsRow_nil _ _ _ _, ⟨rfl, rfl, rfl, Nat.le_refl _, fun _ _ _ => rfl⟩⟩
      simp [Builtin.append_, run_underlying Try.underlying28, run_underlying Try.underlying3, sizeOf, typeInfo, hi, hz2, asInt, asIntOf, hw0]
    · exact noroom none 0 rfl (by omega) (by omega) (run_firstCells_none _ _ _ _ _)
  · by_cases hroom : n + k ≤ cap
    · refine ⟨.slice (some ⟨g, 0, none⟩) (n + k) cap, w.setRow g (cur.toList.take n ++ (List.replicate k (0 : UInt8)).map bV ++ cur.toList.drop (n + k)).toArray, ?_, ⟨by simp [hl], .inr ⟨g, cap, _, rfl, hbg, setRow_heap w g cur _ 5 _ hg, hroom, hcm, ?_, ?_⟩⟩, ⟨rfl, rfl, rfl, by simp, fun j _ hj => setRow_other w g j _ (fun e => hj (by simp [Value.ownBlock, e]))⟩⟩
      · by_cases hk : k = 0
        · subst hk
          have : w.setRow g (cur.toList.take n ++ (List.replicate 0 (0 : UInt8)).map bV ++ cur.toList.drop (n + 0)).toArray = w := by
            simp only [List.replicate_zero, List.map_nil, List.append_nil, Nat.add_zero, List.take_append_drop, Array.toArray_toList]
            exact setRow_self w g cur 5 (0, 0) hg
          rw [this]
          simp [Builtin.append_, run_underlying Try.underlying28, run_underlying Try.underlying3, sizeOf, typeInfo, hi, hz2, asInt, asIntOf, hw0, hnc, storeCells]
        · have hst := run_storeCells_at Try.prog g n 5 ((List.replicate k (0 : UInt8)).map bV) 0 cur w hg (by simp; omega) (one_bytes _)
          simp only [Nat.add_zero, List.length_map, List.length_replicate] at hst
          have hns : ¬ (k = 0) := hk
          simp [Builtin.append_, run_underlying Try.underlying28, run_underlying Try.underlying3, sizeOf, typeInfo, zeroValue, hi, hz0, hz1, hz2, asInt, asIntOf, hw, hneg, hns, h48k, hroom, zeroB]
          rw [Addr.add_lit, Nat.zero_add]
          simp only [List.map_replicate] at hst
          rw [hst]
          simp
      · simp only [List.size_toArray, List.length_append, List.length_take, List.length_drop, Array.length_toList, List.length_map, List.length_replicate]
        omega
      · rw [show (n * 1) = n from Nat.mul_one n] at htake
        rw [htake, ← List.map_append, List.take_left' (by simp [hl])]
    · have holds : ∀ j u, (l.map bV)[j]? = some u → w.cell? ((⟨g, 0, none⟩ : Addr).add j) = some u := hown.cells (g := g) rfl
      exact noroom (some ⟨g, 0, none⟩) cap rfl (by omega) (by omega) (run_firstCells_some _ _ _ _ _ _ _ (by rw [List.length_map, hl, hz1]; omega) holds)
/-- append(s, make([]byte, k)...) at the head of what is left. -/
theorem app_zeros (w : World) {ops : Array Oper} {rest : List Oper} {o : Oper} {a : Act} {Q : Exit → Act → World → Prop} (hgd : o.guard = none) (s x : Operand)
    (ho : o.op = .call { callee := .builtin .append, args := #[s, x], argTypes := #[28, 3] }) (base : Nat) (v : Value) (n : Nat) (l : List UInt8) (hs : a.eval s = v) (hown : w.ownsRow base 5 1 v n (l.map bV))
    (k : Nat) (hx : a.eval x = .int .i64 (k : Int)) (hlen : n + k ≤ 70368744177664) (hbase : base ≤ w.heap.size) (w0 : World) (hb0 : Below base w0 w)
    (h : ∀ v' w', w'.ownsRow base 5 1 v' (n + k) ((l ++ List.replicate k 0).map bV) → Below base w0 w' → wpList Try.prog ops Q rest (a.put o.dst v') w') : wpList Try.prog ops Q (o :: rest) a w := by
  obtain ⟨v', w', hr, h1, h2⟩ := run_append_zeros w o.type base v n k l hown hlen hbase
  exact Lib.wpList_append_run w hgd s x _ _ ho v _ hs hx v' w' hr (h v' w' h1 (hb0.grown h2 hbase (fun k hk => (hown.lt k hk).1)))
set_option maxRecDepth 100000 in
set_option maxHeartbeats 1000000 in
/-- Clone of any bytes. -/
theorem clone_own {a : Option Addr} {n cap : Nat} {l : List UInt8} (w : World) (h : RdB w a n cap l) (hm : n ≤ 70368744177664) :
    Calls Try.prog 28 #[.slice a n cap] w fun e w' => ∃ v, e = .returned v ∧ w'.ownsRow w.heap.size 5 1 v n (l.map bV) ∧ Below w.heap.size w w' := by
  have hq := run_eql_nilB a n cap
  cases a with
  | none =>
    obtain rfl := h.hnil rfl
    obtain rfl : n = 0 := by have := h.hcap; omega
    obtain rfl : l = [] := List.eq_nil_of_length_eq_zero h.hlen
    rw [show (none : Option Addr).isNone = true from rfl] at hq
    clear h hm
    go_enter Try.func28, Try.ntmps28
    go_wp2
    go_ret
    exact ⟨_, rfl, World.ownsRow_nil _ _ _ _, Below.refl _ _⟩
  | some ad =>
    rw [show (some ad).isNone = false from rfl] at hq
    have HM := Lib.hid hm
    clear hm
    go_enter Try.func28, Try.ntmps28
    go_wp2_with (at_builtin; go_must (refine app_bytes _ rfl (.tmp 5) (.tmp 6) rfl w.heap.size _ 0 [] rfl (own_none w 5 w.heap.size (Nat.le_refl _)) _ _ _ l rfl (by exact h.below (by repeat (first | (with_reducible refine Below.alloc' ?_ _) | (with_reducible refine Below.drew ?_) | (with_reducible refine below_drewN ?_ _) | ((with_reducible refine Below.setCell ?_ ?_ _); rotate_left; (focus (first | exact Nat.le_refl _ | (simp; done) | (simp; omega)))) | (with_reducible assumption) | (with_reducible exact Below.refl _ _)))) (by have := HM.out; omega) (by simp) w (by exact (by repeat (first | (with_reducible refine Below.alloc' ?_ _) | (with_reducible refine Below.drew ?_) | (with_reducible refine below_drewN ?_ _) | ((with_reducible refine Below.setCell ?_ ?_ _); rotate_left; (focus (first | exact Nat.le_refl _ | (simp; done) | (simp; omega)))) | (with_reducible assumption) | (with_reducible exact Below.refl _ _)))) ?_; intro v1 w1 hown hb1; rw [Nat.zero_add, List.nil_append] at hown; have HO := Lib.hid hown; clear hown))
    go_wp2
    go_ret
    exact ⟨v1, rfl, HO.out, hb1⟩
end Go.Proofs.Ytogjbhkhdccahaa
namespace Go.Proofs.Ytogjbhkhdccahaa
open Go Go.RowKit Go.Maps
/-- The store's variable at block s, on the device at block g; E: the blocks that are its own. -/
structure Sv (w : World) (s g : Nat) (st : Bs) (E : Nat → Prop) : Prop where
  in2 : st.inn < 2
  cnt : st.cnt < 1000000
  big : st.data.length ≤ 1000000
  own : E s
  lt : ∀ x, E x → x < w.heap.size
  ex : ∃ a c, Blk w s [.pointer (some ⟨g, 0, none⟩), .int .i64 (st.inn : Nat), .int .i64 (st.cnt : Nat), .slice a st.data.length c, .bool st.off] 50 ∧ RdB w a st.data.length c st.data ∧ ∀ p, a = some p → E p.block ∧ p.block ≠ s
theorem RdB.frame {F : Nat → Prop} {w w' : World} {a : Option Addr} {n c : Nat} {l : List UInt8} (h : RdB w a n c l) (hf : Fr F w w') (hF : ∀ p, a = some p → ¬ F p.block) : RdB w' a n c l :=
  ⟨h.hlen, h.hcap, h.hmax, fun i hi => by
    obtain ⟨b, o, e, hc⟩ := h.get i hi
    exact ⟨b, o, e, (hf.cell (p := ⟨b, o + i, none⟩) (cell_lt hc) (hF ⟨b, o, none⟩ e)).trans hc⟩, h.hnil⟩
theorem Sv.frame {w w' : World} {s g : Nat} {st : Bs} {E F : Nat → Prop} (h : Sv w s g st E) (hf : Fr F w w') (hF : ∀ x, E x → ¬ F x) : Sv w' s g st E := by
  obtain ⟨a, c, hb, hr, hp⟩ := h.ex
  exact ⟨h.in2, h.cnt, h.big, h.own, fun x hx => Nat.lt_of_lt_of_le (h.lt x hx) hf.size, a, c, hf.blk hb (hF s h.own), hr.frame hf (fun p e => hF _ (hp p e).1), hp⟩
theorem Sv.later {w w' : World} {s g : Nat} {st : Bs} {E : Nat → Prop} (h : Sv w s g st E) (hb : Below w.heap.size w w') : Sv w' s g st E := h.frame (F := fun _ => False) (.of_below hb) (fun _ _ hf => hf)
structure SvC (w : World) (s g : Nat) (st : Bs) : Prop where
  fr : ∀ i, w.frozen? ⟨s, i, none⟩ = false
  c0 : w.cell? ⟨s, 0, none⟩ = some (.pointer (some ⟨g, 0, none⟩))
  c1 : w.cell? ⟨s, 1, none⟩ = some (.int .i64 (st.inn : Nat))
  c2 : w.cell? ⟨s, 2, none⟩ = some (.int .i64 (st.cnt : Nat))
  c4 : w.cell? ⟨s, 4, none⟩ = some (.bool st.off)
  c3 : ∃ a c, w.cell? ⟨s, 3, none⟩ = some (.slice a st.data.length c) ∧ RdB w a st.data.length c st.data
theorem Sv.cells {w : World} {s g : Nat} {st : Bs} {E : Nat → Prop} (h : Sv w s g st E) : SvC w s g st := by
  obtain ⟨a, c, hb, hr, _⟩ := h.ex
  exact ⟨hb.frozen, hb.cell 0, hb.cell 1, hb.cell 2, hb.cell 4, a, c, hb.cell 3, hr⟩
set_option maxRecDepth 100000 in
set_option maxHeartbeats 400000 in
theorem stRoom_any {n : Nat} (w : World) (h : n ≤ 100000) : Calls Try.prog 18 #[.int .i64 (n : Int)] w fun e w' => e = .returned (.int .i64 ((if n < 64 then 0 else 20 * n : Nat) : Int)) ∧ w = w' := by
  by_cases hn : n < 64
  · have h1 : (n : Int) < 64 := by omega
    rw [if_pos hn]
    clear hn h
    go_enter Try.func18, Try.ntmps18
    go_wp2
    go_ret
    exact ⟨rfl, rfl⟩
  · have h1 : ¬ (n : Int) < 64 := by omega
    have hw : IntKind.i64.wrap (20 * (n : Int)) = ((20 * n : Nat) : Int) := by rw [IntKind.wrap_i64]; omega
    rw [if_neg hn]
    clear hn h
    go_enter Try.func18, Try.ntmps18
    go_wp2
    go_ret
    exact ⟨rfl, rfl⟩
set_option maxRecDepth 100000 in
set_option maxHeartbeats 400000 in
theorem stAt_any {w : World} {g i k : Nat} {d : Bd} {F : Nat → Prop} (h : Dv w g d F) (hi : i < 2) (hk : k ≤ 100000) (h0 : 0 < d.good.length) (hN : d.good.length ≤ 100000) :
    Calls Try.prog 25 #[.pointer (some ⟨g, 0, none⟩), .int .i64 (i : Int), .int .i64 (k : Int)] w fun e w' => e = .returned (.int .i64 (d.place i k : Nat)) ∧ w = w' := by
  have HD := Lib.hid h
  obtain ⟨hf, hhf⟩ : ∃ hf : Nat, hf = d.half := ⟨_, rfl⟩
  have hq : ((d.good.length : Int) - 1).tdiv 2 = (hf : Int) := by rw [hhf]; unfold Bd.half; rw [Int.tdiv_eq_ediv_of_nonneg (by omega)]; omega
  have hfb : hf ≤ 100000 := by rw [hhf]; unfold Bd.half; omega
  have hm : (i : Int) * (hf : Int) = ((i * hf : Nat) : Int) := by simp
  have hmb : i * hf ≤ 100000 := by
    have : i = 0 ∨ i = 1 := by omega
    rcases this with rfl | rfl <;> omega
  have HE : Hid (d.place i k = 1 + i * hf + k) := Lib.hid (by unfold Bd.place; rw [hhf])
  obtain ⟨m, hmm⟩ : ∃ m : Nat, m = i * hf := ⟨_, rfl⟩
  rw [← hmm] at hm hmb HE
  have hl0 : (0 : Int) < (d.good.length : Int) := by omega
  have hlN : (d.good.length : Int) ≤ 100000 := by omega
  have hw1 : IntKind.i64.wrap ((d.good.length : Int) - 1) = (d.good.length : Int) - 1 := by rw [IntKind.wrap_i64]; omega
  have hw2 : IntKind.i64.wrap (1 + (m : Int)) = ((1 + m : Nat) : Int) := by rw [IntKind.wrap_i64]; omega
  have hw3 : IntKind.i64.wrap (((1 + m : Nat) : Int) + (k : Int)) = ((1 + m + k : Nat) : Int) := by rw [IntKind.wrap_i64]; omega
  have hw4 : IntKind.i64.wrap (m : Int) = (m : Int) := by rw [IntKind.wrap_i64]; omega
  have hw5 : IntKind.i64.wrap (hf : Int) = (hf : Int) := by rw [IntKind.wrap_i64]; omega
  rw [HE.out]
  clear h hhf hmm HE
  go_enter Try.func25, Try.ntmps25
  go_wp2_with (go_at_call 23; (with_reducible refine (bLen_any HD.out).mono ?_); rintro e wz ⟨rfl, rfl⟩)
  go_ret
  exact ⟨rfl, rfl⟩
set_option maxRecDepth 100000 in
set_option maxHeartbeats 400000 in
theorem stCount_any {w : World} {s g : Nat} {st : Bs} {E : Nat → Prop} (h : Sv w s g st E) : Calls Try.prog 21 #[.pointer (some ⟨s, 0, none⟩)] w fun e w' => e = .returned (.int .i64 (st.cnt : Nat)) ∧ w = w' := by
  have c2 := h.cells.c2
  clear h
  go_enter Try.func21, Try.ntmps21
  go_wp2
  go_ret
  exact ⟨rfl, rfl⟩
set_option maxRecDepth 100000 in
set_option maxHeartbeats 400000 in
theorem stCount_nil (w : World) : Calls Try.prog 21 #[.pointer none] w fun e w' => e = .returned (.int .i64 0) ∧ w = w' := by
  go_enter Try.func21, Try.ntmps21
  go_wp2
  go_ret
  exact ⟨rfl, rfl⟩
set_option maxRecDepth 100000 in
set_option maxHeartbeats 400000 in
theorem stDead_any {w : World} {s g : Nat} {st : Bs} {E : Nat → Prop} (h : Sv w s g st E) : Calls Try.prog 19 #[.pointer (some ⟨s, 0, none⟩)] w fun e w' => e = .returned (.bool st.off) ∧ w = w' := by
  have c0 := h.cells.c0
  have c4 := h.cells.c4
  clear h
  go_enter Try.func19, Try.ntmps19
  go_wp2
  go_ret
  exact ⟨rfl, rfl⟩
set_option maxRecDepth 100000 in
set_option maxHeartbeats 400000 in
theorem stDead_nil (w : World) : Calls Try.prog 19 #[.pointer none] w fun e w' => e = .returned (.bool true) ∧ w = w' := by
  go_enter Try.func19, Try.ntmps19
  go_wp2
  go_ret
  exact ⟨rfl, rfl⟩
set_option maxRecDepth 100000 in
set_option maxHeartbeats 400000 in
theorem stLoad_none {w : World} {s g : Nat} {st : Bs} {E : Nat → Prop} (h : Sv w s g st E) (h0 : st.cnt = 0) : Calls Try.prog 16 #[.pointer (some ⟨s, 0, none⟩)] w fun e w' => e = .returned (.tuple #[.slice none 0 0, .int .i64 7]) ∧ w = w' := by
  have c2 := h.cells.c2
  rw [h0] at c2
  clear h
  go_enter Try.func16, Try.ntmps16
  go_wp2
  go_ret2
  exact ⟨rfl, rfl⟩
set_option maxRecDepth 100000 in
set_option maxHeartbeats 400000 in
theorem stLoad_nil (w : World) : Calls Try.prog 16 #[.pointer none] w fun e w' => e = .returned (.tuple #[.slice none 0 0, .int .i64 7]) ∧ w = w' := by
  go_enter Try.func16, Try.ntmps16
  go_wp2
  go_ret2
  exact ⟨rfl, rfl⟩
set_option maxRecDepth 100000 in
set_option maxHeartbeats 400000 in
theorem stLoad_any {w : World} {s g : Nat} {st : Bs} {E : Nat → Prop} (h : Sv w s g st E) (h0 : st.cnt ≠ 0) : Calls Try.prog 16 #[.pointer (some ⟨s, 0, none⟩)] w fun e w' => ∃ v, e = .returned (.tuple #[v, .int .i64 0]) ∧ w'.ownsRow w.heap.size 5 1 v st.data.length (st.data.map bV) ∧ Below w.heap.size w w' := by
  have c2 := h.cells.c2
  obtain ⟨a, c, c3, hr⟩ := h.cells.c3
  have HR := Lib.hid hr
  have HB := Lib.hid h.big
  have hz : (((st.cnt : Nat) : Int) == 0) = false := by rw [beq_eq_false_iff_ne]; omega
  clear h hr
  go_enter Try.func16, Try.ntmps16
  go_wp2_with (go_at_call 28; go_must (refine (clone_own _ HR.out (by have := HB.out; omega)).mono ?_; rintro e w1 ⟨v0, rfl, ho, hb⟩; have HO := Lib.hid ho; have hbel := hb; clear ho hb))
  go_ret2
  exact ⟨_, rfl, HO.out, hbel⟩
end Go.Proofs.Ytogjbhkhdccahaa
namespace Go.Proofs.Ytogjbhkhdccahaa
open Go Go.RowKit Go.Maps
theorem own_rdw {w : World} {base : Nat} {v : Value} {l : List UInt8} (h : w.ownsRow base 5 1 v l.length (l.map bV)) : ∃ a c, v = .slice a l.length c ∧ RdB w a l.length c l ∧ ∀ p, a = some p → base ≤ p.block ∧ p.block < w.heap.size := by
  rcases h.2 with ⟨rfl, hn⟩ | ⟨g, cap, cur, rfl, hbg, hg, h1, h2, h3, h4⟩
  · have : l = [] := List.eq_nil_of_length_eq_zero hn
    subst this
    exact ⟨none, 0, rfl, RdB.nil _, fun p e => by cases e⟩
  · refine ⟨some ⟨g, 0, none⟩, cap, rfl, ⟨rfl, h1, h2, fun i hi => ⟨g, 0, rfl, ?_⟩, fun e => by cases e⟩, fun p e => by cases e; exact ⟨hbg, (Array.getElem?_eq_some_iff.1 hg).1⟩⟩
    rw [Nat.mul_one] at h4
    have h5 : (cur.toList.take l.length)[i]? = some (bV l[i]) := by rw [h4]; simp [hi]
    rw [List.getElem?_take_of_lt hi, Array.getElem?_toList] at h5
    simp [World.cell?, hg, h5]
theorem rd_takeS {w : World} {a : Option Addr} {n cap r : Nat} {l : List UInt8} (h : RdB w a n cap l) (hr : r ≤ n) : RdB w a r cap (l.take r) := by
  refine ⟨by rw [List.length_take, h.hlen, Nat.min_eq_left hr], Nat.le_trans hr h.hcap, h.hmax, fun i hi => ?_, h.hnil⟩
  rw [List.length_take] at hi
  obtain ⟨b, o, e, hc⟩ := h.get i (by omega)
  exact ⟨b, o, e, by rw [List.getElem_take]; exact hc⟩
theorem rd_dropS {w : World} {b q n cap k : Nat} {l : List UInt8} (h : RdB w (some ⟨b, q, none⟩) n cap l) (hn : k ≤ n) : RdB w (some ⟨b, q + k, none⟩) (n - k) (cap - k) (l.drop k) := by
  refine ⟨by rw [List.length_drop, h.hlen], by have := h.hcap; omega, by have := h.hmax; omega, fun i hi => ?_, fun e => by cases e⟩
  rw [List.length_drop] at hi
  obtain ⟨b', q', e, hc⟩ := h.get (k + i) (by omega)
  cases e
  exact ⟨b, q + k, rfl, by rw [List.getElem_drop, Nat.add_assoc]; exact hc⟩
theorem rd_dropB {w : World} {b q n cap k : Nat} {l : List UInt8} (h : RdB w (some ⟨b, q, none⟩) n cap l) (hn : k ≤ n) : RdB w (if cap = k then some ⟨b, q, none⟩ else some ⟨b, q + k, none⟩) (n - k) (cap - k) (l.drop k) := by
  split
  · have hc := h.hcap
    refine ⟨by rw [List.length_drop, h.hlen], by omega, by have := h.hmax; omega, fun i hi => ?_, fun e => by cases e⟩
    rw [List.length_drop, h.hlen] at hi; omega
  · exact rd_dropS h hn
/-- In the midst of writing: i rows are written. -/
structure WrI (w0 w1 : World) (g k N i : Nat) (d : Bd) (F : Nat → Prop) (P : List UInt8) (bv : Value) (wr : World) : Prop where
  b : ∃ a c n, bv = .slice a n c ∧ n = 64 * (N - i) ∧ RdB wr a n c (P.drop (64 * i)) ∧ ∀ p, a = some p → w0.heap.size ≤ p.block ∧ p.block < w1.heap.size
  d : ∃ D F', Dv wr g D F' ∧ (∀ x, F' x → F x ∨ w1.heap.size ≤ x) ∧ D.good.length = d.good.length ∧ D.ops ≤ d.ops + i ∧ D.left ≤ 9223372036854775807 ∧ Bd.wr N d k P = Bd.wr (N - i) D (k + i) (P.drop (64 * i))
  f : Fr F w1 wr
set_option maxRecDepth 100000 in
set_option maxHeartbeats 4000000 in
theorem stWrite_any {w : World} {s g n cap k : Nat} {a : Option Addr} {l : List UInt8} {d : Bd} {st : Bs} {E F : Nat → Prop} (h : Sv w s g st E) (hd : Dv w g d F) (hEF : ∀ x, E x → ¬ F x) (hr : RdB w a n cap l) (hn : n ≤ 100000)
    (hk : k + rowsN l ≤ d.good.length) (hN : d.good.length ≤ 100000) (h0 : 0 < d.good.length) (ho : d.ops + rowsN l < 1000000) (hl : d.left ≤ 9223372036854775807) :
    Calls Try.prog 24 #[.pointer (some ⟨s, 0, none⟩), .int .i64 (k : Int), .slice a n cap] w fun e w' => e = .returned (.int .i64 (d.bw k l).2) ∧ ∃ F', Dv w' g (d.bw k l).1 F' ∧ Fr F w w' ∧ ∀ x, F' x → F x ∨ w.heap.size ≤ x := by
  have HR := Lib.hid hr; have HL := Lib.hid hr.hlen
  obtain ⟨K, hK⟩ : ∃ K : Nat, K = (64 - n % 64) % 64 := ⟨_, rfl⟩
  have hK2 : K < 64 := by omega
  have HP : Hid (l ++ List.replicate K 0 = pad64 l) := Lib.hid (by unfold pad64; rw [HL.out, hK])
  have HPL : Hid ((pad64 l).length = n + K) := Lib.hid (by rw [← HP.out, List.length_append, HL.out, List.length_replicate])
  obtain ⟨N, hNN⟩ : ∃ N, N = rowsN l := ⟨_, rfl⟩
  have HN64 : Hid (n + K = 64 * N) := Lib.hid (by rw [← HPL.out, pad64_len, hNN])
  have HBW : Hid (d.bw k l = Bd.wr N d k (pad64 l)) := Lib.hid (by unfold Bd.bw; rw [hNN])
  have hn8 : (n : Int) ≤ 100000 := by omega
  have hn0 : (0 : Int) ≤ (n : Int) := by omega
  have h14 : (64 - (n : Int) % 64) % 64 = (K : Int) := by omega
  rw [HBW.out]
  rw [← hNN] at hk ho
  have HDV := Lib.hid hd; have HSV := Lib.hid h; have HEF := Lib.hid hEF
  have HK := Lib.hid hk; have HNB := Lib.hid hN; have HO := Lib.hid ho; have HLE := Lib.hid hl; have H0 := Lib.hid h0
  have HKK := Lib.hid hK2; have HNN := Lib.hid hn
  have hk8 : (k : Int) ≤ 100000 := by omega
  clear h hd hEF hr hn hk hN ho hl hK hK2 hNN HBW h0
  go_enter Try.func24, Try.ntmps24
  go_upto_region 2 with (first
    | (go_at_call 28; go_must (refine (clone_own _ HR.out (by have := HNN.out; omega)).mono ?_; rintro e wq ⟨v0, rfl, hoo, hb⟩; have HOO := Lib.hid hoo; have hbel := hb; clear hoo hb))
    | (at_builtin; go_must (refine app_zeros _ rfl (.tmp 9) (.tmp 14) rfl w.heap.size _ n l rfl HOO.out K (congrArg (Value.int IntKind.i64) h14) (by have := HKK.out; have := HNN.out; omega) hbel.size w hbel ?_; intro v2 w1 hoo hb3; have HO2 := Lib.hid hoo; have HB3 := Lib.hid hb3; clear hoo hb3)))
  clear h14 hbel HOO
  have HI0 : Hid (WrI w w1 g k N 0 d F (pad64 l) v2 w1) := Lib.hid (by
    have ho := HO2.out
    rw [HP.out, ← HPL.out] at ho
    obtain ⟨a2, c2, e2, hr2, hp2⟩ := own_rdw ho
    rw [HPL.out, HN64.out] at e2 hr2
    exact ⟨⟨a2, c2, _, e2, by omega, by simpa using hr2, hp2⟩, ⟨d, F, HDV.out.later HB3.out, fun x hx => .inl hx, rfl, Nat.le_refl _, HLE.out, rfl⟩, Fr.refl _ _⟩)
  clear HO2
  have HTO : Hid (∀ (W : World), Fr F w1 W → Fr F w W) := Lib.hid (fun W hf => (Fr.of_below (F := F) HB3.out).trans hf (fun x hx => .inl hx))
  have HTI : Hid (∀ (x : Nat), ((F x ∨ w1.heap.size ≤ x) ∨ w1.heap.size ≤ x) → F x ∨ w.heap.size ≤ x) := Lib.hid (fun x h => by
    have := HB3.out.size
    rcases h with (h | h) | h
    · exact .inl h
    · exact .inr (by omega)
    · exact .inr (by omega))
  go_loopw [1, 2] (fun kv bv wr => ∃ i : Nat, i ≤ N ∧ kv = .int .i64 ((k + i : Nat) : Int) ∧ WrI w w1 g k N i d F (pad64 l) bv wr) (fun kv _ _ => k + N - (intOf kv).toNat)
  case atStart => exact ⟨0, Nat.zero_le _, rfl, HI0.out⟩
  case round =>
    obtain ⟨i, hi, hkv, hI⟩ := hrel
    obtain ⟨kk, hkk⟩ : ∃ kk, kk = k + i := ⟨_, rfl⟩
    rw [← hkk] at hkv
    subst hkv
    have HKK2 := Lib.hid hkk
    obtain ⟨⟨a2, c2, nn, rfl, hnn, hr2, hp2⟩, ⟨D, F', hD, hF', hDl, hDo, hDle, hDeq⟩, hf⟩ := hI
    have HR2 := Lib.hid hr2; have HP2 := Lib.hid hp2; have HD := Lib.hid hD; have HF' := Lib.hid hF'; have HDL := Lib.hid hDl; have HDO := Lib.hid hDo; have HDLE := Lib.hid hDle; have HDEQ := Lib.hid hDeq; have HF := Lib.hid hf
    have HSW : Hid (Sv wr s g st E) := Lib.hid ((HSV.out.later HB3.out).frame hf HEF.out)
    have HC0 := Lib.hid HSW.out.cells.c0
    have HSF' : Hid (¬ F' s) := Lib.hid (fun h => by rcases HF'.out s h with h | h; exact HEF.out s HSV.out.own h; exact absurd (Nat.lt_of_lt_of_le (HSV.out.lt s HSV.out.own) HB3.out.size) (Nat.not_lt.2 h))
    obtain ⟨wA, rfl⟩ : ∃ wA : World, wA = wr := ⟨_, rfl⟩
    by_cases hlt : i < N
    · obtain ⟨m, hm⟩ : ∃ m, N - i = m + 1 := ⟨N - i - 1, by omega⟩
      have HM := Lib.hid hm
      have hnm : nn = 64 * (m + 1) := by omega
      have HNE := Lib.hid hnm
      obtain ⟨b2, q2, rfl⟩ : ∃ b q, a2 = some ⟨b, q, none⟩ := by
        obtain ⟨b, q, e, _⟩ := hr2.get 0 (by rw [hr2.hlen]; omega)
        exact ⟨b, q, e⟩
      have hm0 : (0 : Int) < (nn : Int) := by omega
      have hm64 : (64 : Int) ≤ (nn : Int) := by omega
      have HRT := Lib.hid (rd_takeS HR2.out (r := 64) (by omega))
      have HRD := Lib.hid (rd_dropS HR2.out (k := 64) (by omega))
      have HCAP := Lib.hid hr2.hcap
      have hc64 : ¬ (c2 : Int) < 64 := by have := hr2.hcap; omega
      have hcap : (nn : Int) ≤ (c2 : Int) := by have := hr2.hcap; omega
      have HI := Lib.hid hlt
      have HIN := Lib.hid hi
      have hki : (kk : Int) ≤ 100000 := by have := HKK2.out; have := HK.out; have := HNB.out; omega
      have hki0 : (0 : Int) ≤ (kk : Int) := by omega
      have hiw : IntKind.i64.wrap ((kk : Int) + 1) = (kk : Int) + 1 := by rw [IntKind.wrap_i64]; omega
      have hd0 : decide (0 < nn) = true := decide_eq_true (by omega)
      have HBF : Hid (¬ F' b2) := Lib.hid (fun h => by
        have h2 := HP2.out _ rfl
        rcases HF'.out _ h with h | h
        · exact absurd (HDV.out.lt _ h) (Nat.not_lt.2 h2.1)
        · exact absurd h2.2 (Nat.not_lt.2 h))
      obtain ⟨R, hR⟩ : ∃ R, R = ((pad64 l).drop (64 * i)).take 64 := ⟨_, rfl⟩
      rw [← hR] at HRT
      have HRR := Lib.hid hR
      clear hr2 hp2 hD hF' hDl hDo hDle hDeq hf hlt hi hm hR hnn hnm hkk HI0
      go_upto_region 4 with fail
      refine rgQ 9 [(7, 8), (13, 0), (0, 1), (0, 2), (0, 3), (0, 4), (0, 5), (0, 6), (0, 7)] [.pointer (some ⟨s, 0, none⟩), .pointer (some ⟨s, 0, none⟩), .pointer (some ⟨s, 0, none⟩), .pointer (some ⟨g, 0, none⟩), .int .i64 (kk : Int), .slice (some ⟨b2, q2, none⟩) nn c2, .slice (some ⟨b2, q2, none⟩) 64 c2, .int .i64 (D.writeC (kk : Int) R), .int .i64 (D.writeC (kk : Int) R)] [7] (fun j W => if j = 0 then Below wA.heap.size wA W else ∃ F2, Dv W g (D.write (kk : Int) R) F2 ∧ Fr F' wA W ∧ ∀ x, F2 x → F' x ∨ wA.heap.size ≤ x) ?_ (by intro k hk; simp at hk; omega) ?_ (fun u6 W6 hP hv => ?_)
      · simp only [if_pos]; exact (Below.refl _ _).drew
      · refine ⟨?_, ?_, ?_, ?_, ?_, ?_, ?_, ?_, ?_, trivial⟩
        · refine kkP (by decide) fun u W j hP h1 h2 hu => ?_
          clear hP h1 h2
          go_simp
        · refine kkP (by decide) fun u W j hP h1 h2 hu => ?_
          have e0 : u 0 = .pointer (some ⟨s, 0, none⟩) := hu 0 (by kernel_rfl)
          clear hP h1 h2
          go_simp
        · refine kkP (by decide) fun u W j hP h1 h2 hu => ?_
          have e1 : u 1 = .pointer (some ⟨s, 0, none⟩) := hu 1 (by kernel_rfl)
          clear hP h1 h2
          go_simp
        · refine kkP (by decide) fun u W j hP h1 h2 hu => ?_
          have e2 : u 2 = .pointer (some ⟨s, 0, none⟩) := hu 2 (by kernel_rfl)
          have hj : j = 0 := by have := h2 0 7 rfl (.one (by kernel_rfl)); omega
          subst hj
          have hP : Below wA.heap.size wA W := by simpa using hP
          have hcx := (hP.cell (p := ⟨s, 0, none⟩) (cell_lt HC0.out)).trans HC0.out
          clear hP h1 h2
          go_simp
        · refine kkP (by decide) fun u W j hP h1 h2 hu => ?_
          clear hP h1 h2
          go_simp
        · refine kkP (by decide) fun u W j hP h1 h2 hu => ?_
          clear hP h1 h2
          go_simp
        · refine kkP (by decide) fun u W j hP h1 h2 hu => ?_
          have e5 : u 5 = .slice (some ⟨b2, q2, none⟩) nn c2 := hu 5 (by kernel_rfl)
          clear hP h1 h2
          go_simp
          try (intro h9; omega)
        · refine kkC (t := 0) rfl (by decide) (fun s k hs => absurd hs (Nat.not_lt_zero s)) fun u W hP hu K hK => ?_
          have e3 : u 3 = .pointer (some ⟨g, 0, none⟩) := hu 3 (by kernel_rfl)
          have e4 : u 4 = .int .i64 (kk : Int) := hu 4 (by kernel_rfl)
          have e6 : u 6 = .slice (some ⟨b2, q2, none⟩) 64 c2 := hu 6 (by kernel_rfl)
          have hP : Below wA.heap.size wA W := by simpa using hP
          go_simp
          go_at_call 34
          (with_reducible refine (bWrite_any (HD.out.later hP) (by rw [HDL.out]; exact HNB.out) (by have := HDO.out; have := HO.out; have := HI.out; omega) HDLE.out (HRT.out.below hP) (fun p hp h => by cases hp; exact absurd h HBF.out)).mono ?_); rintro e w6 ⟨rfl, F2, hD2, hf2, hF2⟩
          have hk9 := hK.out w6 (by simp only [Nat.reduceAdd, if_neg (show ¬ (1 : Nat) = 0 by omega), if_true]; exact ⟨F2, hD2, (Fr.of_below hP).trans hf2 (fun y hy => .inl hy), fun y hy => (hF2 y hy).imp id (fun h => Nat.le_trans hP.size h)⟩)
          first | exact hk9 | (simp only [List.getD_cons_zero, List.getD_cons_succ, e3, e4, e6, hd0] at hk9; exact hk9)
        · refine kkP (by decide) fun u W j hP h1 h2 hu => ?_
          have e7 : u 7 = .int .i64 (D.writeC (kk : Int) R) := hu 7 (by kernel_rfl)
          clear hP h1 h2
          go_simp
      have HPQ : Hid (∃ F2, Dv W6 g (D.write (kk : Int) R) F2 ∧ Fr F' wA W6 ∧ ∀ x, F2 x → F' x ∨ wA.heap.size ≤ x) := Lib.hid (by simpa using hP)
      obtain ⟨cc, hcc⟩ : ∃ cc, cc = D.writeC (kk : Int) R := ⟨_, rfl⟩
      have h8 : u6 8 = .int .i64 cc := by rw [hcc]; exact hv 8 (by omega)
      have HCC := Lib.hid hcc
      have HWR : Hid (Bd.wr N d k (pad64 l) = if cc = 0 then Bd.wr m (D.write (kk : Int) R) (k + (i + 1)) ((pad64 l).drop (64 * (i + 1))) else (D.write (kk : Int) R, cc)) := Lib.hid (by
        rw [HDEQ.out, HM.out, hcc, HRR.out, HKK2.out]
        have e : (pad64 l).drop (64 * (i + 1)) = ((pad64 l).drop (64 * i)).drop 64 := by rw [List.drop_drop]; congr 1
        rw [e]; rfl)
      have HFW0 : Hid (Fr F' wA W6) := Lib.hid (by
        obtain ⟨F2, _, hf2, _⟩ := HPQ.out
        exact hf2)
      have HNEAR : Hid (D.Near (D.write (kk : Int) R) 1) := Lib.hid (Bd.write_near HRT.out.hlen (by have := HK.out; have := HKK2.out; have := HI.out; rw [HDL.out]; omega))
      have HFW : Hid (Fr F w1 W6) := Lib.hid (by
        obtain ⟨F2, _, hf2, _⟩ := HPQ.out
        exact HF.out.trans hf2 (fun x hx => HF'.out x hx))
      clear hP hv hcc
      by_cases hc0 : cc = 0
      · subst hc0
        go_wp2
        go_roundw
        case rel =>
          obtain ⟨F2, hD2, hf2, hF2⟩ := HPQ.out
          have hni : 64 ≤ nn := by have := HNE.out; omega
          refine ⟨i + 1, HI.out, by rw [HKK2.out]; congr 1, ⟨⟨_, _, _, rfl, by have := HNE.out; have := HM.out; omega, ?_, ?_⟩, ⟨D.write (kk : Int) R, F2, hD2, fun x hx => ?_, ?_, ?_, ?_, ?_⟩, HFW.out⟩⟩
          · have hd := rd_dropB ((HR2.out.frame (HFW0.out) (fun p hp h => by cases hp; exact absurd h HBF.out)).below (Below.refl _ _)) hni
            rw [List.drop_drop] at hd
            exact hd
          · intro p hp
            have h := HP2.out ⟨b2, q2, none⟩ rfl
            split at hp <;> (cases hp; exact h)
          · rcases hF2 x hx with h | h
            · exact HF'.out x h
            · exact .inr (Nat.le_trans HF.out.size h)
          · exact (HNEAR.out.len).trans HDL.out
          · have := HNEAR.out.ops; have := HDO.out; omega
          · exact HNEAR.out.left HDLE.out
          · rw [HWR.out, if_pos rfl]
            have e : N - (i + 1) = m := by have := HM.out; omega
            rw [e]
        case measure => simp [intOf]; have := HI.out; have := HKK2.out; omega
      · have hcb : (cc == 0) = false := by rw [beq_eq_false_iff_ne]; exact hc0
        go_wp2
        go_ret
        rw [HWR.out, if_neg hc0]
        obtain ⟨F2, hD2, hf2, hF2⟩ := HPQ.out
        exact ⟨rfl, F2, hD2, HTO.out _ HFW.out, fun x hx => HTI.out x ((hF2 x hx).imp (fun h => HF'.out x h) (fun h => Nat.le_trans HF.out.size h))⟩
    · obtain rfl : i = N := by omega
      have hz : nn = 0 := by omega
      subst hz
      have hcs := HC0.out
      clear hnn hr2 hp2 hD hF' hDl hDo hDle hDeq hf hlt hi hkk HI0
      go_wp2_with (go_at_call 30; (with_reducible refine (bFlush_any HD.out (by rw [HDL.out]; exact H0.out) (by rw [HDL.out]; exact HNB.out) (by have := HDO.out; have := HO.out; omega) HDLE.out).mono ?_); rintro e w6 ⟨rfl, F2, hD2, hf2, hF2⟩; have HD2 := Lib.hid hD2; have HF2 := Lib.hid hf2; have HFF := Lib.hid hF2; clear hD2 hf2 hF2)
      go_ret
      rw [HDEQ.out, Nat.sub_self]
      exact ⟨rfl, F2, HD2.out, HTO.out _ (HF.out.trans HF2.out (fun x hx => HF'.out x hx)), fun x hx => HTI.out x ((HFF.out x hx).imp (fun h => HF'.out x h) (fun h => Nat.le_trans HF.out.size h))⟩
end Go.Proofs.Ytogjbhkhdccahaa
namespace Go.Proofs.Ytogjbhkhdccahaa
open Go Go.RowKit Go.Maps
section
variable {n m : Nat} {Fw : Nat → Prop} {w1 : World} {T : List (FP (zone Fw w1.heap.size))} {tl : List (Option Nat)} {Pd : Value → World → Prop} {ops : Array Oper} {wt : Nat → Nat → Bool} {Q : Exit → Act → World → Prop} {fr : (Nat → Value) → Array Value} {df : List Deferred} {i : Nat} {o : Oper}
/-- A call that may write to the old blocks of Fw. -/
theorem ksWC (hFw : ∀ x, Fw x → x < w1.heap.size) (hi : i < n) (hp : Path wt n i) (him : i = m)
    (hr : ∀ L u W gh, CS n m i Fw w1 T tl wt gh L u W → Below w1.heap.size w1 W → ∀ K : Act → World → Prop, Shut (∀ v w' S, Fr (fun x => Fw x ∨ eats n i tl wt gh x) W w' → (T.getD i kz).P S v w' → (∀ x, (T.getD i kz).tell = some x → v = x) → (∀ x, S x → Fw x ∨ eats n i tl wt gh x ∨ W.heap.size ≤ x) → (∀ x, S x → x < w'.heap.size) → K ((⟨fr u, df⟩ : Act).put o.dst v) w') → Oper.wp Try.prog o ⟨fr u, df⟩ W K Q) (hg : Gd n T ops wt fr i o := by exact Or.inl rfl) :
    StepAt Try.prog ops wt Q fr df G0 (JS n m Fw w1 T tl Pd) i o := by
  intro L u W hcl hJ _ hL hdep K hK
  rw [if_pos (hg.wanted hJ.val hdep)]
  have hn := notL hcl hp hL
  obtain ⟨gh, hR⟩ := hJ.run hn
  refine hr L u W gh (CS.mk' hcl hJ.val hR hL hdep) (hR.old (him ▸ hL)) K (fun v w' S h1 h2 h3 h4 h5 => ?_)
  exact hK.out v w' (JS.step (Fx := Fw) hi hn hL hdep hJ.val hR hFw (fun _ h => ⟨him, h⟩) h1 h2 h3 h4 h5) (fun _ _ _ _ h => h) trivial
end
theorem sign_instr (w : World) : (Instr.buildSlice 28 8 #[(0, .int .u8 77), (1, .int .u8 73), (2, .int .u8 83), (3, .int .u8 83), (4, .int .u8 73), (5, .int .u8 86), (6, .int .u8 69), (7, .int .u8 49)]).run Try.prog w = .ok (.slice (some ⟨w.heap.size, 0, none⟩) 8 8) (w.alloc (.cells (signL.map bV).toArray 5)) := by kernel_rfl
theorem run_sign {ev : Operand → Value} {o : Oper} {w : World} (ho : o.op = .buildSlice 28 8 #[(0, .const (.int .u8 77)), (1, .const (.int .u8 73)), (2, .const (.int .u8 83)), (3, .const (.int .u8 83)), (4, .const (.int .u8 73)), (5, .const (.int .u8 86)), (6, .const (.int .u8 69)), (7, .const (.int .u8 49))]) (hev : ∀ v, ev (.const v) = v) : (execOp ev o).run Try.prog w = .ok (.value (.slice (some ⟨w.heap.size, 0, none⟩) 8 8)) (w.alloc (.cells (signL.map bV).toArray 5)) := by
  have e := sign_instr w
  unfold execOp
  simp [ho, hev, e]
theorem Fr.freeze (w : World) (p : Addr) (n : Nat) : Fr (fun x => x = p.block) w (w.freeze p n) := by
  unfold World.freeze
  split
  · exact Fr.refl _ _
  · refine ⟨rfl, rfl, rfl, by simp, fun b hb hn => ?_⟩
    simp only [Array.getElem?_modify]
    rw [if_neg (fun h => hn h.symm)]
theorem freeze_at {w : World} {q k E : Nat} {C : Array Value} {fz : Nat × Nat} (h : w.heap[q]? = some (.cells C E fz)) : ∃ fz', (w.freeze ⟨q, k, none⟩ 1).heap[q]? = some (.cells C E fz') := by
  unfold World.freeze
  rw [if_neg (by decide)]
  simp only [Array.getElem?_modify, if_true, h, Option.map_some]
  exact ⟨_, rfl⟩
theorem run_convB {ev : Operand → Value} {o : Oper} {w : World} {x : Operand} {q n c : Nat} {C : Array Value} {fz : Nat × Nat} (ho : o.op = .convert 28 28 x) (hx : ev x = .slice (some ⟨q, 0, none⟩) n c) (hq : w.heap[q]? = some (.cells C 5 fz)) : (execOp ev o).run Try.prog w = .ok (.value (.slice (some ⟨q, 0, none⟩) n c)) (w.freeze ⟨q, C.size, none⟩ 1) := by
  have hsh : w.shape? q = some (5, C.size) := by unfold World.shape?; rw [hq]
  have e : (convert 28 28 (.slice (some ⟨q, 0, none⟩) n c)).run Try.prog w = .ok (.slice (some ⟨q, 0, none⟩) n c) (w.freeze ⟨q, C.size, none⟩ 1) := by
    simp [convert, run_underlying Try.underlying28, run_underlying Try.underlying5, markStringish, hsh]
  unfold execOp
  simp [ho, hx, e]
/-- The literal's block, its own. -/
def sgF {Z : Nat → Prop} (l : List UInt8) : FP Z := ⟨none, fun S v w => ∃ q, v = .slice (some ⟨q, 0, none⟩) l.length l.length ∧ w.heap[q]? = some (.cells (l.map bV).toArray 5 (0, 0)) ∧ S q,
  fun S v w w' ⟨q, h1, h2, h3⟩ hf => ⟨q, h1, (hf.block q (Array.getElem?_eq_some_iff.1 h2).1 (fun h => h.2 h3)).trans h2, h3⟩⟩
theorem heap_rd {w : World} {q E : Nat} {l : List UInt8} {fz : Nat × Nat} (h : w.heap[q]? = some (.cells (l.map bV).toArray E fz)) (hm : l.length ≤ maxLen) : RdB w (some ⟨q, 0, none⟩) l.length l.length l :=
  ⟨rfl, Nat.le_refl _, hm, fun i hi => ⟨q, 0, rfl, by simp [World.cell?, h, hi]⟩, fun e => by cases e⟩
theorem new4_instr {v0 v1 v2 v3 : Value} (h0 : v0.cells = #[v0]) (h1 : v1.cells = #[v1]) (h2 : v2.cells = #[v2]) (h3 : v3.cells = #[v3]) (w : World) :
    (Instr.buildSlice 69 4 #[(0, v0), (1, v1), (2, v2), (3, v3)]).run Try.prog w = .ok (.slice (some ⟨w.heap.size, 0, none⟩) 4 4) (w.alloc (.cells #[v0, v1, v2, v3] 28)) := by
  obtain ⟨i, hi, hz, hs, hb⟩ := elR.info
  simp [Instr.buildSlice, Sem.run_bind, run_underlying elR.und, sizeOf, typeInfo, zeroValue, hi, hs, hz, newRow, Instr.fill, h0, h1, h2, h3]
  congr 2
  apply Array.ext
  · simp
  · intro k a b
    simp at b
    rcases k with _ | _ | _ | _ | k <;> first | (simp [Array.getElem_setIfInBounds]; done) | omega
theorem run_new4 {ev : Operand → Value} {o : Oper} {w : World} {x0 x1 x2 x3 : Operand} {v0 v1 v2 v3 : Value} (ho : o.op = .buildSlice 69 4 #[(0, x0), (1, x1), (2, x2), (3, x3)]) (g0 : ev x0 = v0) (g1 : ev x1 = v1) (g2 : ev x2 = v2) (g3 : ev x3 = v3)
    (h0 : v0.cells = #[v0]) (h1 : v1.cells = #[v1]) (h2 : v2.cells = #[v2]) (h3 : v3.cells = #[v3]) : (execOp ev o).run Try.prog w = .ok (.value (.slice (some ⟨w.heap.size, 0, none⟩) 4 4)) (w.alloc (.cells #[v0, v1, v2, v3] 28)) := by
  have e := new4_instr h0 h1 h2 h3 w
  unfold execOp
  simp [ho, g0, g1, g2, g3, e]
theorem run_assignW {ev : Operand → Value} {o : Oper} {w : World} {x : Operand} {v : Value} (ho : o.op = .assign x) (hx : ev x = v) : (execOp ev o).run Try.prog w = .ok (.value v) w := by
  unfold execOp
  simp [ho, hx]
/-- Rows of bytes, all their blocks own. -/
def rows4F {Z : Nat → Prop} (ls : List (List UInt8)) : FP Z := ⟨none, fun S v w => ∃ (q : Nat) (ys : List Value), v = .slice (some ⟨q, 0, none⟩) ls.length ls.length ∧ ls.length ≤ maxLen ∧ S q ∧ ys.length = ls.length ∧ (∀ (i : Nat) (y : Value), ys[i]? = some y → w.cell? ⟨q, i, none⟩ = some y) ∧ ∀ (i : Nat) (y : Value) (l : List UInt8), ys[i]? = some y → ls[i]? = some l → RdZ Z S y w l,
  fun S v w w' ⟨q, ys, h1, h3, h4, h5, h6, h7⟩ hf => ⟨q, ys, h1, h3, h4, h5, fun i y hy => (hf.cell (p := ⟨q, i, none⟩) (cell_lt (h6 i y hy)) (fun h => h.2 h4)).trans (h6 i y hy), fun i y l hy hl => (h7 i y l hy hl).frame hf (fun _ h => h)⟩⟩
theorem rows4_rd {Z S : Nat → Prop} {ls : List (List UInt8)} {v : Value} {w : World} (h : (rows4F (Z := Z) ls).P S v w) : ∃ a, v = .slice a ls.length ls.length ∧ RdRows w a ls.length ls.length ls := by
  obtain ⟨q, ys, h1, h3, _, h5, h6, h7⟩ := h
  refine ⟨_, h1, rfl, Nat.le_refl _, h3, fun i hi => ?_⟩
  have hy : ys[i]? = some ys[i] := List.getElem?_eq_getElem (by omega)
  obtain ⟨a, n, c, e, hr, _⟩ := h7 i _ _ hy (List.getElem?_eq_getElem hi)
  exact ⟨q, 0, a, n, c, rfl, by rw [Nat.zero_add, h6 i _ hy, e], hr⟩
/-- The device behind the call, its blocks own; the code told. -/
def dvF {Z : Nat → Prop} (c : Int) (g : Nat) (d : Bd) : FP Z := ⟨some (.int .i64 c), fun S v w => v = .int .i64 c ∧ ∃ F, Dv w g d F ∧ ∀ x, F x → S x, fun S v w w' ⟨h1, F, h2, h3⟩ hf => ⟨h1, F, h2.frame hf (fun x hx h => h.2 (h3 x hx)), h3⟩⟩
end Go.Proofs.Ytogjbhkhdccahaa
namespace Go.Proofs.Ytogjbhkhdccahaa
open Go Go.RowKit
def ux (a b : UInt64) : UInt64 := a ^^^ b
def ua (a b : UInt64) : UInt64 := a &&& b
def uo (a b : UInt64) : UInt64 := a ||| b
def un (a : UInt64) : UInt64 := ~~~a
def up (a b : UInt64) : UInt64 := a + b
def ush (a : UInt64) (n : Nat) : UInt64 := UInt64.ofNat (a.toNat / 2 ^ n)
def usl (a : UInt64) (n : Nat) : UInt64 := UInt64.ofNat (a.toNat * 2 ^ n)
/-- Turned to the right. -/
def rotr (a : UInt64) (n : Nat) : UInt64 := uo (ush a n) (usl a (64 - n))
section
variable {ev : Operand → Value} {o : Oper} {x y : Operand} {t : TypeId} {w : World} {a b : UInt64}
end
end Go.Proofs.Ytogjbhkhdccahaa
namespace Go.Proofs.Ytogjbhkhdccahaa
def kTab : List UInt64 := [4794697086780616226, 8158064640168781261, 13096744586834688815, 16840607885511220156, 4131703408338449720, 6480981068601479193, 10538285296894168987, 12329834152419229976, 15566598209576043074, 1334009975649890238, 2608012711638119052, 6128411473006802146, 8268148722764581231, 9286055187155687089, 11230858885718282805, 13951009754708518548, 16472876342353939154, 17275323862435702243, 1135362057144423861, 2597628984639134821, 3308224258029322869, 5365058923640841347, 6679025012923562964, 8573033837759648693, 10970295158949994411, 12119686244451234320, 12683024718118986047, 13788192230050041572, 14330467153632333762, 15395433587784984357, 489312712824947311, 1452737877330783856, 2861767655752347644, 3322285676063803686, 5560940570517711597, 5996557281743188959, 7280758554555802590, 8532644243296465576, 9350256976987008742, 10552545826968843579, 11727347734174303076, 12113106623233404929, 14000437183269869457, 14369950271660146224, 15101387698204529176, 15463397548674623760, 17586052441742319658, 1182934255886127544, 1847814050463011016, 2177327727835720531, 2830643537854262169, 3796741975233480872, 4115178125766777443, 5681478168544905931, 6601373596472566643, 7507060721942968483, 8399075790359081724, 8693463985226723168, 9568029438360202098, 10144078919501101548, 10430055236837252648, 11840083180663258601, 13761210420658862357, 14299343276471374635, 14566680578165727644, 15097957966210449927, 16922976911328602910, 17689382322260857208, 500013540394364858, 748580250866718886, 1242879168328830382, 1977374033974150939, 2944078676154940804, 3659926193048069267, 4368137639120453308, 4836135668995329356, 5532061633213252278, 6448918945643986474, 6902733635092675308, 7801388544844847127]
/-- What a list has at i; nought behind its end. -/
def at0 (l : List UInt64) (i : Nat) : UInt64 := l.getD i 0
def sg0 (x : UInt64) : UInt64 := ux (ux (rotr x 1) (rotr x 8)) (ush x 7)
def sg1 (x : UInt64) : UInt64 := ux (ux (rotr x 19) (rotr x 61)) (ush x 6)
def bs0 (x : UInt64) : UInt64 := ux (ux (rotr x 28) (rotr x 34)) (rotr x 39)
def bs1 (x : UInt64) : UInt64 := ux (ux (rotr x 14) (rotr x 18)) (rotr x 41)
def cho (e f g : UInt64) : UInt64 := ux (ua e f) (ua (un e) g)
def maj (a b c : UInt64) : UInt64 := ux (ux (ua a b) (ua a c)) (ua b c)
/-- The schedule's next word. -/
def wNext (l : List UInt64) (t : Nat) : UInt64 := up (up (up (at0 l (t - 16)) (sg0 (at0 l (t - 15)))) (at0 l (t - 7))) (sg1 (at0 l (t - 2)))
/-- The schedule's first t words. -/
def wL (b : List UInt64) : Nat → List UInt64
  | 0 => []
  | t + 1 => wL b t ++ [if t < 16 then at0 b t else wNext (wL b t) t]
/-- A round. -/
def rnd (v : List UInt64) (k w : UInt64) : List UInt64 :=
  [up (up (up (up (up (at0 v 7) (bs1 (at0 v 4))) (cho (at0 v 4) (at0 v 5) (at0 v 6))) k) w) (up (bs0 (at0 v 0)) (maj (at0 v 0) (at0 v 1) (at0 v 2))), at0 v 0, at0 v 1, at0 v 2, up (at0 v 3) (up (up (up (up (at0 v 7) (bs1 (at0 v 4))) (cho (at0 v 4) (at0 v 5) (at0 v 6))) k) w), at0 v 4, at0 v 5, at0 v 6]
def rL (h w : List UInt64) : Nat → List UInt64
  | 0 => h
  | t + 1 => rnd (rL h w t) (at0 kTab t) (at0 w t)
def turn (h b : List UInt64) : List UInt64 := (List.range 8).map fun i => up (at0 h i) (at0 (rL h (wL b 80) 80) i)
/-- A word of eight bytes, the greatest first. -/
def be8 (x : UInt64) : List UInt8 := (leB 8 x.toNat).reverse
def beW (l : List UInt8) : UInt64 := UInt64.ofNat (leN l.reverse)
def words (l : List UInt8) : List UInt64 := (List.range 16).map fun i => beW ((l.drop (8 * i)).take 8)
end Go.Proofs.Ytogjbhkhdccahaa
namespace Go.Proofs.Ytogjbhkhdccahaa
open Go Go.RowKit
/-- What the first k of eight bytes mean, the greatest first. -/
def beK (l : List UInt8) (k : Nat) : Nat := leN ((first l k).reverse)
theorem first_succ (l : List UInt8) (k : Nat) : first l (k + 1) = first l k ++ [l.getD k 0] := by
  unfold first
  by_cases h : k < l.length
  · rw [List.take_succ_eq_append_getElem h, show k + 1 - l.length = 0 by omega, show k - l.length = 0 by omega, List.getD_eq_getElem?_getD, List.getElem?_eq_getElem h]
    simp
  · rw [List.take_of_length_le (by omega), List.take_of_length_le (by omega), show k + 1 - l.length = (k - l.length) + 1 by omega, List.replicate_succ', List.getD_eq_getElem?_getD, List.getElem?_eq_none (by omega)]
    simp
theorem beK_succ (l : List UInt8) (k : Nat) : beK l (k + 1) = beK l k * 256 + (l.getD k 0).toNat := by
  unfold beK
  rw [first_succ, List.reverse_append]
  show (l.getD k 0).toNat + 256 * leN ((first l k).reverse) = _
  omega
theorem beK_lt (l : List UInt8) (k : Nat) : beK l k < 256 ^ k := by
  have h := leN_lt ((first l k).reverse)
  rw [List.length_reverse, first_len] at h
  exact h
theorem beW_beK (l : List UInt8) : ((beW (first l 8)).toNat : Int) = (beK l 8 : Nat) := by
  have h := beK_lt l 8
  unfold beW
  rw [UInt64.toNat_ofNat']
  show ((beK l 8 % _ : Nat) : Int) = _
  rw [Nat.mod_eq_of_lt (by omega)]
theorem orByte (n c : Nat) (hn : n < 72057594037927936) (hc : c < 256) : bits BinOp.or IntKind.u64 ((n : Int) * 256) (c : Int) = (n : Int) * 256 + (c : Int) := by
  have e := Nat.shiftLeft_add_eq_or_of_lt (i := 8) (b := c) (by omega) n
  rw [Nat.shiftLeft_eq] at e
  have h := u64_or_nat (n * 256) c (by omega) (by omega)
  have h2 : (n * 256 ||| c) = n * 256 + c := e.symm
  rw [h2] at h
  rw [show (n : Int) * 256 = ((n * 256 : Nat) : Int) by simp]
  rw [h]
  omega
set_option maxRecDepth 100000 in
set_option maxHeartbeats 400000 in
theorem get64_any {a : Option Addr} {n cap : Nat} {l : List UInt8} (w : World) (h : RdB w a n cap l) :
    Calls Try.prog 48 #[.slice a n cap] w fun e w' => e = .returned (.int .u64 ((beW (first l 8)).toNat : Int)) ∧ w = w' := by
  have HL := Lib.hid h.hlen
  have HG := Lib.hid h
  have HE := Lib.hid (beW_beK l)
  have hmx : (n : Int) ≤ 9223372036854775807 := by have := h.hcap; have := h.hmax; unfold maxLen at *; omega
  clear h
  go_enter Try.func48, Try.ntmps48
  go_wp2
  go_loop [2, 4] (fun v i => ∃ k : Nat, k ≤ 8 ∧ i = .int .i64 k ∧ v = .int .u64 (beK l k : Nat)) (fun _ i => 8 - (intOf i).toNat)
  case atStart => exact ⟨0, by omega, rfl, by rw [show beK l 0 = 0 from by simp [beK, first, leN]]; rfl⟩
  case round =>
    obtain ⟨k, hk, rfl, rfl⟩ := hrel
    by_cases hlt : k < 8
    · have e1 := beK_succ l k
      have h2 : beK l k < 72057594037927936 := Nat.lt_of_lt_of_le (beK_lt l k) (Nat.le_trans (Nat.pow_le_pow_right (by omega) (show k ≤ 7 by omega)) (by decide))
      have HB := Lib.hid e1
      clear e1
      generalize beK l k = m at *
      have hw : IntKind.u64.wrap ((m : Int) * 256) = (m : Int) * 256 := by rw [IntKind.wrap_u64]; omega
      by_cases hkn : k < n
      · have hkl : k < l.length := by rw [HL.out]; exact hkn
        obtain ⟨b, o, rfl, hc⟩ := HG.out.get k hkl
        have hor := orByte m l[k].toNat h2 l[k].toNat_lt
        have HB2 : Hid (((beK l (k + 1) : Nat) : Int) = (m : Int) * 256 + (l[k].toNat : Int)) := Lib.hid (by rw [HB.out, List.getD_eq_getElem?_getD, List.getElem?_eq_getElem hkl, Option.getD_some]; omega)
        have hwc : IntKind.u64.wrap (l[k].toNat : Int) = (l[k].toNat : Int) := by have := l[k].toNat_lt; rw [IntKind.wrap_u64]; omega
        unfold bV at hc
        clear HB h2
        go_wp2
        go_round
        case rel => exact ⟨k + 1, by omega, by go_num, by rw [HB2.out]⟩
        case measure => simp [intOf]; omega
      · have HB2 : Hid (((beK l (k + 1) : Nat) : Int) = (m : Int) * 256) := Lib.hid (by rw [HB.out, List.getD_eq_getElem?_getD, List.getElem?_eq_none (by rw [HL.out]; omega)]; simp)
        clear HB h2
        go_wp2
        go_round
        case rel => exact ⟨k + 1, by omega, by go_num, by rw [HB2.out]⟩
        case measure => simp [intOf]; omega
    · obtain rfl : k = 8 := by omega
      go_wp2
      go_ret
      exact ⟨ret_int HE.out.symm, rfl⟩
/-- Eight bytes with the first k and the last k turned. -/
def revK (l : List UInt8) (k : Nat) : List UInt8 := (List.range 8).map fun i => if i < k ∨ 8 - k ≤ i then l.getD (7 - i) 0 else l.getD i 0
set_option maxRecDepth 100000 in
set_option maxHeartbeats 1000000 in
theorem rev8_any {g : Nat} {l : List UInt8} (w : World) (hl : l.length = 8) (h : Blk w g (l.map bV) 5) :
    Calls Try.prog 37 #[.slice (some ⟨g, 0, none⟩) 8 8] w fun e w' => e = .returned (.tuple #[]) ∧ Blk w' g (l.reverse.map bV) 5 ∧ Below g w w' := by
  obtain ⟨a, b, c, d, e, f, i, j, rfl⟩ : ∃ a b c d e f i j, l = [a, b, c, d, e, f, i, j] := by
    match l, hl with
    | [a, b, c, d, e, f, i, j], _ => exact ⟨a, b, c, d, e, f, i, j, rfl⟩
  clear hl
  go_enter Try.func37, Try.ntmps37
  go_wp2
  go_loopw [2, 3] (fun x y wr => ∃ k : Nat, k ≤ 4 ∧ x = .int .i64 k ∧ y = .int .i64 (7 - (k : Int)) ∧ Blk wr g ((revK [a, b, c, d, e, f, i, j] k).map bV) 5 ∧ Below g w wr) (fun x _ _ => 4 - (intOf x).toNat)
  case atStart => exact ⟨0, by omega, rfl, rfl, h, Below.refl _ _⟩
  case round =>
    obtain ⟨k, hk, rfl, rfl, hB, hb⟩ := hrel
    clear h
    have hk : k = 0 ∨ k = 1 ∨ k = 2 ∨ k = 3 ∨ k = 4 := by omega
    rcases hk with rfl | rfl | rfl | rfl | rfl
    · have h0 : wr.cell? ⟨g, 0, none⟩ = some (.int .u8 (a.toNat : Int)) := hB.cell 0
      have h7 : wr.cell? ⟨g, 7, none⟩ = some (.int .u8 (j.toNat : Int)) := hB.cell 7
      have f0 := hB.frozen 0
      have f7 := hB.frozen 7
      have HB := Lib.hid hB
      clear hB
      go_wp2
      go_region
      all_goals
        go_wp2
        go_roundw
        case rel => first | exact ⟨1, by omega, by go_num, by go_num, Blk.drew ((HB.out.set 0 (bV j)).set 7 (bV a)), (hb.setCell (Nat.le_refl _) _).setCell (Nat.le_refl _) _ |>.drew⟩ | exact ⟨1, by omega, by go_num, by go_num, Blk.drew ((HB.out.set 7 (bV a)).set 0 (bV j)), (hb.setCell (Nat.le_refl _) _).setCell (Nat.le_refl _) _ |>.drew⟩
        case measure => simp [intOf]
    · have h0 : wr.cell? ⟨g, 1, none⟩ = some (.int .u8 (b.toNat : Int)) := hB.cell 1
      have h7 : wr.cell? ⟨g, 6, none⟩ = some (.int .u8 (i.toNat : Int)) := hB.cell 6
      have f0 := hB.frozen 1
      have f7 := hB.frozen 6
      have HB := Lib.hid hB
      clear hB
      go_wp2
      go_region
      all_goals
        go_wp2
        go_roundw
        case rel => first | exact ⟨2, by omega, by go_num, by go_num, Blk.drew ((HB.out.set 1 (bV i)).set 6 (bV b)), (hb.setCell (Nat.le_refl _) _).setCell (Nat.le_refl _) _ |>.drew⟩ | exact ⟨2, by omega, by go_num, by go_num, Blk.drew ((HB.out.set 6 (bV b)).set 1 (bV i)), (hb.setCell (Nat.le_refl _) _).setCell (Nat.le_refl _) _ |>.drew⟩
        case measure => simp [intOf]
    · have h0 : wr.cell? ⟨g, 2, none⟩ = some (.int .u8 (c.toNat : Int)) := hB.cell 2
      have h7 : wr.cell? ⟨g, 5, none⟩ = some (.int .u8 (f.toNat : Int)) := hB.cell 5
      have f0 := hB.frozen 2
      have f7 := hB.frozen 5
      have HB := Lib.hid hB
      clear hB
      go_wp2
      go_region
      all_goals
        go_wp2
        go_roundw
        case rel => first | exact ⟨3, by omega, by go_num, by go_num, Blk.drew ((HB.out.set 2 (bV f)).set 5 (bV c)), (hb.setCell (Nat.le_refl _) _).setCell (Nat.le_refl _) _ |>.drew⟩ | exact ⟨3, by omega, by go_num, by go_num, Blk.drew ((HB.out.set 5 (bV c)).set 2 (bV f)), (hb.setCell (Nat.le_refl _) _).setCell (Nat.le_refl _) _ |>.drew⟩
        case measure => simp [intOf]
    · have h0 : wr.cell? ⟨g, 3, none⟩ = some (.int .u8 (d.toNat : Int)) := hB.cell 3
      have h7 : wr.cell? ⟨g, 4, none⟩ = some (.int .u8 (e.toNat : Int)) := hB.cell 4
      have f0 := hB.frozen 3
      have f7 := hB.frozen 4
      have HB := Lib.hid hB
      clear hB
      go_wp2
      go_region
      all_goals
        go_wp2
        go_roundw
        case rel => first | exact ⟨4, by omega, by go_num, by go_num, Blk.drew ((HB.out.set 3 (bV e)).set 4 (bV d)), (hb.setCell (Nat.le_refl _) _).setCell (Nat.le_refl _) _ |>.drew⟩ | exact ⟨4, by omega, by go_num, by go_num, Blk.drew ((HB.out.set 4 (bV d)).set 3 (bV e)), (hb.setCell (Nat.le_refl _) _).setCell (Nat.le_refl _) _ |>.drew⟩
        case measure => simp [intOf]
    · go_wp2
      exact bodyPost_end (results_none Try.results37 _ _ _) rfl ⟨rfl, hB, hb⟩
set_option maxRecDepth 100000 in
set_option maxHeartbeats 400000 in
theorem put64_any {x : UInt64} (w : World) :
    Calls Try.prog 27 #[.int .u64 (x.toNat : Int)] w fun e w' => e = .returned (.slice (some ⟨w.heap.size, 0, none⟩) 8 8) ∧ Blk w' w.heap.size ((be8 x).map bV) 5 ∧ Below w.heap.size w w' := by
  have HX := Lib.hid (show x.toNat < 18446744073709551616 from x.toNat_lt)
  go_enter Try.func27, Try.ntmps27
  go_wp2_with (first
    | (go_at_call 36; go_must (refine (little_any HX.out _).mono ?_; rintro e w1 ⟨rfl, hB, hb⟩; have HB := Lib.hid hB; have hbel := hb; clear hB hb))
    | (go_at_call 37; go_must (refine (rev8_any _ (leB_len 8 _) HB.out).mono ?_; rintro e w2 ⟨rfl, hB2, hb2⟩; have HB2 := Lib.hid hB2; have hbel2 := hbel.trans hb2; clear hB2 hb2)))
  go_ret
  exact ⟨rfl, HB2.out, hbel2⟩
end Go.Proofs.Ytogjbhkhdccahaa
namespace Go.Proofs.Ytogjbhkhdccahaa
open Go Go.RowKit
def JR2 (c : List Nat) (r : Nat) (Pj : Nat → Value → World → Prop) (L : Nat → Bool) (u : Nat → Value) (W : World) : Prop := ∃ j, j ≤ c.length ∧ (∀ t k, c[t]? = some k → L k = decide (t < j)) ∧ Pj j (u r) W
def GR2 (X : List Value) (r : Nat) (i : Nat) (_L : Nat → Bool) (u : Nat → Value) (_W : World) : Prop := i ≠ r → u i = X.getD i undef
section
variable {c : List Nat} {r : Nat} {Pj : Nat → Value → World → Prop} {X : List Value} {ops : Array Oper} {wt : Nat → Nat → Bool} {Q : Exit → Act → World → Prop} {fr : (Nat → Value) → Array Value} {df : List Deferred} {i : Nat} {o : Oper}
theorem soft_GR2 : Soft wt (GR2 X r) := ⟨fun _ _ _ _ _ _ hki _ h hr => by rw [putV_ne hki]; exact h hr, fun _ _ _ _ _ _ h => h⟩
/-- An operation that reads. -/
theorem krP (hi : i ∉ c) (hir : i ≠ r) (hr : ∀ u W j, Pj j (u r) W → (∀ t k, c[t]? = some k → Path wt i k → t < j) → (∀ t k, c[t]? = some k → Path wt k i → j ≤ t) → (∀ d, wt i d = true → d ≠ r → u d = X.getD d undef) → (execOp (⟨fr u, df⟩ : Act).eval o).run Try.prog W = .ok (.value (X.getD i undef)) W) (hg : o.guard = none := by rfl) :
    StepAt Try.prog ops wt Q fr df (GR2 X r) (JR2 c r Pj) i o := by
  intro L u W hcl hJ hG hL hdep K hK
  rw [if_pos (by simp [Region.wanted, hg])]
  obtain ⟨j, hj, hc, hP⟩ := hJ
  unfold Oper.wp
  rw [hr u W j hP (fun t k hk hp => by have h1 := hp.first hcl hdep; rw [hc t k hk] at h1; exact of_decide_eq_true h1) (fun t k hk hp => by have h1 := notL hcl hp hL; rw [hc t k hk] at h1; have := of_decide_eq_false h1; omega) (fun d hd => hG d (hdep d hd))]
  refine hK.out _ W ⟨j, hj, fun t k hk => ?_, by rw [putV_ne (Ne.symm hir)]; exact hP⟩ (fun k hk hki _ h hkr => by rw [putV_ne hki]; exact h hkr) (fun _ => putV_same _ _ _)
  have hne : k ≠ i := fun e => hi (by rw [← e]; exact List.mem_of_getElem? hk)
  rw [putL_ne hne]; exact hc t k hk
/-- One of those that make or write. -/
theorem krC {t : Nat} (ht : c[t]? = some i) (hnd : c.Nodup) (hord : ∀ s k, s < t → c[s]? = some k → Path wt i k) (hr : ∀ u W, Pj t (u r) W → (∀ d, wt i d = true → d ≠ r → u d = X.getD d undef) → ∀ K : Act → World → Prop, Shut (∀ z w', (i ≠ r → z = X.getD i undef) → Pj (t + 1) (if i = r then z else u r) w' → K ((⟨fr u, df⟩ : Act).put o.dst z) w') → Oper.wp Try.prog o ⟨fr u, df⟩ W K Q) (hg : o.guard = none := by rfl) :
    StepAt Try.prog ops wt Q fr df (GR2 X r) (JR2 c r Pj) i o := by
  intro L u W hcl hJ hG hL hdep K hK
  rw [if_pos (by simp [Region.wanted, hg])]
  obtain ⟨j, hj, hc, hP⟩ := hJ
  have htl := (List.getElem?_eq_some_iff.1 ht).1
  have hjt : j = t := by
    have h1 := hc t i ht
    rw [hL] at h1
    have h2 := of_decide_eq_false h1.symm
    rcases Nat.lt_or_ge j t with h | h
    · obtain ⟨k, hk⟩ : ∃ k, c[j]? = some k := ⟨_, List.getElem?_eq_getElem (by omega)⟩
      have h3 := (hord j k h hk).first hcl hdep
      rw [hc j k hk] at h3
      have := of_decide_eq_true h3
      omega
    · omega
  subst hjt
  refine hr u W hP (fun d hd => hG d (hdep d hd)) K (fun z w' hz hP' => ?_)
  refine hK.out z w' ⟨j + 1, htl, fun s k hk => ?_, ?_⟩ (fun k hk hki _ h hkr => by rw [putV_ne hki]; exact h hkr) (fun h => by rw [putV_same]; exact hz h)
  · by_cases e : s = j
    · subst e
      rw [ht] at hk; cases hk
      rw [putL_same]; simp
    · have hki : k ≠ i := fun h => by
        subst h
        have h1 := (List.getElem?_eq_some_iff.1 hk); have h2 := (List.getElem?_eq_some_iff.1 ht)
        exact e ((List.getElem_inj (h₀ := h1.1) (h₁ := h2.1) hnd).1 (h1.2.trans h2.2.symm))
      rw [putL_ne hki, hc s k hk]
      simp only [decide_eq_decide]; omega
  · by_cases h : i = r
    · subst h; rw [if_pos rfl] at hP'; rw [putV_same]; exact hP'
    · rw [if_neg h] at hP'; rw [putV_ne (Ne.symm h)]; exact hP'
end
section
variable {F : List Value} {fr : (Nat → Value) → Array Value} {df : List Deferred} {ops : Array Oper} {id : Nat} {Q : Exit → Act → World → Prop} {w : World}
theorem rgR (n : Nat) (p : List (Nat × Nat)) (X : List Value) (c : List Nat) (r : Nat) (Pj : Nat → Value → World → Prop) (hP0 : ∀ v, Pj 0 v w.drew) (hcn : ∀ k ∈ c, k < n)
    (hsteps : AllSteps Try.prog ops (waitsOn .any ops) Q fr df (GR2 X r) (JR2 c r Pj) 0 ops.toList)
    (hdone : ∀ u W, Pj c.length (u r) W → (∀ k, k < n → k ≠ r → u k = X.getD k undef) → Q .normal ⟨fr u, df⟩ W)
    (hF : ∀ u, (mrg F p u).toArray = fr u := by intro u; dsimp only [mrg]; try exact rfl)
    (hc : okP p ops = true := by kernel_rfl) (hn : ops.size = n := by kernel_rfl) (hm : Try.prog.follows .mixedOrders = true := by kernel_rfl) (he : earlier .any ops = true := by kernel_rfl) : (Code.region id ops true).wp Try.prog Q ⟨F.toArray, df⟩ w := by
  obtain ⟨u0, hu⟩ := mrg_self p F (by simp only [okP, Bool.and_eq_true] at hc; exact hc.1)
  refine wp_region_mid (a := ⟨F.toArray, df⟩) fr (GR2 X r) (JR2 c r Pj) u0 hm he (okP_put hc hF) (by rw [← hF, hu]) ⟨0, Nat.zero_le _, fun t k hk => by simp, hP0 _⟩ soft_GR2 (fun _ => hsteps) (fun L u W hall hJ hG => ?_)
  obtain ⟨j, hj, hcj, hP⟩ := hJ
  have : j = c.length := by
    rcases Nat.lt_or_ge j c.length with h | h
    · have h1 := hcj j _ (List.getElem?_eq_getElem h)
      rw [hall _ (by rw [hn]; exact hcn _ (List.getElem_mem h))] at h1
      have := of_decide_eq_true h1.symm
      omega
    · omega
  subst this
  exact hdone u W hP (fun k hk hkr => hG k (by omega) hkr)
end
end Go.Proofs.Ytogjbhkhdccahaa
namespace Go.Proofs.Ytogjbhkhdccahaa
open Go Go.RowKit Go.Maps
theorem stRoom_big {n : Nat} (w : World) (h0 : 64 ≤ n) (h : n ≤ 100000) : Calls Try.prog 18 #[.int .i64 (n : Int)] w fun e w' => e = .returned (.int .i64 ((20 * n : Nat) : Int)) ∧ w = w' := by
  have := stRoom_any w h
  rw [if_neg (by omega)] at this
  exact this
set_option maxRecDepth 100000 in
set_option maxHeartbeats 400000 in
theorem stSave_nil {n cap : Nat} {a : Option Addr} (w : World) : Calls Try.prog 13 #[.pointer none, .slice a n cap] w fun e w' => e = .returned (.int .i64 10) ∧ w = w' := by
  go_enter Try.func13, Try.ntmps13
  go_wp2
  go_ret
  exact ⟨rfl, rfl⟩
set_option maxRecDepth 100000 in
set_option maxHeartbeats 400000 in
theorem stSave_big {w : World} {s g n cap : Nat} {a : Option Addr} {d : Bd} {st : Bs} {E F : Nat → Prop} (h : Sv w s g st E) (hd : Dv w g d F) (h64 : 64 ≤ d.good.length) (hN : d.good.length ≤ 1000) (hb : 20 * d.good.length < n) :
    Calls Try.prog 13 #[.pointer (some ⟨s, 0, none⟩), .slice a n cap] w fun e w' => e = .returned (.int .i64 11) ∧ w = w' := by
  have c0 := h.cells.c0
  have HD := Lib.hid hd
  obtain ⟨N, hNN⟩ : ∃ N, N = d.good.length := ⟨_, rfl⟩
  have HLN : ∀ w', w' = w → Calls Try.prog 23 #[.pointer (some ⟨g, 0, none⟩)] w' fun e w'' => e = .returned (.int .i64 (N : Nat)) ∧ w' = w'' := fun w' e => by subst e; rw [hNN]; exact bLen_any HD.out
  have HLN := Lib.hid HLN
  have hb1 : ((20 * N : Nat) : Int) < (n : Int) := by rw [hNN]; omega
  have HR := Lib.hid (fun w => stRoom_big (n := N) w (by rw [hNN]; exact h64) (by rw [hNN]; omega))
  obtain ⟨R, hR⟩ : ∃ R : Nat, R = 20 * N := ⟨_, rfl⟩
  rw [← hR] at hb1 HR
  clear h hd h64 hN hb hNN hR
  go_enter Try.func13, Try.ntmps13
  go_wp2_with (first | (go_at_call 23; (with_reducible refine (HLN.out _ rfl).mono ?_); rintro e wz ⟨rfl, rfl⟩) | (go_at_call 18; (with_reducible refine (HR.out _).mono ?_); rintro e wz ⟨rfl, rfl⟩))
  go_ret
  exact ⟨rfl, rfl⟩
set_option maxRecDepth 100000 in
set_option maxHeartbeats 400000 in
theorem stSave_off {w : World} {s g n cap : Nat} {a : Option Addr} {d : Bd} {st : Bs} {E F : Nat → Prop} (h : Sv w s g st E) (hd : Dv w g d F) (h64 : 64 ≤ d.good.length) (hN : d.good.length ≤ 1000) (hb : n ≤ 20 * d.good.length) (ho : st.off = true) :
    Calls Try.prog 13 #[.pointer (some ⟨s, 0, none⟩), .slice a n cap] w fun e w' => e = .returned (.int .i64 10) ∧ w = w' := by
  have c0 := h.cells.c0
  have c4 := h.cells.c4
  rw [ho] at c4
  have HD := Lib.hid hd
  obtain ⟨N, hNN⟩ : ∃ N, N = d.good.length := ⟨_, rfl⟩
  have HLN : ∀ w', w' = w → Calls Try.prog 23 #[.pointer (some ⟨g, 0, none⟩)] w' fun e w'' => e = .returned (.int .i64 (N : Nat)) ∧ w' = w'' := fun w' e => by subst e; rw [hNN]; exact bLen_any HD.out
  have HLN := Lib.hid HLN
  have hb1 : ¬ ((20 * N : Nat) : Int) < (n : Int) := by rw [hNN]; omega
  have HR := Lib.hid (fun w => stRoom_big (n := N) w (by rw [hNN]; exact h64) (by rw [hNN]; omega))
  obtain ⟨R, hR⟩ : ∃ R : Nat, R = 20 * N := ⟨_, rfl⟩
  rw [← hR] at hb1 HR
  clear h hd h64 hN hb hNN hR
  go_enter Try.func13, Try.ntmps13
  go_wp2_with (first | (go_at_call 23; (with_reducible refine (HLN.out _ rfl).mono ?_); rintro e wz ⟨rfl, rfl⟩) | (go_at_call 18; (with_reducible refine (HR.out _).mono ?_); rintro e wz ⟨rfl, rfl⟩))
  go_ret
  exact ⟨rfl, rfl⟩
/-- Behind a Save. -/
def SavedTo (w w' : World) (s g : Nat) (r : Bd × Bs × Int) (E F : Nat → Prop) : Prop := ∃ E' F', Sv w' s g r.2.1 E' ∧ Dv w' g r.1 F' ∧ (∀ x, E' x → ¬ F' x) ∧ (∀ x, E' x → E x ∨ w.heap.size ≤ x) ∧ (∀ x, F' x → F x ∨ w.heap.size ≤ x) ∧ Fr (fun x => x = s ∨ F x) w w'
theorem Sv.setOff {w : World} {s g : Nat} {st : Bs} {E : Nat → Prop} (h : Sv w s g st E) : Sv (w.setCell ⟨s, 4, none⟩ (.bool true)) s g { st with off := true } E := by
  obtain ⟨a, c, hb, hr, hp⟩ := h.ex
  have hf := (Fr.refl (fun x => x = s) w).one (o := 4) (.bool true)
  exact ⟨h.in2, h.cnt, h.big, h.own, fun x hx => Nat.lt_of_lt_of_le (h.lt x hx) hf.size, a, c, hb.set 4 (.bool true), hr.frame hf (fun p e => (hp p e).2), hp⟩
theorem Dv.setS {w : World} {s g o : Nat} {d : Bd} {F : Nat → Prop} {v : Value} (h : Dv w g d F) (hs : ¬ F s) : Dv (w.setCell ⟨s, o, none⟩ v) g d F := h.frame ((Fr.refl (fun x => x = s) w).one v) (fun x hx e => hs (e ▸ hx))
theorem own_low {w : World} {base base' E sz n : Nat} {v : Value} {xs : List Value} (h : w.ownsRow base E sz v n xs) (hb : base' ≤ base) : w.ownsRow base' E sz v n xs := by
  obtain ⟨h1, h2⟩ := h
  refine ⟨h1, ?_⟩
  rcases h2 with h2 | ⟨g, cap, cur, hv, hg, r⟩
  · exact .inl h2
  · exact .inr ⟨g, cap, cur, hv, Nat.le_trans hb hg, r⟩
theorem own_shape {w : World} {base E sz n : Nat} {v : Value} {xs : List Value} (h : w.ownsRow base E sz v n xs) : ∃ a c, v = .slice a n c := by
  rcases h.2 with ⟨rfl, hn⟩ | ⟨g, cap, cur, hv, _⟩
  · exact ⟨none, 0, by rw [hn]⟩
  · exact ⟨_, _, hv⟩
theorem own_rdb0 {w : World} {base : Nat} {v : Value} {n : Nat} {l : List UInt8} (h : w.ownsRow base 5 1 v n (l.map bV)) (hl : l.length = n) : ∃ a c, v = .slice a n c ∧ RdB w a n c l ∧ ∀ p, a = some p → base ≤ p.block ∧ p.block < w.heap.size := by
  subst hl
  exact own_rdw h
theorem Sv.saved {w : World} {s g i1 n base : Nat} {st : Bs} {E : Nat → Prop} {l : List UInt8} {v : Value} (h : Sv w s g st E) (ho : w.ownsRow base 5 1 v n (l.map bV)) (hl : l.length = n) (hs : s < base) (hi : i1 < 2) (hc : st.cnt + 1 < 1000000) (hn : n ≤ 1000000) (hoff : st.off = false) :
    Sv (((w.setCell ⟨s, 1, none⟩ (.int .i64 (i1 : Int))).setCell ⟨s, 2, none⟩ (.int .i64 (((st.cnt : Nat) : Int) + 1))).setCell ⟨s, 3, none⟩ v) s g ⟨i1, st.cnt + 1, l, false⟩ (fun x => x = s ∨ (base ≤ x ∧ x < w.heap.size)) := by
  obtain ⟨a, c, hb, _, _⟩ := h.ex
  obtain ⟨a', c', rfl, hr, hp⟩ := own_rdb0 ho hl
  have hf := (((Fr.refl (fun x => x = s) w).one (o := 1) (.int .i64 (i1 : Int))).one (o := 2) (.int .i64 (((st.cnt : Nat) : Int) + 1))).one (o := 3) (.slice a' n c')
  have hB := ((hb.set 1 (.int .i64 (i1 : Int))).set 2 (.int .i64 (((st.cnt : Nat) : Int) + 1))).set 3 (.slice a' n c')
  subst hl
  rw [hoff] at hB
  refine ⟨hi, hc, hn, .inl rfl, fun x hx => ?_, a', c', hB, hr.frame hf (fun p e h2 => ?_), fun p e => ⟨.inr (hp p e), fun h2 => ?_⟩⟩
  · rcases hx with rfl | hx
    · exact Nat.lt_of_lt_of_le (h.lt _ h.own) hf.size
    · exact Nat.lt_of_lt_of_le hx.2 hf.size
  · have := (hp p e).1; omega
  · have := (hp p e).1; omega
set_option maxRecDepth 100000 in
set_option maxHeartbeats 4000000 in
theorem stSave_main {w : World} {s g n cap : Nat} {a : Option Addr} {l : List UInt8} {d : Bd} {st : Bs} {E F : Nat → Prop} (h : Sv w s g st E) (hd : Dv w g d F) (hEF : ∀ x, E x → ¬ F x) (hr : RdB w a n cap l) (hrF : ∀ p, a = some p → ¬ F p.block) (h64 : 64 ≤ d.good.length) (hN : d.good.length ≤ 1000) (hb : n ≤ 20 * d.good.length) (hoff : st.off = false)
    (ho : d.ops + 1000 < 1000000) (hl : d.left ≤ 9223372036854775807) (hc : st.cnt + 1 < 1000000) :
    Calls Try.prog 13 #[.pointer (some ⟨s, 0, none⟩), .slice a n cap] w fun e w' => e = .returned (.int .i64 (saveP d st l).2.2) ∧ SavedTo w w' s g (saveP d st l) E F := by
  have c0 := h.cells.c0
  have c1 := h.cells.c1
  have c2 := h.cells.c2
  have c4 := h.cells.c4
  rw [hoff] at c4
  have HD := Lib.hid hd; have HSV := Lib.hid h; have HEF := Lib.hid hEF; have HRB := Lib.hid hr; have HOFF := Lib.hid hoff; have HRF := Lib.hid hrF
  have H64 := Lib.hid h64; have HN := Lib.hid hN; have HB := Lib.hid hb; have HO := Lib.hid ho; have HLE := Lib.hid hl; have HC := Lib.hid hc; have HI2 := Lib.hid h.in2
  obtain ⟨N, hNN⟩ : ∃ N, N = d.good.length := ⟨_, rfl⟩
  have HLN : ∀ w', w' = w → Calls Try.prog 23 #[.pointer (some ⟨g, 0, none⟩)] w' fun e w'' => e = .returned (.int .i64 (N : Nat)) ∧ w' = w'' := fun w' e => by subst e; rw [hNN]; exact bLen_any HD.out
  have HLN := Lib.hid HLN
  have hb1 : ¬ ((20 * N : Nat) : Int) < (n : Int) := by rw [hNN]; omega
  have HR := Lib.hid (fun w => stRoom_big (n := N) w (by rw [hNN]; exact h64) (by rw [hNN]; omega))
  obtain ⟨R, hR⟩ : ∃ R : Nat, R = 20 * N := ⟨_, rfl⟩
  rw [← hR] at hb1 HR
  obtain ⟨i1, hi1⟩ : ∃ i1 : Nat, i1 = 1 - st.inn := ⟨_, rfl⟩
  have hi2 := h.in2
  have hiw : IntKind.i64.wrap (1 - (st.inn : Int)) = (i1 : Int) := by rw [IntKind.wrap_i64]; omega
  have HI1 := Lib.hid hi1
  have hpl : ∀ w', w' = w → Calls Try.prog 25 #[.pointer (some ⟨g, 0, none⟩), .int .i64 (i1 : Int), .int .i64 0] w' fun e w'' => e = .returned (.int .i64 (d.place i1 0 : Nat)) ∧ w' = w'' := fun w' e => by
    subst e
    exact stAt_any (k := 0) hd (by omega) (by omega) (by omega) (by omega)
  have HPL := Lib.hid hpl
  obtain ⟨k1, hk1⟩ : ∃ k1, k1 = d.place i1 0 := ⟨_, rfl⟩
  have HK1 := Lib.hid hk1
  have hw := stWrite_any (k := k1) (hd := hd) h hEF hr (by omega) (by
    have h1 := rows_fit (b := l) (d := d) (by rw [hr.hlen]; exact hb) h64
    rw [hk1]; unfold Bd.place Bd.half at *
    have : i1 = 0 ∨ i1 = 1 := by omega
    rcases this with e | e <;> rw [e] <;> omega) (by omega) (by omega) (by unfold rowsN; rw [hr.hlen]; omega) hl
  obtain ⟨cw, hc1⟩ : ∃ cw, cw = (d.bw k1 l).2 := ⟨_, rfl⟩
  obtain ⟨d1, hd1⟩ : ∃ d1, d1 = (d.bw k1 l).1 := ⟨_, rfl⟩
  have HC1 := Lib.hid hc1; have HD1E := Lib.hid hd1
  rw [← hc1, ← hd1] at hw
  have hw2 : ∀ w', w' = w → Calls Try.prog 24 #[.pointer (some ⟨s, 0, none⟩), .int .i64 (k1 : Int), .slice a n cap] w' fun e w'' => e = .returned (.int .i64 cw) ∧ ∃ F', Dv w'' g d1 F' ∧ Fr F w w'' ∧ ∀ x, F' x → F x ∨ w.heap.size ≤ x := fun w' e => by subst e; exact hw
  have HW := Lib.hid hw2
  rw [← hk1] at HPL
  have hi10 : (0 : Int) ≤ (i1 : Int) := by omega
  clear h hd hEF hr hrF h64 hN hb hoff ho hl hc hNN hR hi1 hi2 hpl hk1 hw hw2 hc1 hd1
  go_enter Try.func13, Try.ntmps13
  go_upto_region 9 with (first
    | (go_at_call 23; (with_reducible refine (HLN.out _ rfl).mono ?_); rintro e wz ⟨rfl, rfl⟩)
    | (go_at_call 18; (with_reducible refine (HR.out _).mono ?_); rintro e wz ⟨rfl, rfl⟩)
    | (go_at_call 25; (with_reducible refine (HPL.out _ rfl).mono ?_); rintro e wz ⟨rfl, rfl⟩)
    | (go_at_call 24; (with_reducible refine (HW.out _ rfl).mono ?_); rintro e w1 ⟨rfl, F1, hD1, hf1, hF1⟩; have HD1 := Lib.hid hD1; have HF1 := Lib.hid hf1; have HFF := Lib.hid hF1; clear hD1 hf1 hF1))
  have HS1 : Hid (Sv w1 s g st E) := Lib.hid (HSV.out.frame HF1.out HEF.out)
  have HSF : Hid (∀ x, E x → ¬ F1 x) := Lib.hid (fun x hx h => by
    rcases HFF.out x h with h | h
    · exact HEF.out x hx h
    · exact absurd (HSV.out.lt x hx) (Nat.not_lt.2 h))
  have HSVP : Hid (saveP d st l = if cw = 0 then (if (d1.bw 0 (markL i1 (st.cnt + 1) l.length)).2 = 0 then ((d1.bw 0 (markL i1 (st.cnt + 1) l.length)).1, ⟨i1, st.cnt + 1, l, false⟩, 0) else ((d1.bw 0 (markL i1 (st.cnt + 1) l.length)).1, { st with off := true }, (d1.bw 0 (markL i1 (st.cnt + 1) l.length)).2)) else (d1, { st with off := true }, cw)) := Lib.hid (by
    unfold saveP
    rw [if_neg (by rw [HRB.out.hlen]; have := HB.out; omega), if_neg (by rw [HOFF.out]; simp), ← HI1.out, ← HK1.out, ← HC1.out, ← HD1E.out])
  have c1b := HS1.out.cells.c1
  have c2b := HS1.out.cells.c2
  have c4b := HS1.out.cells.c4
  have c0b := HS1.out.cells.c0
  have frb := HS1.out.cells.fr
  clear c0 c1 c2 c4 hb1 hiw
  obtain ⟨x1, hx1⟩ : ∃ x : UInt64, x = UInt64.ofNat i1 := ⟨_, rfl⟩
  obtain ⟨x2, hx2⟩ : ∃ x : UInt64, x = UInt64.ofNat (st.cnt + 1) := ⟨_, rfl⟩
  obtain ⟨x3, hx3⟩ : ∃ x : UInt64, x = UInt64.ofNat n := ⟨_, rfl⟩
  have hn1 : n ≤ 20000 := by have := HB.out; have := HN.out; omega
  have hx1n : x1.toNat = i1 := by rw [hx1, UInt64.toNat_ofNat']; have := HI1.out; omega
  have hx2n : x2.toNat = st.cnt + 1 := by rw [hx2, UInt64.toNat_ofNat']; have := HC.out; omega
  have hx3n : x3.toNat = n := by rw [hx3, UInt64.toNat_ofNat']; omega
  obtain ⟨M, hM⟩ : ∃ M, M = markL i1 (st.cnt + 1) l.length := ⟨_, rfl⟩
  have hMe : M = signL ++ (be8 x1 ++ (be8 x2 ++ be8 x3)) := by rw [hM]; unfold markL beE be8; rw [hx1n, hx2n, hx3n, HRB.out.hlen]; simp [List.append_assoc]
  have HMF : Hid ([signL, be8 x1, be8 x2, be8 x3].flatten = M) := Lib.hid (by rw [hMe]; simp)
  have HML : Hid (M.length = 32) := Lib.hid (by rw [hM]; exact markL_len _ _ _)
  have HMS : Hid ([signL, be8 x1, be8 x2, be8 x3].flatten.length ≤ 70368744177664) := Lib.hid (by rw [HMF.out, HML.out]; omega)
  obtain ⟨cw2, hcw2⟩ : ∃ c, c = (d1.bw 0 M).2 := ⟨_, rfl⟩
  obtain ⟨dd2, hdd2⟩ : ∃ c, c = (d1.bw 0 M).1 := ⟨_, rfl⟩
  have HNR : Hid (d.Near d1 (rowsN l + 1)) := Lib.hid (by
    rw [HD1E.out]
    refine Bd.wr_near _ _ _ _ (pad64_len l) ?_
    have h1 := rows_fit (b := l) (d := d) (by rw [HRB.out.hlen]; exact HB.out) H64.out
    have h2 := HI1.out; have h3 := H64.out
    rw [HK1.out]; unfold Bd.place Bd.half at *
    have : i1 = 0 ∨ i1 = 1 := by omega
    rcases this with e | e <;> rw [e] <;> omega)
  have HWZ : Hid (∀ (W : World) (ac : Option Addr) (nc cc : Nat), Sv W s g st E → Dv W g d1 F1 → RdB W ac nc cc M → Calls Try.prog 24 #[.pointer (some ⟨s, 0, none⟩), .int .i64 0, .slice ac nc cc] W fun e w'' => e = .returned (.int .i64 cw2) ∧ ∃ F2, Dv w'' g dd2 F2 ∧ Fr F1 W w'' ∧ ∀ x, F2 x → F1 x ∨ W.heap.size ≤ x) := Lib.hid (fun W ac nc cc hS hD hr => by
    have hl := hr.hlen
    have hnr := HNR.out
    have h64 := H64.out; have hN := HN.out; have hO := HO.out
    have hrow : rowsN M = 1 := by unfold rowsN; rw [HML.out]
    have hrl : rowsN l ≤ 400 := by unfold rowsN; rw [HRB.out.hlen]; omega
    have h := stWrite_any (k := 0) hS hD HSF.out hr (by rw [← hl, HML.out]; omega) (by rw [hrow, hnr.len]; omega) (by rw [hnr.len]; omega) (by rw [hnr.len]; omega) (by have := hnr.ops; omega) (hnr.left HLE.out)
    rw [← hcw2, ← hdd2] at h
    exact h)
  have HCW2 := Lib.hid hcw2; have HDD2 := Lib.hid hdd2; have HM := Lib.hid hM
  have hx1w : IntKind.u64.wrap (i1 : Int) = (x1.toNat : Int) := by rw [IntKind.wrap_u64]; have := HI1.out; omega
  have hx2w : IntKind.u64.wrap ((st.cnt : Int) + 1) = (x2.toNat : Int) := by rw [IntKind.wrap_u64]; have := HC.out; omega
  have hx3w : IntKind.u64.wrap (n : Int) = (x3.toNat : Int) := by rw [IntKind.wrap_u64]; omega
  have hcw : IntKind.i64.wrap ((st.cnt : Int) + 1) = (st.cnt : Int) + 1 := by rw [IntKind.wrap_i64]; have := HC.out; omega
  have hcnt : (st.cnt : Int) < 1000000 := by have := HC.out; omega
  clear hx1 hx2 hx3 hx1n hx2n hx3n hM hMe hcw2 hdd2
  by_cases hc0 : cw = 0
  · subst hc0
    go_upto_region 10 with fail
    --@mark
    refine rgS 20 19 (F1) [(6, 20), (41, 0), (0, 1), (0, 2), (0, 3), (0, 4), (0, 5), (0, 6), (0, 7), (0, 8), (0, 9), (0, 10), (0, 11), (0, 12), (0, 13), (0, 14), (0, 15), (0, 16), (0, 17), (0, 18), (0, 19)] [kv (.pointer (some ⟨s, 0, none⟩)), (sgF signL), (rdF signL), kv (.int .i64 (i1 : Int)), kv (.int .u64 (x1.toNat : Int)), (rdF (be8 x1)), kv (.pointer (some ⟨s, 0, none⟩)), kv (.pointer (some ⟨s, 0, none⟩)), kv (.pointer (some ⟨s, 2, none⟩)), kv (.int .i64 ((st.cnt : Nat) : Int)), kv (.int .i64 (((st.cnt : Nat) : Int) + 1)), kv (.int .u64 (x2.toNat : Int)), (rdF (be8 x2)), kv (.slice a n cap), kv (.int .i64 (n : Int)), kv (.int .u64 (x3.toNat : Int)), (rdF (be8 x3)), (rows4F [signL, be8 x1, be8 x2, be8 x3]), (rdF M), (dvF cw2 g dd2)] [none, some 2, some 17, none, none, some 17, none, none, none, none, none, none, some 17, none, none, none, some 17, some 18, some 19, none] (fun v W => v = .int .i64 cw2 ∧ ∃ F2, Dv W g dd2 F2 ∧ (∀ x, F2 x → F1 x ∨ w1.heap.size ≤ x) ∧ Fr F1 w1 W) ?_ (fun u6 W6 hP hv => ?_)
    · refine ⟨?_, ?_, ?_, ?_, ?_, ?_, ?_, ?_, ?_, ?_, ?_, ?_, ?_, ?_, ?_, ?_, ?_, ?_, ?_, ?_, ?_, trivial⟩
      · refine ksP (fun x hx => HD1.out.lt x hx) (by omega) (.cons (c := 19) (by kernel_rfl) (.one (by kernel_rfl))) (by rfl) (fun L u W gh hc => ?_)
        have hb := hc.before (.inr (.one (by kernel_rfl)))
        go_simp
      · refine ksM (fun x hx => HD1.out.lt x hx) (by omega) (.cons (c := 19) (by kernel_rfl) (.cons (c := 18) (by kernel_rfl) (.cons (c := 17) (by kernel_rfl) (.cons (c := 2) (by kernel_rfl) (.one (by kernel_rfl)))))) (fun L u W gh hc => ?_)
        have hb := hc.before (.inr (.cons (c := 18) (by kernel_rfl) (.cons (c := 17) (by kernel_rfl) (.cons (c := 2) (by kernel_rfl) (.one (by kernel_rfl))))))
        exact ⟨_, _, fun x => x = W.heap.size, run_sign rfl (fun _ => rfl), (Fr.refl _ _).alloc _, ⟨W.heap.size, rfl, (by have h := Blk.new W (signL.map bV).toArray 5; rw [List.toList_toArray] at h; exact h), rfl⟩, fun x e => (by cases e), fun x hx => .inr (Nat.le_of_eq hx.symm), fun x hx => by subst hx; simp⟩
      · refine ksM (fun x hx => HD1.out.lt x hx) (by omega) (.cons (c := 19) (by kernel_rfl) (.cons (c := 18) (by kernel_rfl) (.cons (c := 17) (by kernel_rfl) (.one (by kernel_rfl))))) (fun L u W gh hc => ?_)
        have t1 := hc.fact 1 (by kernel_rfl) (by omega) (fun t ht => by cases ht; exact hc.free _ (.inl rfl))
        have f1 := hc.foot 1 (by kernel_rfl) (by omega) (fun t ht => by cases ht; exact hc.free _ (.inl rfl))
        have hb := hc.before (.inr (.cons (c := 18) (by kernel_rfl) (.cons (c := 17) (by kernel_rfl) (.one (by kernel_rfl)))))
        obtain ⟨q, eq1, hq, hSq⟩ := t1
        obtain ⟨fz', hq'⟩ := freeze_at (k := (signL.map bV).toArray.size) hq
        exact ⟨_, _, fun x => x = q, run_convB (by rfl) (by exact eq1) hq, (Fr.freeze _ _ _).mono (fun x hx => .inl ⟨1, by kernel_rfl, by omega, rfl, by cases hx; exact hSq⟩), ⟨_, _, _, rfl, heap_rd hq' (by unfold maxLen signL; simp), fun p hp => .inl (by cases hp; rfl)⟩, fun x e => (by cases e), fun x hx => .inl ⟨1, by kernel_rfl, by omega, rfl, by subst hx; exact hSq⟩, fun x hx => by subst hx; exact (Array.getElem?_eq_some_iff.1 hq').1⟩
      · refine ksP (fun x hx => HD1.out.lt x hx) (by omega) (.cons (c := 19) (by kernel_rfl) (.cons (c := 18) (by kernel_rfl) (.cons (c := 17) (by kernel_rfl) (.cons (c := 5) (by kernel_rfl) (.cons (c := 4) (by kernel_rfl) (.one (by kernel_rfl))))))) (by rfl) (fun L u W gh hc => ?_)
        have hb := hc.before (.inr (.cons (c := 18) (by kernel_rfl) (.cons (c := 17) (by kernel_rfl) (.cons (c := 5) (by kernel_rfl) (.cons (c := 4) (by kernel_rfl) (.one (by kernel_rfl)))))))
        go_simp
      · refine ksP (fun x hx => HD1.out.lt x hx) (by omega) (.cons (c := 19) (by kernel_rfl) (.cons (c := 18) (by kernel_rfl) (.cons (c := 17) (by kernel_rfl) (.cons (c := 5) (by kernel_rfl) (.one (by kernel_rfl)))))) (by rfl) (fun L u W gh hc => ?_)
        have e3 : u 3 = .int .i64 (i1 : Int) := hc.val 3 (by kernel_rfl) (by omega) _ rfl
        have hb := hc.before (.inr (.cons (c := 18) (by kernel_rfl) (.cons (c := 17) (by kernel_rfl) (.cons (c := 5) (by kernel_rfl) (.one (by kernel_rfl))))))
        go_simp
      · refine ksC (fun x hx => HD1.out.lt x hx) (by omega) (.cons (c := 19) (by kernel_rfl) (.cons (c := 18) (by kernel_rfl) (.cons (c := 17) (by kernel_rfl) (.one (by kernel_rfl))))) (fun L u W gh hc K hK => ?_)
        have e4 : u 4 = .int .u64 (x1.toNat : Int) := hc.val 4 (by kernel_rfl) (by omega) _ rfl
        have hb := hc.before (.inr (.cons (c := 18) (by kernel_rfl) (.cons (c := 17) (by kernel_rfl) (.one (by kernel_rfl)))))
        go_simp
        go_at_call 27
        (with_reducible refine (put64_any (x := x1) _).mono ?_); rintro e wz ⟨rfl, hB, hbz⟩
        have hrz : RdB wz (some ⟨W.heap.size, 0, none⟩) 8 8 (be8 x1) := RdB.blk (n := 8) (cap := 8) (l := be8 x1) [] (by rw [List.append_nil]; exact hB) (by unfold be8; rw [List.length_reverse, leB_len]) (by omega) (by unfold maxLen; omega)
        have hk9 := hK.out (.slice (some ⟨W.heap.size, 0, none⟩) 8 8) wz (fun x => x = W.heap.size) (Fr.of_below hbz) ⟨_, _, _, rfl, hrz, fun p hp => .inl (by cases hp; rfl)⟩ (fun x e => (by cases e)) (fun x hx => .inr (Nat.le_of_eq hx.symm)) (fun x hx => by subst hx; exact hB.lt)
        first | exact hk9 | (simp only [e4] at hk9; exact hk9)
      · refine ksP (fun x hx => HD1.out.lt x hx) (by omega) (.cons (c := 19) (by kernel_rfl) (.cons (c := 18) (by kernel_rfl) (.cons (c := 16) (by kernel_rfl) (.cons (c := 12) (by kernel_rfl) (.cons (c := 11) (by kernel_rfl) (.cons (c := 10) (by kernel_rfl) (.cons (c := 9) (by kernel_rfl) (.cons (c := 8) (by kernel_rfl) (.cons (c := 7) (by kernel_rfl) (.one (by kernel_rfl))))))))))) (by rfl) (fun L u W gh hc => ?_)
        have hb := hc.before (.inr (.cons (c := 18) (by kernel_rfl) (.cons (c := 16) (by kernel_rfl) (.cons (c := 12) (by kernel_rfl) (.cons (c := 11) (by kernel_rfl) (.cons (c := 10) (by kernel_rfl) (.cons (c := 9) (by kernel_rfl) (.cons (c := 8) (by kernel_rfl) (.cons (c := 7) (by kernel_rfl) (.one (by kernel_rfl)))))))))))
        go_simp
      · refine ksP (fun x hx => HD1.out.lt x hx) (by omega) (.cons (c := 19) (by kernel_rfl) (.cons (c := 18) (by kernel_rfl) (.cons (c := 16) (by kernel_rfl) (.cons (c := 12) (by kernel_rfl) (.cons (c := 11) (by kernel_rfl) (.cons (c := 10) (by kernel_rfl) (.cons (c := 9) (by kernel_rfl) (.cons (c := 8) (by kernel_rfl) (.one (by kernel_rfl)))))))))) (by rfl) (fun L u W gh hc => ?_)
        have e6 : u 6 = .pointer (some ⟨s, 0, none⟩) := hc.val 6 (by kernel_rfl) (by omega) _ rfl
        have hb := hc.before (.inr (.cons (c := 18) (by kernel_rfl) (.cons (c := 16) (by kernel_rfl) (.cons (c := 12) (by kernel_rfl) (.cons (c := 11) (by kernel_rfl) (.cons (c := 10) (by kernel_rfl) (.cons (c := 9) (by kernel_rfl) (.cons (c := 8) (by kernel_rfl) (.one (by kernel_rfl))))))))))
        go_simp
      · refine ksP (fun x hx => HD1.out.lt x hx) (by omega) (.cons (c := 19) (by kernel_rfl) (.cons (c := 18) (by kernel_rfl) (.cons (c := 16) (by kernel_rfl) (.cons (c := 12) (by kernel_rfl) (.cons (c := 11) (by kernel_rfl) (.cons (c := 10) (by kernel_rfl) (.cons (c := 9) (by kernel_rfl) (.one (by kernel_rfl))))))))) (by rfl) (fun L u W gh hc => ?_)
        have e7 : u 7 = .pointer (some ⟨s, 0, none⟩) := hc.val 7 (by kernel_rfl) (by omega) _ rfl
        have hb := hc.before (.inr (.cons (c := 18) (by kernel_rfl) (.cons (c := 16) (by kernel_rfl) (.cons (c := 12) (by kernel_rfl) (.cons (c := 11) (by kernel_rfl) (.cons (c := 10) (by kernel_rfl) (.cons (c := 9) (by kernel_rfl) (.one (by kernel_rfl)))))))))
        go_simp
      · refine ksP (fun x hx => HD1.out.lt x hx) (by omega) (.cons (c := 19) (by kernel_rfl) (.cons (c := 18) (by kernel_rfl) (.cons (c := 16) (by kernel_rfl) (.cons (c := 12) (by kernel_rfl) (.cons (c := 11) (by kernel_rfl) (.cons (c := 10) (by kernel_rfl) (.one (by kernel_rfl)))))))) (by rfl) (fun L u W gh hc => ?_)
        have e8 : u 8 = .pointer (some ⟨s, 2, none⟩) := hc.val 8 (by kernel_rfl) (by omega) _ rfl
        have hb := hc.before (.inr (.cons (c := 18) (by kernel_rfl) (.cons (c := 16) (by kernel_rfl) (.cons (c := 12) (by kernel_rfl) (.cons (c := 11) (by kernel_rfl) (.cons (c := 10) (by kernel_rfl) (.one (by kernel_rfl))))))))
        have hcx := (hb.cell (p := ⟨s, 2, none⟩) (cell_lt c2b)).trans c2b
        go_simp
      · refine ksP (fun x hx => HD1.out.lt x hx) (by omega) (.cons (c := 19) (by kernel_rfl) (.cons (c := 18) (by kernel_rfl) (.cons (c := 16) (by kernel_rfl) (.cons (c := 12) (by kernel_rfl) (.cons (c := 11) (by kernel_rfl) (.one (by kernel_rfl))))))) (by rfl) (fun L u W gh hc => ?_)
        have e9 : u 9 = .int .i64 ((st.cnt : Nat) : Int) := hc.val 9 (by kernel_rfl) (by omega) _ rfl
        have hb := hc.before (.inr (.cons (c := 18) (by kernel_rfl) (.cons (c := 16) (by kernel_rfl) (.cons (c := 12) (by kernel_rfl) (.cons (c := 11) (by kernel_rfl) (.one (by kernel_rfl)))))))
        go_simp
      · refine ksP (fun x hx => HD1.out.lt x hx) (by omega) (.cons (c := 19) (by kernel_rfl) (.cons (c := 18) (by kernel_rfl) (.cons (c := 16) (by kernel_rfl) (.cons (c := 12) (by kernel_rfl) (.one (by kernel_rfl)))))) (by rfl) (fun L u W gh hc => ?_)
        have e10 : u 10 = .int .i64 (((st.cnt : Nat) : Int) + 1) := hc.val 10 (by kernel_rfl) (by omega) _ rfl
        have hb := hc.before (.inr (.cons (c := 18) (by kernel_rfl) (.cons (c := 16) (by kernel_rfl) (.cons (c := 12) (by kernel_rfl) (.one (by kernel_rfl))))))
        go_simp
      · refine ksC (fun x hx => HD1.out.lt x hx) (by omega) (.cons (c := 19) (by kernel_rfl) (.cons (c := 18) (by kernel_rfl) (.cons (c := 16) (by kernel_rfl) (.one (by kernel_rfl))))) (fun L u W gh hc K hK => ?_)
        have t5 := hc.fact 5 (by kernel_rfl) (by omega) (fun t ht => by cases ht; exact hc.free _ (.inr (.one (by kernel_rfl))))
        have f5 := hc.foot 5 (by kernel_rfl) (by omega) (fun t ht => by cases ht; exact hc.free _ (.inr (.one (by kernel_rfl))))
        have e11 : u 11 = .int .u64 (x2.toNat : Int) := hc.val 11 (by kernel_rfl) (by omega) _ rfl
        have hb := hc.before (.inr (.cons (c := 18) (by kernel_rfl) (.cons (c := 16) (by kernel_rfl) (.one (by kernel_rfl)))))
        go_simp
        go_at_call 27
        (with_reducible refine (put64_any (x := x2) _).mono ?_); rintro e wz ⟨rfl, hB, hbz⟩
        have hrz : RdB wz (some ⟨W.heap.size, 0, none⟩) 8 8 (be8 x2) := RdB.blk (n := 8) (cap := 8) (l := be8 x2) [] (by rw [List.append_nil]; exact hB) (by unfold be8; rw [List.length_reverse, leB_len]) (by omega) (by unfold maxLen; omega)
        have hk9 := hK.out (.slice (some ⟨W.heap.size, 0, none⟩) 8 8) wz (fun x => x = W.heap.size) (Fr.of_below hbz) ⟨_, _, _, rfl, hrz, fun p hp => .inl (by cases hp; rfl)⟩ (fun x e => (by cases e)) (fun x hx => .inr (Nat.le_of_eq hx.symm)) (fun x hx => by subst hx; exact hB.lt)
        first | exact hk9 | (simp only [e11] at hk9; exact hk9)
      · refine ksP (fun x hx => HD1.out.lt x hx) (by omega) (.cons (c := 19) (by kernel_rfl) (.cons (c := 18) (by kernel_rfl) (.cons (c := 16) (by kernel_rfl) (.cons (c := 15) (by kernel_rfl) (.cons (c := 14) (by kernel_rfl) (.one (by kernel_rfl))))))) (by rfl) (fun L u W gh hc => ?_)
        have hb := hc.before (.inr (.cons (c := 18) (by kernel_rfl) (.cons (c := 16) (by kernel_rfl) (.cons (c := 15) (by kernel_rfl) (.cons (c := 14) (by kernel_rfl) (.one (by kernel_rfl)))))))
        go_simp
      · refine ksP (fun x hx => HD1.out.lt x hx) (by omega) (.cons (c := 19) (by kernel_rfl) (.cons (c := 18) (by kernel_rfl) (.cons (c := 16) (by kernel_rfl) (.cons (c := 15) (by kernel_rfl) (.one (by kernel_rfl)))))) (by rfl) (fun L u W gh hc => ?_)
        have e13 : u 13 = .slice a n cap := hc.val 13 (by kernel_rfl) (by omega) _ rfl
        have hb := hc.before (.inr (.cons (c := 18) (by kernel_rfl) (.cons (c := 16) (by kernel_rfl) (.cons (c := 15) (by kernel_rfl) (.one (by kernel_rfl))))))
        go_simp
      · refine ksP (fun x hx => HD1.out.lt x hx) (by omega) (.cons (c := 19) (by kernel_rfl) (.cons (c := 18) (by kernel_rfl) (.cons (c := 16) (by kernel_rfl) (.one (by kernel_rfl))))) (by rfl) (fun L u W gh hc => ?_)
        have e14 : u 14 = .int .i64 (n : Int) := hc.val 14 (by kernel_rfl) (by omega) _ rfl
        have hb := hc.before (.inr (.cons (c := 18) (by kernel_rfl) (.cons (c := 16) (by kernel_rfl) (.one (by kernel_rfl)))))
        go_simp
      · refine ksC (fun x hx => HD1.out.lt x hx) (by omega) (.cons (c := 19) (by kernel_rfl) (.cons (c := 18) (by kernel_rfl) (.one (by kernel_rfl)))) (fun L u W gh hc K hK => ?_)
        have t12 := hc.fact 12 (by kernel_rfl) (by omega) (fun t ht => by cases ht; exact hc.free _ (.inr (.one (by kernel_rfl))))
        have f12 := hc.foot 12 (by kernel_rfl) (by omega) (fun t ht => by cases ht; exact hc.free _ (.inr (.one (by kernel_rfl))))
        have e15 : u 15 = .int .u64 (x3.toNat : Int) := hc.val 15 (by kernel_rfl) (by omega) _ rfl
        have hb := hc.before (.inr (.cons (c := 18) (by kernel_rfl) (.one (by kernel_rfl))))
        go_simp
        go_at_call 27
        (with_reducible refine (put64_any (x := x3) _).mono ?_); rintro e wz ⟨rfl, hB, hbz⟩
        have hrz : RdB wz (some ⟨W.heap.size, 0, none⟩) 8 8 (be8 x3) := RdB.blk (n := 8) (cap := 8) (l := be8 x3) [] (by rw [List.append_nil]; exact hB) (by unfold be8; rw [List.length_reverse, leB_len]) (by omega) (by unfold maxLen; omega)
        have hk9 := hK.out (.slice (some ⟨W.heap.size, 0, none⟩) 8 8) wz (fun x => x = W.heap.size) (Fr.of_below hbz) ⟨_, _, _, rfl, hrz, fun p hp => .inl (by cases hp; rfl)⟩ (fun x e => (by cases e)) (fun x hx => .inr (Nat.le_of_eq hx.symm)) (fun x hx => by subst hx; exact hB.lt)
        first | exact hk9 | (simp only [e15] at hk9; exact hk9)
      · refine ksM (fun x hx => HD1.out.lt x hx) (by omega) (.cons (c := 19) (by kernel_rfl) (.cons (c := 18) (by kernel_rfl) (.one (by kernel_rfl)))) (fun L u W gh hc => ?_)
        have t2 := hc.fact 2 (by kernel_rfl) (by omega) (fun t ht => by cases ht; exact hc.free _ (.inl rfl))
        have f2 := hc.foot 2 (by kernel_rfl) (by omega) (fun t ht => by cases ht; exact hc.free _ (.inl rfl))
        have t5 := hc.fact 5 (by kernel_rfl) (by omega) (fun t ht => by cases ht; exact hc.free _ (.inl rfl))
        have f5 := hc.foot 5 (by kernel_rfl) (by omega) (fun t ht => by cases ht; exact hc.free _ (.inl rfl))
        have t12 := hc.fact 12 (by kernel_rfl) (by omega) (fun t ht => by cases ht; exact hc.free _ (.inl rfl))
        have f12 := hc.foot 12 (by kernel_rfl) (by omega) (fun t ht => by cases ht; exact hc.free _ (.inl rfl))
        have t16 := hc.fact 16 (by kernel_rfl) (by omega) (fun t ht => by cases ht; exact hc.free _ (.inl rfl))
        have f16 := hc.foot 16 (by kernel_rfl) (by omega) (fun t ht => by cases ht; exact hc.free _ (.inl rfl))
        have hb := hc.before (.inr (.cons (c := 18) (by kernel_rfl) (.one (by kernel_rfl))))
        obtain ⟨a2, n2, k2, e2, _⟩ := id t2
        obtain ⟨a5, n5, k5, e5, _⟩ := id t5
        obtain ⟨a12, n12, k12, e12, _⟩ := id t12
        obtain ⟨a16, n16, k16, e16, _⟩ := id t16
        have hO : ∀ {j v l}, RdZ (zone F1 w1.heap.size) (gh j) v W l → (∀ x, gh j x → gh 2 x ∨ gh 5 x ∨ gh 12 x ∨ gh 16 x ∨ x = W.heap.size) → RdZ (zone F1 w1.heap.size) (fun x => gh 2 x ∨ gh 5 x ∨ gh 12 x ∨ gh 16 x ∨ x = W.heap.size) v (W.alloc (.cells #[u 2, u 5, u 12, u 16] 28)) l := fun {j v l} h hj => by
          obtain ⟨a, n, c, e, hr, hp⟩ := h
          exact ⟨a, n, c, e, hr.below ((Below.refl _ _).alloc (Nat.le_refl _) _), fun p hp2 => (hp p hp2).imp (hj _) id⟩
        refine ⟨_, _, fun x => gh 2 x ∨ gh 5 x ∨ gh 12 x ∨ gh 16 x ∨ x = W.heap.size, run_new4 (v0 := u 2) (v1 := u 5) (v2 := u 12) (v3 := u 16) rfl rfl rfl rfl rfl (by rw [e2]; rfl) (by rw [e5]; rfl) (by rw [e12]; rfl) (by rw [e16]; rfl), (Fr.refl _ _).alloc _, ⟨W.heap.size, [u 2, u 5, u 12, u 16], rfl, by unfold maxLen; simp, .inr (.inr (.inr (.inr rfl))), rfl, fun i y hy => ?_, fun i y l hy hl => ?_⟩, fun x e => (by cases e), fun x hx => ?_, fun x hx => ?_⟩
        · have hB := Blk.new W #[u 2, u 5, u 12, u 16] 28
          rw [hB.cell]; exact hy
        · have h4 : i < 4 := by have := (List.getElem?_eq_some_iff.1 hy).1; simpa using this
          rcases i with _ | _ | _ | _ | i
          · simp at hy hl; subst hy; subst hl; exact hO (j := 2) t2 (fun x hx => .inl hx)
          · simp at hy hl; subst hy; subst hl; exact hO (j := 5) t5 (fun x hx => .inr (.inl hx))
          · simp at hy hl; subst hy; subst hl; exact hO (j := 12) t12 (fun x hx => .inr (.inr (.inl hx)))
          · simp at hy hl; subst hy; subst hl; exact hO (j := 16) t16 (fun x hx => .inr (.inr (.inr (.inl hx))))
          · omega
        · rcases hx with h | h | h | h | h
          · exact .inl ⟨2, by kernel_rfl, by omega, rfl, h⟩
          · exact .inl ⟨5, by kernel_rfl, by omega, rfl, h⟩
          · exact .inl ⟨12, by kernel_rfl, by omega, rfl, h⟩
          · exact .inl ⟨16, by kernel_rfl, by omega, rfl, h⟩
          · exact .inr (Nat.le_of_eq h.symm)
        · rcases hx with h | h | h | h | rfl
          · have := (f2 x h).2; simp; omega
          · have := (f5 x h).2; simp; omega
          · have := (f12 x h).2; simp; omega
          · have := (f16 x h).2; simp; omega
          · simp
      · refine ksC (fun x hx => HD1.out.lt x hx) (by omega) (.cons (c := 19) (by kernel_rfl) (.one (by kernel_rfl))) (fun L u W gh hc K hK => ?_)
        have t17 := hc.fact 17 (by kernel_rfl) (by omega) (fun t ht => by cases ht; exact hc.free _ (.inl rfl))
        have f17 := hc.foot 17 (by kernel_rfl) (by omega) (fun t ht => by cases ht; exact hc.free _ (.inl rfl))
        have hb := hc.before (.inr (.one (by kernel_rfl)))
        obtain ⟨ar, er, hrr⟩ := rows4_rd t17
        have er : u 17 = .slice ar 4 4 := er
        have hrr : RdRows W ar 4 4 [signL, be8 x1, be8 x2, be8 x3] := hrr
        go_simp
        go_at_call 26
        (with_reducible refine (cat_any _ hrr HMS.out).mono ?_); rintro e wz ⟨v, rfl, ho, hbz⟩
        obtain ⟨ac, cc, ev, hrc, hpc⟩ := own_rdw ho
        rw [HMF.out] at hrc ev
        have hk9 := hK.out v wz (fun x => ∃ p, ac = some p ∧ x = p.block) (Fr.of_below hbz) ⟨_, _, _, ev, hrc, fun p hp => .inl ⟨p, hp, rfl⟩⟩ (fun x e => (by cases e)) (fun x ⟨p, hp, hx⟩ => .inr (by rw [hx]; exact (hpc p hp).1)) (fun x ⟨p, hp, hx⟩ => by rw [hx]; exact (hpc p hp).2)
        first | exact hk9 | (simp only [er] at hk9; exact hk9)
      · refine ksWC (fun x hx => HD1.out.lt x hx) (by omega) (.one (by kernel_rfl)) rfl (fun L u W gh hc hb K hK => ?_)
        have e0 : u 0 = .pointer (some ⟨s, 0, none⟩) := hc.val 0 (by kernel_rfl) (by omega) _ rfl
        have t18 := hc.fact 18 (by kernel_rfl) (by omega) (fun t ht => by cases ht; exact hc.free _ (.inl rfl))
        obtain ⟨ac, nc, cc, ec, hrc, hpc⟩ := t18
        have hnc := hrc.hlen
        go_simp
        go_at_call 24
        (with_reducible refine (HWZ.out _ _ _ _ (HS1.out.later hb) (HD1.out.later hb) hrc).mono ?_); rintro e wz ⟨rfl, F2, hD2, hf2, hF2⟩
        have hk9 := hK.out (.int .i64 cw2) wz F2 (hf2.mono (fun x hx => .inl (.inl hx))) ⟨rfl, F2, hD2, fun _ h => h⟩ (fun x e => (by cases e; rfl)) (fun x hx => (hF2 x hx).imp id .inr) (fun x hx => hD2.lt x hx)
        first | exact hk9 | (simp only [e0, ec] at hk9; exact hk9)
      · refine ksL fun L u W gh hc => ?_
        have t19 := hc.fact 19 (by kernel_rfl) (by omega) (fun t ht => by cases ht)
        have f19 := hc.foot 19 (by kernel_rfl) (by omega) (fun t ht => by cases ht)
        obtain ⟨e19, F2, hD2, hF2⟩ := t19
        exact ⟨_, .int .i64 cw2, W, run_assignW rfl (by exact e19), .inr rfl, rfl, F2, hD2, fun x hx => ((f19 x (hF2 x hx)).1).elim .inr (fun h => .inl h.1), hc.fr⟩
    --@endmark
    obtain ⟨hv20, F2, hD2, hF2, hf2⟩ := hP
    have HD2 := Lib.hid hD2; have HFF2 := Lib.hid hF2; have HF2 := Lib.hid hf2
    have HS2 : Hid (Sv W6 s g st E) := Lib.hid (HS1.out.frame hf2 HSF.out)
    have HSF2 : Hid (∀ x, E x → ¬ F2 x) := Lib.hid (fun x hx h => by
      rcases hF2 x h with h | h
      · exact HSF.out x hx h
      · exact absurd (HS1.out.lt x hx) (Nat.not_lt.2 h))
    have HFE : Hid (∀ x, F2 x → F x ∨ w.heap.size ≤ x) := Lib.hid (fun x hx => by
      have := HF1.out.size
      rcases hF2 x hx with h | h
      · exact HFF.out x h
      · exact .inr (by omega))
    have HFR0 : Hid (Fr F w W6) := Lib.hid (HF1.out.trans hf2 (fun x hx => HFF.out x hx))
    have HFR : Hid (Fr (fun x => x = s ∨ F x) w W6) := Lib.hid (((HF1.out).trans hf2 (fun x hx => HFF.out x hx)).mono (fun x hx => .inl (.inr hx)))
    clear hD2 hF2 hf2 hv c0b c1b c2b c4b frb
    have c0d := HS2.out.cells.c0
    have c1d := HS2.out.cells.c1
    have c2d := HS2.out.cells.c2
    have c4d := HS2.out.cells.c4
    have frd := HS2.out.cells.fr
    by_cases hc2 : cw2 = 0
    · subst hc2
      go_upto_region 14 with fail
      obtain ⟨wB, rfl⟩ : ∃ wB : World, wB = W6 := ⟨_, rfl⟩
      have HRW : Hid (RdB wB a n cap l) := Lib.hid (HRB.out.frame HFR0.out HRF.out)
      have HNC : Hid (n ≤ 70368744177664) := Lib.hid (by omega)
      have HST : Hid (∀ W0, Below wB.heap.size wB W0 → (∃ v, W0.cell? ⟨s, 1, none⟩ = some v) ∧ (∃ v, W0.cell? ⟨s, 2, none⟩ = some v) ∧ (∃ v, W0.cell? ⟨s, 3, none⟩ = some v) ∧ ∀ i, W0.frozen? ⟨s, i, none⟩ = false) := Lib.hid (fun W0 hb0 => by
        have c := (HS2.out.later hb0).cells
        obtain ⟨a3, k3, e3, _⟩ := c.c3
        exact ⟨⟨_, c.c1⟩, ⟨_, c.c2⟩, ⟨_, e3⟩, c.fr⟩)
      --@end14
      let Pj : Nat → Value → World → Prop := fun j v W => match j with
        | 0 => Below wB.heap.size wB W
        | 1 => ∃ W0, Below wB.heap.size wB W0 ∧ W0.ownsRow wB.heap.size 5 1 v n (l.map bV) ∧ W = W0
        | 2 => ∃ W0, Below wB.heap.size wB W0 ∧ W0.ownsRow wB.heap.size 5 1 v n (l.map bV) ∧ W = W0.setCell ⟨s, 1, none⟩ (.int .i64 (i1 : Int))
        | 3 => ∃ W0, Below wB.heap.size wB W0 ∧ W0.ownsRow wB.heap.size 5 1 v n (l.map bV) ∧ W = (W0.setCell ⟨s, 1, none⟩ (.int .i64 (i1 : Int))).setCell ⟨s, 2, none⟩ (.int .i64 (((st.cnt : Nat) : Int) + 1))
        | _ => ∃ W0, Below wB.heap.size wB W0 ∧ W0.ownsRow wB.heap.size 5 1 v n (l.map bV) ∧ W = ((W0.setCell ⟨s, 1, none⟩ (.int .i64 (i1 : Int))).setCell ⟨s, 2, none⟩ (.int .i64 (((st.cnt : Nat) : Int) + 1))).setCell ⟨s, 3, none⟩ v
      refine rgR 20 [(74, 0), (0, 1), (0, 2), (0, 3), (0, 4), (0, 5), (0, 6), (0, 7), (0, 8), (0, 9), (0, 10), (0, 11), (0, 12), (0, 14), (0, 15), (0, 17), (0, 18)] [.pointer (some ⟨s, 0, none⟩), .pointer (some ⟨s, 0, none⟩), .pointer (some ⟨s, 0, none⟩), .int .i64 (i1 : Int), .pointer (some ⟨s, 0, none⟩), .pointer (some ⟨s, 0, none⟩), .pointer (some ⟨s, 2, none⟩), .int .i64 ((st.cnt : Nat) : Int), .int .i64 (((st.cnt : Nat) : Int) + 1), .slice a n cap, undef, .pointer (some ⟨s, 0, none⟩), .pointer (some ⟨s, 1, none⟩), undef, .pointer (some ⟨s, 0, none⟩), .pointer (some ⟨s, 2, none⟩), undef, .pointer (some ⟨s, 0, none⟩), .pointer (some ⟨s, 3, none⟩), undef] [10, 13, 16, 19] 10 Pj (fun v => (Below.refl _ _).drew) (by intro k hk; simp at hk; omega) ?_ (fun u9 W9 hP hv => ?_)
      · refine ⟨?_, ?_, ?_, ?_, ?_, ?_, ?_, ?_, ?_, ?_, ?_, ?_, ?_, ?_, ?_, ?_, ?_, ?_, ?_, ?_, trivial⟩
        · refine krP (by decide) (by decide) fun u W j hP h1 h2 hu => ?_
          clear hP h1 h2
          go_simp
        · refine krP (by decide) (by decide) fun u W j hP h1 h2 hu => ?_
          clear hP h1 h2
          go_simp
        · refine krP (by decide) (by decide) fun u W j hP h1 h2 hu => ?_
          clear hP h1 h2
          go_simp
        · refine krP (by decide) (by decide) fun u W j hP h1 h2 hu => ?_
          clear hP h1 h2
          go_simp
        · refine krP (by decide) (by decide) fun u W j hP h1 h2 hu => ?_
          clear hP h1 h2
          go_simp
        · refine krP (by decide) (by decide) fun u W j hP h1 h2 hu => ?_
          have e4 : u 4 = .pointer (some ⟨s, 0, none⟩) := hu 4 (by kernel_rfl) (by omega)
          clear hP h1 h2
          go_simp
        · refine krP (by decide) (by decide) fun u W j hP h1 h2 hu => ?_
          have e5 : u 5 = .pointer (some ⟨s, 0, none⟩) := hu 5 (by kernel_rfl) (by omega)
          clear hP h1 h2
          go_simp
        · refine krP (by decide) (by decide) fun u W j hP h1 h2 hu => ?_
          have e6 : u 6 = .pointer (some ⟨s, 2, none⟩) := hu 6 (by kernel_rfl) (by omega)
          have hj : j = 0 ∨ j = 1 := by have := h2 1 13 rfl (.one (by kernel_rfl)); omega
          have hbj : Below wB.heap.size wB W := by
            rcases hj with rfl | rfl
            · exact hP
            · obtain ⟨W0, h, _, rfl⟩ := hP; exact h
          have hcx := (hbj.cell (p := ⟨s, 2, none⟩) (cell_lt c2d)).trans c2d
          clear hP h1 h2 hj
          go_simp
        · refine krP (by decide) (by decide) fun u W j hP h1 h2 hu => ?_
          have e7 : u 7 = .int .i64 ((st.cnt : Nat) : Int) := hu 7 (by kernel_rfl) (by omega)
          clear hP h1 h2
          go_simp
        · refine krP (by decide) (by decide) fun u W j hP h1 h2 hu => ?_
          clear hP h1 h2
          go_simp
        · refine krC (t := 0) rfl (by decide) (fun s k hs hk => ?_) (fun u W hP hu K hK => ?_)
          · omega
          have e9 : u 9 = .slice a n cap := hu 9 (by kernel_rfl) (by omega)
          have hb : Below wB.heap.size wB W := hP
          go_simp
          go_at_call 28
          (with_reducible refine (clone_own _ (HRW.out.below hb) HNC.out).mono ?_); rintro e wz ⟨v, rfl, hown, hbz⟩
          have hk9 := hK.out v wz (fun h => absurd rfl h) ⟨wz, hb.trans (hbz.mono hb.size), own_low hown hb.size, rfl⟩
          first | exact hk9 | (simp only [e9, hv20] at hk9; exact hk9)
        · refine krP (by decide) (by decide) fun u W j hP h1 h2 hu => ?_
          have e0 : u 0 = .pointer (some ⟨s, 0, none⟩) := hu 0 (by kernel_rfl) (by omega)
          clear hP h1 h2
          go_simp
        · refine krP (by decide) (by decide) fun u W j hP h1 h2 hu => ?_
          have e11 : u 11 = .pointer (some ⟨s, 0, none⟩) := hu 11 (by kernel_rfl) (by omega)
          clear hP h1 h2
          go_simp
        · refine krC (t := 1) rfl (by decide) (fun s k hs hk => ?_) (fun u W hP hu K hK => ?_)
          · have h9 : s = 0 := by omega
            subst h9; cases hk; exact (.one (by kernel_rfl))
          have e3 : u 3 = .int .i64 (i1 : Int) := hu 3 (by kernel_rfl) (by omega)
          have e7 : u 7 = .int .i64 ((st.cnt : Nat) : Int) := hu 7 (by kernel_rfl) (by omega)
          have e12 : u 12 = .pointer (some ⟨s, 1, none⟩) := hu 12 (by kernel_rfl) (by omega)
          obtain ⟨W0, hb0, hown, hW⟩ : ∃ W0, Below wB.heap.size wB W0 ∧ W0.ownsRow wB.heap.size 5 1 (u 10) n (l.map bV) ∧ W = W0 := hP
          obtain ⟨⟨z1, h1c⟩, ⟨z2, h2c⟩, ⟨z3, h3c⟩, hfz⟩ := HST.out W0 hb0
          subst hW
          go_simp
          have hk9 := fun w' (h : Pj 2 (u 10) w') => hK.out undef w' (fun _ => rfl) (by rw [if_neg (by decide)]; exact h)
          first | exact hk9 _ ⟨_, hb0, (by first | exact hown | (rw [← ev]; exact hown)), by first | rfl | rw [ev]⟩ | (simp only [e3, e7, e12, hv20] at hk9; exact hk9 _ ⟨_, hb0, (by first | exact hown | (rw [← ev]; exact hown)), by first | rfl | rw [ev]⟩)
        · refine krP (by decide) (by decide) fun u W j hP h1 h2 hu => ?_
          have e1 : u 1 = .pointer (some ⟨s, 0, none⟩) := hu 1 (by kernel_rfl) (by omega)
          clear hP h1 h2
          go_simp
        · refine krP (by decide) (by decide) fun u W j hP h1 h2 hu => ?_
          have e14 : u 14 = .pointer (some ⟨s, 0, none⟩) := hu 14 (by kernel_rfl) (by omega)
          clear hP h1 h2
          go_simp
        · refine krC (t := 2) rfl (by decide) (fun s k hs hk => ?_) (fun u W hP hu K hK => ?_)
          · have h9 : s = 0 ∨ s = 1 := by omega
            rcases h9 with rfl | rfl
            · cases hk; exact (.cons (c := 13) (by kernel_rfl) (.one (by kernel_rfl)))
            · cases hk; exact (.one (by kernel_rfl))
          have e8 : u 8 = .int .i64 (((st.cnt : Nat) : Int) + 1) := hu 8 (by kernel_rfl) (by omega)
          have e15 : u 15 = .pointer (some ⟨s, 2, none⟩) := hu 15 (by kernel_rfl) (by omega)
          obtain ⟨W0, hb0, hown, hW⟩ : ∃ W0, Below wB.heap.size wB W0 ∧ W0.ownsRow wB.heap.size 5 1 (u 10) n (l.map bV) ∧ W = W0.setCell ⟨s, 1, none⟩ (.int .i64 (i1 : Int)) := hP
          obtain ⟨⟨z1, h1c⟩, ⟨z2, h2c⟩, ⟨z3, h3c⟩, hfz⟩ := HST.out W0 hb0
          subst hW
          go_simp
          have hk9 := fun w' (h : Pj 3 (u 10) w') => hK.out undef w' (fun _ => rfl) (by rw [if_neg (by decide)]; exact h)
          first | exact hk9 _ ⟨_, hb0, (by first | exact hown | (rw [← ev]; exact hown)), by first | rfl | rw [ev]⟩ | (simp only [e8, e15, hv20] at hk9; exact hk9 _ ⟨_, hb0, (by first | exact hown | (rw [← ev]; exact hown)), by first | rfl | rw [ev]⟩)
        · refine krP (by decide) (by decide) fun u W j hP h1 h2 hu => ?_
          have e2 : u 2 = .pointer (some ⟨s, 0, none⟩) := hu 2 (by kernel_rfl) (by omega)
          clear hP h1 h2
          go_simp
        · refine krP (by decide) (by decide) fun u W j hP h1 h2 hu => ?_
          have e17 : u 17 = .pointer (some ⟨s, 0, none⟩) := hu 17 (by kernel_rfl) (by omega)
          clear hP h1 h2
          go_simp
        · refine krC (t := 3) rfl (by decide) (fun s k hs hk => ?_) (fun u W hP hu K hK => ?_)
          · have h9 : s = 0 ∨ s = 1 ∨ s = 2 := by omega
            rcases h9 with rfl | rfl | rfl
            · cases hk; exact (.one (by kernel_rfl))
            · cases hk; exact (.cons (c := 16) (by kernel_rfl) (.one (by kernel_rfl)))
            · cases hk; exact (.one (by kernel_rfl))
          have e18 : u 18 = .pointer (some ⟨s, 3, none⟩) := hu 18 (by kernel_rfl) (by omega)
          obtain ⟨W0, hb0, hown, hW⟩ : ∃ W0, Below wB.heap.size wB W0 ∧ W0.ownsRow wB.heap.size 5 1 (u 10) n (l.map bV) ∧ W = (W0.setCell ⟨s, 1, none⟩ (.int .i64 (i1 : Int))).setCell ⟨s, 2, none⟩ (.int .i64 (((st.cnt : Nat) : Int) + 1)) := hP
          obtain ⟨⟨z1, h1c⟩, ⟨z2, h2c⟩, ⟨z3, h3c⟩, hfz⟩ := HST.out W0 hb0
          obtain ⟨av, cv, ev⟩ := own_shape hown
          subst hW
          go_simp
          have hk9 := fun w' (h : Pj 4 (u 10) w') => hK.out undef w' (fun _ => rfl) (by rw [if_neg (by decide)]; exact h)
          first | exact hk9 _ ⟨_, hb0, (by first | exact hown | (rw [← ev]; exact hown)), by first | rfl | rw [ev]⟩ | (simp only [e18, ev, hv20] at hk9; exact hk9 _ ⟨_, hb0, (by first | exact hown | (rw [← ev]; exact hown)), by first | rfl | rw [ev]⟩)
      --@endend14
      obtain ⟨W0, hb0, hown, hW⟩ : ∃ W0, Below wB.heap.size wB W0 ∧ W0.ownsRow wB.heap.size 5 1 (u9 10) n (l.map bV) ∧ W9 = ((W0.setCell ⟨s, 1, none⟩ (.int .i64 (i1 : Int))).setCell ⟨s, 2, none⟩ (.int .i64 (((st.cnt : Nat) : Int) + 1))).setCell ⟨s, 3, none⟩ (u9 10) := hP
      have HB0 := Lib.hid hb0; have HOWN := Lib.hid hown; have HWE := Lib.hid hW
      clear hb0 hown hW hv
      go_wp2
      go_ret
      have hs9 : saveP d st l = (dd2, ⟨i1, st.cnt + 1, l, false⟩, 0) := by
        rw [HSVP.out, ← HM.out, if_pos trivial, ← HDD2.out]
        exact if_pos HCW2.out.symm
      rw [hs9]
      refine ⟨rfl, fun x => x = s ∨ (wB.heap.size ≤ x ∧ x < W0.heap.size), F2, ?_, ?_, ?_, ?_, HFE.out, ?_⟩
      · rw [HWE.out]
        exact (HS2.out.later HB0.out).saved HOWN.out HRB.out.hlen (HS2.out.lt s HS2.out.own) (by have := HI1.out; omega) HC.out (by have := HB.out; have := HN.out; omega) HOFF.out
      · rw [HWE.out]
        have hsF := HSF2.out s HSV.out.own
        exact (((HD2.out.later HB0.out).setS hsF).setS hsF).setS hsF
      · intro x hx h
        rcases hx with rfl | hx
        · exact HSF2.out _ HSV.out.own h
        · exact absurd (HD2.out.lt x h) (Nat.not_lt.2 hx.1)
      · intro x hx
        rcases hx with rfl | hx
        · exact .inl HSV.out.own
        · exact .inr (Nat.le_trans HFR.out.size hx.1)
      · rw [HWE.out]
        have hf := HFR.out.trans (Fr.of_below (F := fun x => x = s ∨ F x) HB0.out) (fun x hx => .inl hx)
        exact ((hf.setCell (.inl (.inl rfl)) _).setCell (.inl (.inl rfl)) _).setCell (.inl (.inl rfl)) _
    · have hcb : (cw2 == 0) = false := by rw [beq_eq_false_iff_ne]; exact hc2
      clear hx1w hx2w hx3w hcw hcnt
      go_wp2
      go_ret
      rw [HSVP.out, if_pos trivial, ← HM.out, ← HCW2.out, if_neg hc2, ← HDD2.out]
      exact ⟨rfl, E, F2, HS2.out.setOff, HD2.out.setS (HSF2.out s HSV.out.own), HSF2.out, fun x hx => .inl hx, HFE.out, HFR.out.setCell (.inl (.inl rfl)) _⟩
  · have hcb : (cw == 0) = false := by rw [beq_eq_false_iff_ne]; exact hc0
    clear hx1w hx2w hx3w hcw hcnt
    go_wp2
    go_ret
    rw [HSVP.out, if_neg hc0]
    exact ⟨rfl, E, F1, HS1.out.setOff, HD1.out.setS (HSF.out s HSV.out.own), HSF.out, fun x hx => .inl hx, HFF.out, (HF1.out.mono (F' := fun x => x = s ∨ F x) (fun x hx => .inl (.inr hx))).setCell (.inl (.inl rfl)) _⟩
end Go.Proofs.Ytogjbhkhdccahaa
namespace Go.Proofs.Ytogjbhkhdccahaa
open Go Go.RowKit Go.Maps
set_option maxHeartbeats 1000000 in
theorem stSave_any {w : World} {s g n cap : Nat} {a : Option Addr} {l : List UInt8} {d : Bd} {st : Bs} {E F : Nat → Prop} (h : Sv w s g st E) (hd : Dv w g d F) (hEF : ∀ x, E x → ¬ F x) (hr : RdB w a n cap l) (hrF : ∀ p, a = some p → ¬ F p.block) (h64 : 64 ≤ d.good.length) (hN : d.good.length ≤ 1000)
    (ho : d.ops + 1000 < 1000000) (hl : d.left ≤ 9223372036854775807) (hc : st.cnt + 1 < 1000000) :
    Calls Try.prog 13 #[.pointer (some ⟨s, 0, none⟩), .slice a n cap] w fun e w' => e = .returned (.int .i64 (saveP d st l).2.2) ∧ SavedTo w w' s g (saveP d st l) E F := by
  have hlen := hr.hlen
  by_cases hb : 20 * d.good.length < n
  · refine (stSave_big h hd h64 hN hb).mono ?_
    rintro e w' ⟨rfl, rfl⟩
    have e : saveP d st l = (d, st, 11) := by unfold saveP; rw [if_pos (by omega)]
    rw [e]
    exact ⟨rfl, E, F, h, hd, hEF, fun x hx => .inl hx, fun x hx => .inl hx, Fr.refl _ _⟩
  · by_cases hoff : st.off = true
    · refine (stSave_off h hd h64 hN (by omega) hoff).mono ?_
      rintro e w' ⟨rfl, rfl⟩
      have e : saveP d st l = (d, st, 10) := by unfold saveP; rw [if_neg (by omega), if_pos hoff]
      rw [e]
      exact ⟨rfl, E, F, h, hd, hEF, fun x hx => .inl hx, fun x hx => .inl hx, Fr.refl _ _⟩
    · exact stSave_main h hd hEF hr hrF h64 hN (by omega) (by simpa using hoff) ho hl hc
end Go.Proofs.Ytogjbhkhdccahaa
namespace Go.Proofs.Ytogjbhkhdccahaa
open Go Go.RowKit
def GWw (T : List WP) (i : Nat) (_L : Nat → Bool) (u : Nat → Value) (W : World) : Prop := (T.getD i kany).P (u i) W
def JWw (w1 : World) (_L : Nat → Bool) (_u : Nat → Value) (W : World) : Prop := Below w1.heap.size w1 W
section
variable {w1 : World} {T : List WP} {ops : Array Oper} {wt : Nat → Nat → Bool} {Q : Exit → Act → World → Prop} {fr : (Nat → Value) → Array Value} {df : List Deferred} {i : Nat} {o : Oper}
theorem soft_GWw : Soft wt (GWw T) := ⟨fun _ _ _ _ _ _ hki _ h => by unfold GWw at *; rw [putV_ne hki]; exact h, fun _ _ _ _ _ hb h => (T.getD _ kany).st _ _ _ h hb⟩
/-- A call. -/
theorem kwC (hr : ∀ u W, Below w1.heap.size w1 W → (∀ j, wt i j = true → (T.getD j kany).P (u j) W) → ∀ K : Act → World → Prop, Shut (∀ v w', Below W.heap.size W w' → (T.getD i kany).P v w' → K ((⟨fr u, df⟩ : Act).put o.dst v) w') → Oper.wp Try.prog o ⟨fr u, df⟩ W K Q) (hg : o.guard = none := by rfl) :
    StepAt Try.prog ops wt Q fr df (GWw T) (JWw w1) i o := by
  intro L u W hcl hJ hG hL hdep K hK
  rw [if_pos (by simp [Region.wanted, hg])]
  refine hr u W hJ (fun j hw => hG j (hdep j hw)) K (fun v w' hb hv => ?_)
  exact hK.out _ w' (Below.call hJ hb) (fun k hk hki hwk h => by unfold GWw at *; rw [putV_ne hki]; exact (T.getD k kany).st _ _ _ h hb) (by unfold GWw; rw [putV_same]; exact hv)
/-- An operation that reads, or makes new memory. -/
theorem kwM (hr : ∀ u W, Below w1.heap.size w1 W → (∀ j, wt i j = true → (T.getD j kany).P (u j) W) → ∃ v W', (execOp (⟨fr u, df⟩ : Act).eval o).run Try.prog W = .ok (.value v) W' ∧ (T.getD i kany).P v W' ∧ Below W.heap.size W W') (hg : o.guard = none := by rfl) :
    StepAt Try.prog ops wt Q fr df (GWw T) (JWw w1) i o :=
  kwC (fun u W hb hu K hK => by
    obtain ⟨v, W', hrun, hv, hb'⟩ := hr u W hb hu
    unfold Oper.wp
    rw [hrun]
    exact hK.out v W' hb' hv) hg
/-- .. that gives just this. -/
theorem kwP {x : Value} (hT : T.getD i kany = kn x) (hr : ∀ u W, Below w1.heap.size w1 W → (∀ j, wt i j = true → (T.getD j kany).P (u j) W) → (execOp (⟨fr u, df⟩ : Act).eval o).run Try.prog W = .ok (.value x) W) (hg : o.guard = none := by rfl) :
    StepAt Try.prog ops wt Q fr df (GWw T) (JWw w1) i o :=
  kwM (fun u W hb hu => ⟨x, W, hr u W hb hu, by rw [hT]; rfl, Below.refl _ _⟩) hg
end
section
variable {F : List Value} {fr : (Nat → Value) → Array Value} {df : List Deferred} {ops : Array Oper} {id : Nat} {Q : Exit → Act → World → Prop} {w : World}
theorem rgW (n : Nat) (p : List (Nat × Nat)) (T : List WP)
    (hsteps : AllSteps Try.prog ops (waitsOn .any ops) Q fr df (GWw T) (JWw w) 0 ops.toList)
    (hdone : ∀ u W, Below w.heap.size w W → (∀ k, k < n → (T.getD k kany).P (u k) W) → Q .normal ⟨fr u, df⟩ W)
    (hF : ∀ u, (mrg F p u).toArray = fr u := by intro u; dsimp only [mrg]; try exact rfl)
    (hc : okP p ops = true := by kernel_rfl) (hn : ops.size = n := by kernel_rfl) (hm : Try.prog.follows .mixedOrders = true := by kernel_rfl) (he : earlier .any ops = true := by kernel_rfl) : (Code.region id ops true).wp Try.prog Q ⟨F.toArray, df⟩ w := by
  obtain ⟨u0, hu⟩ := mrg_self p F (by simp only [okP, Bool.and_eq_true] at hc; exact hc.1)
  exact wp_region_mid (a := ⟨F.toArray, df⟩) fr (GWw T) (JWw w) u0 hm he (okP_put hc hF) (by rw [← hF, hu]) (Below.refl _ _).drew soft_GWw (fun _ => hsteps)
    (fun L u W hall hJ hG => hdone u W hJ (fun k hk => hG k (by omega)))
end
end Go.Proofs.Ytogjbhkhdccahaa
namespace Go.Proofs.Ytogjbhkhdccahaa
open Go Go.RowKit Go.Maps Go.Shelf
def containsL_ren : Go.Shelf.Ren := ⟨fun | 8 => 46 | 6 => 52 | n => n, fun | 22 => 28 | 23 => 5 | 25 => 77 | 4 => 4 | 3 => 3 | 0 => 0 | n => n, fun n => n⟩
theorem containsL : SlLaysH.n8 Try.prog containsL_ren where
  mixed := by kernel_rfl
  f6 := ⟨ "slices.IndexFunc[[]byte,byte]", by decide, Try.func52.trans (congrArg some (by kernel_rfl))⟩
  f8 := ⟨ "slices.ContainsFunc[[]byte,byte]", by decide, Try.func46.trans (congrArg some (by kernel_rfl))⟩
  t0 := Try.underlying0
  a0 := Try.isAgg0
  z0 := Try.sizeOf0
  v0 := Try.zeroValue0
  t3 := Try.underlying3
  a3 := Try.isAgg3
  z3 := Try.sizeOf3
  v3 := Try.zeroValue3
  t4 := Try.underlying4
  a4 := Try.isAgg4
  z4 := Try.sizeOf4
  v4 := Try.zeroValue4
  t22 := Try.underlying28
  a22 := Try.isAgg28
  z22 := Try.sizeOf28
  v22 := Try.zeroValue28
  a23 := Try.isAgg5
  z23 := Try.sizeOf5
  t25 := Try.underlying77
  a25 := Try.isAgg77
  z25 := Try.sizeOf77
  v25 := Try.zeroValue77
set_option maxRecDepth 100000 in
theorem readF_any (w : World) (x : UInt8) : Calls Try.prog 47 #[bV x] w fun e w' => e = .returned (.bool (x != 0)) ∧ ∃ q, w' = w.drewN q := by
  have h : ((x.toNat : Int) != 0) = (x != 0) := by
    by_cases e : x = 0
    · subst e; rfl
    · have h1 : (x.toNat : Int) ≠ 0 := fun h => e (UInt8.toNat_inj.1 (by simpa using h))
      rw [bne_iff_ne.2 e, bne_iff_ne.2 h1]
  unfold bV
  rw [← h]
  clear h
  go_enter Try.func47, Try.ntmps47
  go_wp2
  go_ret
  exact ⟨rfl, 0, rfl⟩
theorem contains_zero {w : World} {q : Nat} (h : RdB w (some ⟨q, 0, none⟩) 64 64 zero64) : Calls Try.prog 46 #[.slice (some ⟨q, 0, none⟩) 64 64, .func (.func 47) #[] #[]] w fun e w' => e = .returned (.bool false) ∧ ∃ q, w' = w.drewN q := by
  have eg : ∀ args w, (callFunc 47 args).run Try.prog w = .ok (.enter 47 args) w := enters_of Try.func47 (by kernel_rfl) rfl
  have hc := AnyE.slices_ContainsFunc containsL bV (fun x => x != 0) 47 #[] eg q 0 64 64 zero64 w (fun W x _ => readF_any W x) (by rw [zero64_len]; omega) (by omega) (fun j hj => by
    obtain ⟨b, o, e, hcell⟩ := h.get j hj
    cases e
    rw [hcell, getElem!_pos zero64 j hj])
  have e : (zero64.take 64).any (fun x => x != 0) = false := by decide
  rw [e] at hc
  exact hc
theorem leN_lt8 {l : List UInt8} (h : l.length = 8) : leN l < 18446744073709551616 := by
  have := leN_lt l
  rw [h] at this
  exact this
theorem beW_first {l : List UInt8} (h : 8 ≤ l.length) : (beW (first l 8)).toNat = beD l := by
  unfold beW first beD
  have e : 8 - l.length = 0 := by omega
  rw [e, List.replicate_zero, List.append_nil]
  have := leN_lt8 (l := (l.take 8).reverse) (by simp; omega)
  rw [UInt64.toNat_ofNat']
  exact Nat.mod_eq_of_lt this
theorem mark_parts {i c n : Nat} (hc : c ≠ 0) (hi : i < 18446744073709551616) (hc2 : c < 18446744073709551616) (hn : n < 18446744073709551616) :
    (mark i c n).take 8 = signL ∧ (beW (first ((mark i c n).drop 8) 8)).toNat = i ∧ (beW (first ((mark i c n).drop 16) 8)).toNat = c ∧ (beW (first ((mark i c n).drop 24) 8)).toNat = n := by
  have hs : signL.length = 8 := rfl
  have h1 := beE_len i; have h2 := beE_len c; have h3 := beE_len n
  have e : mark i c n = signL ++ (beE i ++ (beE c ++ (beE n ++ List.replicate 32 0))) := by unfold mark markL; rw [if_neg hc]; simp
  have d8 : (mark i c n).drop 8 = beE i ++ (beE c ++ (beE n ++ List.replicate 32 0)) := by rw [e, List.drop_append_of_le_length (by omega), List.drop_of_length_le (by omega), List.nil_append]
  have d16 : (mark i c n).drop 16 = beE c ++ (beE n ++ List.replicate 32 0) := by
    rw [show 16 = 8 + 8 from rfl, ← List.drop_drop, d8, List.drop_append_of_le_length (by omega), List.drop_of_length_le (by omega), List.nil_append]
  have d24 : (mark i c n).drop 24 = beE n ++ List.replicate 32 0 := by
    rw [show 24 = 16 + 8 from rfl, ← List.drop_drop, d16, List.drop_append_of_le_length (by omega), List.drop_of_length_le (by omega), List.nil_append]
  refine ⟨by rw [e, List.take_append_of_le_length (by omega), List.take_of_length_le (by omega)], ?_, ?_, ?_⟩
  · rw [beW_first (by rw [List.length_drop, mark_len]; omega), d8, beD_beE hi]
  · rw [beW_first (by rw [List.length_drop, mark_len]; omega), d16, beD_beE hc2]
  · rw [beW_first (by rw [List.length_drop, mark_len]; omega), d24, beD_beE hn]
theorem Fr.of_below' {B : Nat} {w w' : World} (h : Below B w w') : Fr (fun x => B ≤ x) w w' := ⟨h.os, h.tape, h.output, h.size, fun b _ hb => h.block b (Nat.lt_of_not_le hb)⟩
theorem rowAt_next {P : List UInt8} {k m : Nat} (hm : m = 64 * k) : P.take (64 * (k + 1)) = P.take m ++ rowAt P k := by
  subst hm
  unfold rowAt
  rw [show 64 * (k + 1) = 64 * k + 64 by omega, List.take_add]
theorem own_setOther {w : World} {base E n s o : Nat} {v : Value} {xs : List Value} (h : w.ownsRow base E 1 v n xs) (hs : s < base) (x : Value) : (w.setCell ⟨s, o, none⟩ x).ownsRow base E 1 v n xs := by
  obtain ⟨h1, h2⟩ := h
  refine ⟨h1, ?_⟩
  rcases h2 with h2 | ⟨g, cap, cur, hv, hg, hh, r⟩
  · exact Or.inl h2
  · exact Or.inr ⟨g, cap, cur, hv, hg, by rw [Below.heap_setCell _ _ _ _ (by show g ≠ s; omega)]; exact hh, r⟩
theorem own_cap {w : World} {base E n c : Nat} {a : Option Addr} {xs : List Value} (h : w.ownsRow base E 1 (.slice a n c) n xs) : n ≤ c := by
  rcases h.2 with ⟨e, hn⟩ | ⟨g, cap, cur, hv, _, _, hc, _⟩
  · omega
  · cases hv; exact hc
def stS (g i c : Nat) (v : Value) : List Value := [.pointer (some ⟨g, 0, none⟩), .int .i64 (i : Nat), .int .i64 (c : Nat), v, .bool false]
/-- In the midst of reading. -/
structure RlI (w : World) (s g k : Nat) (b : List UInt8) (W : World) : Prop where
  fr : Fr (fun x => x = s) w W
  ex : ∃ v, Blk W s (stS g 1 0 v) 50 ∧ W.ownsRow w.heap.size 5 1 v (64 * k) (((pad64 b).take (64 * k)).map bV)
def ReadT (w w' : World) (s g i c : Nat) (b : List UInt8) : Prop := ∃ E', Sv w' s g ⟨i, c, b, false⟩ E' ∧ (∀ x, E' x → x = s ∨ w.heap.size ≤ x) ∧ Fr (fun x => x = s) w w'
def rdR (q : Nat → Prop) (l : List UInt8) : WP := ⟨fun v W => ∃ b, v = .slice (some ⟨b, 0, none⟩) 64 64 ∧ RdB W (some ⟨b, 0, none⟩) 64 64 l ∧ b < W.heap.size ∧ q b, fun _ _ _ ⟨b, e, h, hl, hq⟩ hb => ⟨b, e, h.below hb, Nat.lt_of_lt_of_le hl hb.size, hq⟩⟩
def rdRT (q : Nat → Prop) (l : List UInt8) : WP := ⟨fun v W => ∃ x, v = .tuple #[x, .int .i64 0] ∧ (rdR q l).P x W, fun _ w w' ⟨x, e, h⟩ hb => ⟨x, e, (rdR q l).st x w w' h hb⟩⟩
theorem bRead_at0 {w : World} {g : Nat} {d : Bd} {F : Nat → Prop} (h : Dv w g d F) (h0 : 0 < d.good.length) (hN : d.good.length ≤ 100000) : Calls Try.prog 45 #[.pointer (some ⟨g, 0, none⟩), .int .i64 0] w fun e w' => ∃ q, e = .returned (.tuple #[.slice (some ⟨q, 0, none⟩) 64 64, .int .i64 0]) ∧ w.heap.size ≤ q ∧ RdB w' (some ⟨q, 0, none⟩) 64 64 (d.last 0) ∧ Below w.heap.size w w' := bRead_any (k := 0) h h0 hN
set_option maxRecDepth 100000 in
set_option maxHeartbeats 2000000 in
theorem stRead_none {w : World} {s g : Nat} {d : Bd} {F : Nat → Prop} (h : Blk w s (stS g 1 0 (.slice none 0 0)) 50) (hd : Dv w g d F) (G : Gs d 1 0 []) (hN : d.good.length ≤ 1000) :
    Calls Try.prog 38 #[.pointer (some ⟨s, 0, none⟩)] w fun e w' => e = .returned (.bool true) ∧ ReadT w w' s g 1 0 [] := by
  have HD := Lib.hid hd; have HB := Lib.hid h
  have h0 : 0 < d.good.length := by have := G.blocks; omega
  have HL : Hid (d.last 0 = zero64) := Lib.hid (by rw [Bd.last_nil0 G.m0, G.m]; rfl)
  have c0 : w.cell? ⟨s, 0, none⟩ = some (.pointer (some ⟨g, 0, none⟩)) := h.cell 0
  have HN : Hid (d.good.length ≤ 100000) := Lib.hid (by omega)
  have H0 := Lib.hid h0
  clear h hd G hN h0
  go_enter Try.func38, Try.ntmps38
  go_upto_region 2 with (go_at_call 45; (with_reducible refine (bRead_at0 HD.out H0.out HN.out).mono ?_); rintro e w1 ⟨q, rfl, hq, hr, hb⟩; rw [HL.out] at hr; have HR := Lib.hid hr; have HB1 := Lib.hid hb; clear hr hb)
  have hcv := conv_any (rd_takeS HR.out (r := 8) (by omega))
  have hst : ((bs (zero64.take 8)).toList == [77, 73, 83, 83, 73, 86, 69, 49]) = false := by rw [bs_toList]; decide
  clear c0
  go_wp2_with (go_at_call 46; (with_reducible refine (contains_zero HR.out).mono ?_); rintro e w2 ⟨rfl, q2, rfl⟩)
  go_ret
  have HB2 := Below.call HB1.out (below_drewN (Below.refl _ _) q2)
  exact ⟨rfl, fun x => x = s, ⟨by decide, by decide, by simp, rfl, fun x hx => by subst hx; exact Nat.lt_of_lt_of_le HB.out.lt HB2.size, none, 0, HB.out.below' HB2, RdB.nil _, fun p e => by cases e⟩, fun x hx => .inl hx, Fr.of_below HB2⟩
set_option maxRecDepth 100000 in
set_option maxHeartbeats 4000000 in
theorem stRead_some {w : World} {s g i c : Nat} {b : List UInt8} {d : Bd} {F : Nat → Prop} (h : Blk w s (stS g 1 0 (.slice none 0 0)) 50) (hd : Dv w g d F) (hsF : ¬ F s) (G : Gs d i c b) (hc0 : c ≠ 0) (hN : d.good.length ≤ 1000) :
    Calls Try.prog 38 #[.pointer (some ⟨s, 0, none⟩)] w fun e w' => e = .returned (.bool true) ∧ ReadT w w' s g i c b := by
  have HD := Lib.hid hd; have HB := Lib.hid h; have HSF := Lib.hid hsF
  have h0 : 0 < d.good.length := by have := G.blocks; omega
  have h64 := G.blocks
  have hi2 := G.in2; have hc6 := G.cnt; have hbig := G.big
  obtain ⟨n, hn⟩ : ∃ n, n = b.length := ⟨_, rfl⟩
  obtain ⟨M, hM⟩ : ∃ M, M = mark i c n := ⟨_, rfl⟩
  have HML : Hid (M.length = 64) := Lib.hid (by rw [hM]; exact mark_len _ _ _)
  have HL : Hid (d.last 0 = M) := Lib.hid (by rw [Bd.last_nil0 G.m0, G.m, hM, hn])
  have hmp := mark_parts (i := i) (c := c) (n := n) hc0 (by omega) (by omega) (by omega)
  rw [← hM] at hmp
  have HMP := Lib.hid hmp
  obtain ⟨NR, hNR⟩ : ∃ NR, NR = rowsN b := ⟨_, rfl⟩
  have HNR : Hid (NR = (n + 63) / 64) := Lib.hid (by rw [hNR, hn]; rfl)
  have HROW : Hid (∀ k, k < NR → d.place i k < d.good.length ∧ d.last (d.place i k) = rowAt (pad64 b) k) := Lib.hid (fun k hk => by
    rw [hNR] at hk
    exact ⟨G.place_lt hk, by rw [Bd.last_nil0 (G.row0 k hk), G.row k hk]⟩)
  have HPL : Hid ((pad64 b).length = 64 * NR) := Lib.hid (by rw [hNR]; exact pad64_len b)
  have c0 : w.cell? ⟨s, 0, none⟩ = some (.pointer (some ⟨g, 0, none⟩)) := h.cell 0
  have HN : Hid (d.good.length ≤ 100000) := Lib.hid (by omega)
  have H0 := Lib.hid h0
  have HBIG : Hid (n ≤ 20000) := Lib.hid (by omega)
  have HIN := Lib.hid hi2; have HCN := Lib.hid hc6; have HBN := Lib.hid hn
  have hN20 : (n : Int) ≤ ((20 * d.good.length : Nat) : Int) := by omega
  have H64 := Lib.hid h64; have HC0 := Lib.hid hc0
  have g1 : decide ((2 : Int) ≤ (i : Int)) = false := decide_eq_false (by omega)
  have g2 : decide ((c : Int) < 1) = false := decide_eq_false (by omega)
  have g3 : decide ((9223372036854775808 : Int) ≤ (c : Int)) = false := decide_eq_false (by omega)
  have g4 : decide (((if d.good.length < 64 then 0 else 20 * d.good.length : Nat) : Int) < (n : Int)) = false := decide_eq_false (by rw [if_neg (by omega)]; omega)
  have gw : IntKind.u64.wrap ((if d.good.length < 64 then 0 else 20 * d.good.length : Nat) : Int) = ((if d.good.length < 64 then 0 else 20 * d.good.length : Nat) : Int) := by rw [IntKind.wrap_u64]; split <;> omega
  have hiw : IntKind.i64.wrap (i : Int) = (i : Int) := by rw [IntKind.wrap_i64]; omega
  have hcw : IntKind.i64.wrap (c : Int) = (c : Int) := by rw [IntKind.wrap_i64]; omega
  have hnw : IntKind.i64.wrap (n : Int) = (n : Int) := by rw [IntKind.wrap_i64]; omega
  clear h hd G hN h0 hsF hbig hmp hM hNR hn h64 hi2 hc6 hc0 hN20
  obtain ⟨rm, hrm⟩ : ∃ rm : Nat, rm = if d.good.length < 64 then 0 else 20 * d.good.length := ⟨_, rfl⟩
  rw [← hrm] at g4 gw
  have HRM := Lib.hid hrm
  have g5 : decide (rm < n) = false := decide_eq_false (by have := of_decide_eq_false g4; omega)
  clear hrm
  go_enter Try.func38, Try.ntmps38
  go_upto_region 2 with (go_at_call 45; (with_reducible refine (bRead_at0 HD.out H0.out HN.out).mono ?_); rintro e w1 ⟨q, rfl, hq, hr, hb⟩; rw [HL.out] at hr; have HR := Lib.hid hr; have HB1 := Lib.hid hb; have HQ := Lib.hid hq; clear hr hb hq)
  have hcv := conv_any (rd_takeS HR.out (r := 8) (by omega))
  rw [HMP.out.1] at hcv
  have hst : ((bs signL).toList == [77, 73, 83, 83, 73, 86, 69, 49]) = true := by rw [bs_toList]; decide
  have HR8 := Lib.hid (rd_dropS HR.out (k := 8) (by omega))
  have HR16 := Lib.hid (rd_dropS HR.out (k := 16) (by omega))
  have HR24 := Lib.hid (rd_dropS HR.out (k := 24) (by omega))
  clear c0
  go_upto_region 4 with fail
  clear hcv hst
  refine rgW 12 [(5, 9), (0, 10), (0, 11), (18, 0), (0, 1), (0, 2), (0, 3), (0, 4), (0, 5), (0, 6), (0, 7), (0, 8)] [kn (.slice (some ⟨q, 0, none⟩) 64 64), kn (.slice (some ⟨q, 8, none⟩) 56 56), kn (.int .u64 (i : Int)), kn (.slice (some ⟨q, 0, none⟩) 64 64), kn (.slice (some ⟨q, 16, none⟩) 48 48), kn (.int .u64 (c : Int)), kn (.slice (some ⟨q, 0, none⟩) 64 64), kn (.slice (some ⟨q, 24, none⟩) 40 40), kn (.int .u64 (n : Int)), kn (.int .u64 (i : Int)), kn (.int .u64 (c : Int)), kn (.int .u64 (n : Int))] ?_ (fun u6 W6 hb6 hv => ?_)
  · refine ⟨?_, ?_, ?_, ?_, ?_, ?_, ?_, ?_, ?_, ?_, ?_, ?_, trivial⟩
    · refine kwP (by rfl) (fun u W hb hu => ?_)
      go_simp
    · refine kwP (by rfl) (fun u W hb hu => ?_)
      have e0 : u 0 = .slice (some ⟨q, 0, none⟩) 64 64 := hu 0 (by kernel_rfl)
      go_simp
    · refine kwC (fun u W hb hu K hK => ?_)
      have e1 : u 1 = .slice (some ⟨q, 8, none⟩) 56 56 := hu 1 (by kernel_rfl)
      go_simp
      go_at_call 48
      (with_reducible refine (get64_any _ (HR8.out.below hb)).mono ?_); rintro e wz ⟨rfl, rfl⟩
      have hk9 := hK.out _ W (Below.refl _ _) (congrArg (fun x : Nat => Value.int .u64 (x : Int)) HMP.out.2.1)
      first | exact hk9 | (simp only [e1] at hk9; exact hk9)
    · refine kwP (by rfl) (fun u W hb hu => ?_)
      go_simp
    · refine kwP (by rfl) (fun u W hb hu => ?_)
      have e3 : u 3 = .slice (some ⟨q, 0, none⟩) 64 64 := hu 3 (by kernel_rfl)
      go_simp
    · refine kwC (fun u W hb hu K hK => ?_)
      have e4 : u 4 = .slice (some ⟨q, 16, none⟩) 48 48 := hu 4 (by kernel_rfl)
      go_simp
      go_at_call 48
      (with_reducible refine (get64_any _ (HR16.out.below hb)).mono ?_); rintro e wz ⟨rfl, rfl⟩
      have hk9 := hK.out _ W (Below.refl _ _) (congrArg (fun x : Nat => Value.int .u64 (x : Int)) HMP.out.2.2.1)
      first | exact hk9 | (simp only [e4] at hk9; exact hk9)
    · refine kwP (by rfl) (fun u W hb hu => ?_)
      go_simp
    · refine kwP (by rfl) (fun u W hb hu => ?_)
      have e6 : u 6 = .slice (some ⟨q, 0, none⟩) 64 64 := hu 6 (by kernel_rfl)
      go_simp
    · refine kwC (fun u W hb hu K hK => ?_)
      have e7 : u 7 = .slice (some ⟨q, 24, none⟩) 40 40 := hu 7 (by kernel_rfl)
      go_simp
      go_at_call 48
      (with_reducible refine (get64_any _ (HR24.out.below hb)).mono ?_); rintro e wz ⟨rfl, rfl⟩
      have hk9 := hK.out _ W (Below.refl _ _) (congrArg (fun x : Nat => Value.int .u64 (x : Int)) HMP.out.2.2.2)
      first | exact hk9 | (simp only [e7] at hk9; exact hk9)
    · refine kwP (by rfl) (fun u W hb hu => ?_)
      have e2 : u 2 = .int .u64 (i : Int) := hu 2 (by kernel_rfl)
      go_simp
    · refine kwP (by rfl) (fun u W hb hu => ?_)
      have e5 : u 5 = .int .u64 (c : Int) := hu 5 (by kernel_rfl)
      go_simp
    · refine kwP (by rfl) (fun u W hb hu => ?_)
      have e8 : u 8 = .int .u64 (n : Int) := hu 8 (by kernel_rfl)
      go_simp
  have e5 : u6 9 = .int .u64 (i : Int) := hv 9 (by omega)
  have e6 : u6 10 = .int .u64 (c : Int) := hv 10 (by omega)
  have e7 : u6 11 = .int .u64 (n : Int) := hv 11 (by omega)
  have HB6 := Lib.hid (Below.call HB1.out hb6)
  obtain ⟨cs0, hcs0⟩ := (⟨_, HB6.out.cell (p := ⟨s, 0, none⟩) HB.out.lt⟩ : ∃ x, W6.cell? ⟨s, 0, none⟩ = x)
  have c6 : W6.cell? ⟨s, 0, none⟩ = some (.pointer (some ⟨g, 0, none⟩)) := (HB6.out.cell (p := ⟨s, 0, none⟩) HB.out.lt).trans (HB.out.cell 0)
  clear hv hb6 hcs0 cs0
  go_wp2_with (first
    | (go_at_call 23; (with_reducible refine (bLen_any (HD.out.later HB6.out)).mono ?_); rintro e wz ⟨rfl, rfl⟩)
    | (go_at_call 18; (with_reducible refine (stRoom_any _ HN.out).mono ?_); rintro e wz ⟨rfl, rfl⟩; rw [← HRM.out]))
  clear g1 g2 g3 g4 g5 gw c6
  go_loopw [8] (fun kv wr => ∃ k : Nat, k ≤ NR ∧ kv = .int .i64 (k : Int) ∧ RlI w s g k b wr) (fun kv _ => NR - (intOf kv).toNat)
  case atStart => exact ⟨0, Nat.zero_le _, rfl, Fr.of_below HB6.out, _, HB.out.below' HB6.out, by simp, .inl ⟨rfl, rfl⟩⟩
  case round =>
    obtain ⟨k, hk, rfl, hI⟩ := hrel
    have HF := Lib.hid hI.fr
    obtain ⟨v, hS, hO⟩ := hI.ex
    obtain ⟨av, cv, ev⟩ := own_shape hO
    subst ev
    have HS := Lib.hid hS; have HO := Lib.hid hO
    have x3 : wr.cell? ⟨s, 3, none⟩ = some (.slice av (64 * k) cv) := hS.cell 3
    have HNC : Hid (k ≤ NR) := Lib.hid hk
    obtain ⟨m, hm⟩ : ∃ m : Nat, m = 64 * k := ⟨_, rfl⟩
    rw [← hm] at x3
    have HM2 := Lib.hid hm
    clear hm
    have hk8 : (k : Int) ≤ 1000 := by have := HNR.out; have := HBIG.out; omega
    have hk0 : (0 : Int) ≤ (k : Int) := by omega
    have hkw : IntKind.i64.wrap ((k : Int) + 1) = ((k + 1 : Nat) : Int) := by rw [IntKind.wrap_i64]; omega
    have HDR := Lib.hid (HD.out.frame HF.out (fun x hx e => HSF.out (e ▸ hx)))
    by_cases hlt : m < n
    · have hlt1 : (m : Int) < (n : Int) := by omega
      have hl2 : decide (m < n) = true := decide_eq_true hlt
      have HKN : Hid (k < NR) := Lib.hid (by have := HNR.out; have := HM2.out; omega)
      clear hI hk hO hlt
      go_upto_region 10 with fail
      clear x3 hlt1 hl2
      obtain ⟨wA, rfl⟩ : ∃ wA : World, wA = wr := ⟨_, rfl⟩
      have x0 := HS.out.cell 0
      have HX0 : Hid (wA.cell? ⟨s, 0, none⟩ = some (.pointer (some ⟨g, 0, none⟩))) := Lib.hid x0
      have HP0 := Lib.hid (HROW.out k HKN.out)
      clear x0
      refine rgW 18 [(9, 16), (0, 17), (55, 13), (0, 0), (0, 1), (0, 2), (0, 3), (0, 4), (0, 5), (0, 6), (0, 7), (0, 8), (0, 9), (0, 10), (0, 11), (0, 12), (0, 14), (0, 15)] [kn (.pointer (some ⟨s, 0, none⟩)), kn (.pointer (some ⟨s, 0, none⟩)), kn (.pointer (some ⟨s, 0, none⟩)), kn (.pointer (some ⟨g, 0, none⟩)), kn (.pointer (some ⟨s, 0, none⟩)), kn (.pointer (some ⟨s, 0, none⟩)), kn (.pointer (some ⟨s, 0, none⟩)), kn (.pointer (some ⟨g, 0, none⟩)), kn (.int .u64 (i : Int)), kn (.int .i64 (i : Int)), kn (.int .i64 (k : Int)), kn (.int .i64 ((d.place i k : Nat) : Int)), (rdRT (fun x => wA.heap.size ≤ x) (rowAt (pad64 b) k)), (rdRT (fun x => wA.heap.size ≤ x) (rowAt (pad64 b) k)), (rdR (fun x => wA.heap.size ≤ x) (rowAt (pad64 b) k)), kn (.int .i64 0), (rdR (fun x => wA.heap.size ≤ x) (rowAt (pad64 b) k)), kn (.int .i64 0)] ?_ (fun u6 W6 hb6 hv => ?_)
      · refine ⟨?_, ?_, ?_, ?_, ?_, ?_, ?_, ?_, ?_, ?_, ?_, ?_, ?_, ?_, ?_, ?_, ?_, ?_, trivial⟩
        · refine kwP (by rfl) (fun u W hb hu => ?_)
          go_simp
        · refine kwP (by rfl) (fun u W hb hu => ?_)
          have e0 : u 0 = .pointer (some ⟨s, 0, none⟩) := hu 0 (by kernel_rfl)
          go_simp
        · refine kwP (by rfl) (fun u W hb hu => ?_)
          have e1 : u 1 = .pointer (some ⟨s, 0, none⟩) := hu 1 (by kernel_rfl)
          go_simp
        · refine kwP (by rfl) (fun u W hb hu => ?_)
          have e2 : u 2 = .pointer (some ⟨s, 0, none⟩) := hu 2 (by kernel_rfl)
          have hcx := (hb.cell (p := ⟨s, 0, none⟩) (cell_lt HX0.out)).trans HX0.out
          go_simp
        · refine kwP (by rfl) (fun u W hb hu => ?_)
          go_simp
        · refine kwP (by rfl) (fun u W hb hu => ?_)
          have e4 : u 4 = .pointer (some ⟨s, 0, none⟩) := hu 4 (by kernel_rfl)
          go_simp
        · refine kwP (by rfl) (fun u W hb hu => ?_)
          have e5 : u 5 = .pointer (some ⟨s, 0, none⟩) := hu 5 (by kernel_rfl)
          go_simp
        · refine kwP (by rfl) (fun u W hb hu => ?_)
          have e6 : u 6 = .pointer (some ⟨s, 0, none⟩) := hu 6 (by kernel_rfl)
          have hcx := (hb.cell (p := ⟨s, 0, none⟩) (cell_lt HX0.out)).trans HX0.out
          go_simp
        · refine kwP (by rfl) (fun u W hb hu => ?_)
          go_simp
        · refine kwP (by rfl) (fun u W hb hu => ?_)
          have e8 : u 8 = .int .u64 (i : Int) := hu 8 (by kernel_rfl)
          go_simp
        · refine kwP (by rfl) (fun u W hb hu => ?_)
          go_simp
        · refine kwC (fun u W hb hu K hK => ?_)
          have e7 : u 7 = .pointer (some ⟨g, 0, none⟩) := hu 7 (by kernel_rfl)
          have e9 : u 9 = .int .i64 (i : Int) := hu 9 (by kernel_rfl)
          have e10 : u 10 = .int .i64 (k : Int) := hu 10 (by kernel_rfl)
          go_simp
          go_at_call 25
          (with_reducible refine (stAt_any (HDR.out.later hb) HIN.out (by omega) H0.out HN.out).mono ?_); rintro e wz ⟨rfl, rfl⟩
          have hk9 := hK.out (.int .i64 ((d.place i k : Nat) : Int)) W (Below.refl _ _) rfl
          first | exact hk9 | (simp only [e7, e9, e10] at hk9; exact hk9)
        · refine kwC (fun u W hb hu K hK => ?_)
          have e3 : u 3 = .pointer (some ⟨g, 0, none⟩) := hu 3 (by kernel_rfl)
          have e11 : u 11 = .int .i64 ((d.place i k : Nat) : Int) := hu 11 (by kernel_rfl)
          go_simp
          go_at_call 45
          (with_reducible refine (bRead_any (HDR.out.later hb) HP0.out.1 HN.out).mono ?_); rintro e wz ⟨bq, rfl, hq, hr, hbz⟩
          rw [HP0.out.2] at hr
          have hk9 := hK.out _ wz hbz ⟨_, rfl, bq, rfl, hr, cell_lt (p := ⟨bq, 0, none⟩) (by obtain ⟨_, _, e, h⟩ := hr.get 0 (by rw [hr.hlen]; omega); cases e; exact h), Nat.le_trans hb.size hq⟩
          first | exact hk9 | (simp only [e3, e11] at hk9; exact hk9)
        · exact kwM (fun u W hb hu => ⟨_, W, rfl, hu 12 (by kernel_rfl), Below.refl _ _⟩)
        · refine kwM (fun u W hb hu => ?_)
          obtain ⟨x, e13, hx⟩ := hu 13 (by kernel_rfl)
          have e13 : u 13 = .tuple #[x, .int .i64 0] := e13
          refine ⟨x, W, ?_, hx, Below.refl _ _⟩
          go_simp
        · refine kwM (fun u W hb hu => ?_)
          obtain ⟨x, e13, hx⟩ := hu 13 (by kernel_rfl)
          have e13 : u 13 = .tuple #[x, .int .i64 0] := e13
          refine ⟨.int .i64 0, W, ?_, rfl, Below.refl _ _⟩
          go_simp
        · exact kwM (fun u W hb hu => ⟨_, W, rfl, hu 14 (by kernel_rfl), Below.refl _ _⟩)
        · refine kwP (by rfl) (fun u W hb hu => ?_)
          have e15 : u 15 = .int .i64 0 := hu 15 (by kernel_rfl)
          go_simp
      obtain ⟨bq, e9, hrd, hbq, hqb⟩ : ∃ bq, u6 16 = .slice (some ⟨bq, 0, none⟩) 64 64 ∧ RdB W6 (some ⟨bq, 0, none⟩) 64 64 (rowAt (pad64 b) k) ∧ bq < W6.heap.size ∧ wA.heap.size ≤ bq := hv 16 (by omega)
      have HRD := Lib.hid hrd
      have HS6 := Lib.hid (HS.out.below' hb6)
      have HO6 := Lib.hid (own_below HO.out hb6)
      have HF6 := Lib.hid (HF.out.call hb6)
      have y3 : W6.cell? ⟨s, 3, none⟩ = some (.slice av (64 * k) cv) := HS6.out.cell 3
      rw [← HM2.out] at y3
      have HMO : Hid (W6.ownsRow w.heap.size 5 1 (.slice av m cv) m (((pad64 b).take m).map bV)) := Lib.hid (by rw [HM2.out]; exact HO6.out)
      have HMN : Hid (m + 64 ≤ 30000) := Lib.hid (by have := HM2.out; have := HNR.out; have := HBIG.out; have := HKN.out; omega)
      clear hv hb6 hrd HO6
      go_wp2_with (at_builtin; go_must (refine app_bytes _ rfl (.tmp 86) (.tmp 87) rfl w.heap.size _ m ((pad64 b).take m) rfl HMO.out (some ⟨bq, 0, none⟩) 64 64 (rowAt (pad64 b) k) (by first | rfl | exact e9) HRD.out (by have := HMN.out; omega) HF6.out.size W6 (Below.refl _ _) ?_; intro v2 w2 hown2 hbel2; obtain ⟨a2, c2, rfl⟩ := own_shape hown2; have HO2 := Lib.hid hown2; have HB2 := Lib.hid hbel2; have HS2 := Lib.hid (HS6.out.below hbel2 HB.out.lt); have z3 := HS2.out.cell 3; have hfz := HS2.out.frozen; clear y3 hown2 hbel2))
      go_roundw
      case rel =>
        refine ⟨k + 1, HKN.out, by go_num, (HF6.out.trans (Fr.of_below' HB2.out) (fun x hx => .inr hx)).setCell (.inl rfl) _, _, HS2.out.set 3 _, ?_⟩
        have h := HO2.out
        rw [← rowAt_next HM2.out] at h
        have e : m + 64 = 64 * (k + 1) := by have := HM2.out; omega
        rw [← e] at h ⊢
        exact own_setOther h HB.out.lt _
      case measure => have := HKN.out; simp [intOf]; omega
    · have hk9 : k = NR := by have := HNR.out; have := HM2.out; omega
      subst hk9
      have hle : (n : Int) ≤ (m : Int) := by have := HNR.out; have := HM2.out; omega
      have hnl : ¬ (m : Int) < (n : Int) := by omega
      have hnd : decide (m < n) = false := decide_eq_false hlt
      have HNM : Hid (n ≤ m) := Lib.hid (by omega)
      clear hI hk hO hlt
      go_upto_region 12 with fail
      clear x3 hnl hnd
      obtain ⟨wA, rfl⟩ : ∃ wA : World, wA = wr := ⟨_, rfl⟩
      have HX3 : Hid (wA.cell? ⟨s, 3, none⟩ = some (.slice av m cv)) := Lib.hid (by rw [HM2.out]; exact HS.out.cell 3)
      have HNCV : Hid ((n : Int) ≤ (cv : Int)) := Lib.hid (by have := HNM.out; have := own_cap HO.out; have := HM2.out; omega)
      have hncv := HNCV.out
      have HST : Hid (∀ W0, Below wA.heap.size wA W0 → (∃ z, W0.cell? ⟨s, 1, none⟩ = some z) ∧ (∃ z, W0.cell? ⟨s, 2, none⟩ = some z) ∧ (∃ z, W0.cell? ⟨s, 3, none⟩ = some z) ∧ ∀ i, W0.frozen? ⟨s, i, none⟩ = false) := Lib.hid (fun W0 hb0 => by
        have h := HS.out.below' hb0
        exact ⟨⟨_, h.cell 1⟩, ⟨_, h.cell 2⟩, ⟨_, h.cell 3⟩, h.frozen⟩)
      refine rgQ 22 [(91, 0), (0, 1), (0, 2), (0, 3), (0, 4), (0, 5), (0, 6), (0, 7), (0, 8), (0, 9), (0, 10), (0, 11), (0, 12), (0, 13), (0, 14), (0, 16), (0, 17), (0, 19), (0, 20)] [.pointer (some ⟨s, 0, none⟩), .pointer (some ⟨s, 0, none⟩), .pointer (some ⟨s, 0, none⟩), .int .u64 (i : Int), .int .i64 (i : Int), .int .u64 (c : Int), .int .i64 (c : Int), .pointer (some ⟨s, 0, none⟩), .pointer (some ⟨s, 0, none⟩), .pointer (some ⟨s, 3, none⟩), .slice av m cv, .int .u64 (n : Int), .slice av n cv, .pointer (some ⟨s, 0, none⟩), .pointer (some ⟨s, 1, none⟩), undef, .pointer (some ⟨s, 0, none⟩), .pointer (some ⟨s, 2, none⟩), undef, .pointer (some ⟨s, 0, none⟩), .pointer (some ⟨s, 3, none⟩), undef] [15, 18, 21] (fun j W => match j with | 0 => Below wA.heap.size wA W | 1 => ∃ W0, Below wA.heap.size wA W0 ∧ W = W0.setCell ⟨s, 1, none⟩ (.int .i64 (i : Int)) | 2 => ∃ W0, Below wA.heap.size wA W0 ∧ W = (W0.setCell ⟨s, 1, none⟩ (.int .i64 (i : Int))).setCell ⟨s, 2, none⟩ (.int .i64 (c : Int)) | _ => ∃ W0, Below wA.heap.size wA W0 ∧ W = ((W0.setCell ⟨s, 1, none⟩ (.int .i64 (i : Int))).setCell ⟨s, 2, none⟩ (.int .i64 (c : Int))).setCell ⟨s, 3, none⟩ (.slice av n cv)) ?_ (by intro k hk; simp at hk; omega) ?_ (fun u6 W6 hP hv => ?_)
      · exact (Below.refl _ _).drew
      · refine ⟨?_, ?_, ?_, ?_, ?_, ?_, ?_, ?_, ?_, ?_, ?_, ?_, ?_, ?_, ?_, ?_, ?_, ?_, ?_, ?_, ?_, ?_, trivial⟩
        · refine kkP (by decide) fun u W j hP h1 h2 hu => ?_
          clear hP h1 h2
          go_simp
        · refine kkP (by decide) fun u W j hP h1 h2 hu => ?_
          clear hP h1 h2
          go_simp
        · refine kkP (by decide) fun u W j hP h1 h2 hu => ?_
          clear hP h1 h2
          go_simp
        · refine kkP (by decide) fun u W j hP h1 h2 hu => ?_
          clear hP h1 h2
          go_simp
        · refine kkP (by decide) fun u W j hP h1 h2 hu => ?_
          have e3 : u 3 = .int .u64 (i : Int) := hu 3 (by kernel_rfl)
          clear hP h1 h2
          go_simp
        · refine kkP (by decide) fun u W j hP h1 h2 hu => ?_
          clear hP h1 h2
          go_simp
        · refine kkP (by decide) fun u W j hP h1 h2 hu => ?_
          have e5 : u 5 = .int .u64 (c : Int) := hu 5 (by kernel_rfl)
          clear hP h1 h2
          go_simp
        · refine kkP (by decide) fun u W j hP h1 h2 hu => ?_
          clear hP h1 h2
          go_simp
        · refine kkP (by decide) fun u W j hP h1 h2 hu => ?_
          have e7 : u 7 = .pointer (some ⟨s, 0, none⟩) := hu 7 (by kernel_rfl)
          clear hP h1 h2
          go_simp
        · refine kkP (by decide) fun u W j hP h1 h2 hu => ?_
          have e8 : u 8 = .pointer (some ⟨s, 0, none⟩) := hu 8 (by kernel_rfl)
          clear hP h1 h2
          go_simp
        · refine kkP (by decide) fun u W j hP h1 h2 hu => ?_
          have e9 : u 9 = .pointer (some ⟨s, 3, none⟩) := hu 9 (by kernel_rfl)
          have hj : j = 0 := by have := h2 0 15 rfl (.cons (c := 14) (by kernel_rfl) (.cons (c := 13) (by kernel_rfl) (.one (by kernel_rfl)))); omega
          subst hj
          have hP : Below wA.heap.size wA W := hP
          have hcx := (hP.cell (p := ⟨s, 3, none⟩) (cell_lt HX3.out)).trans HX3.out
          clear hP h1 h2
          go_simp
        · refine kkP (by decide) fun u W j hP h1 h2 hu => ?_
          clear hP h1 h2
          go_simp
        · refine kkP (by decide) fun u W j hP h1 h2 hu => ?_
          have e10 : u 10 = .slice av m cv := hu 10 (by kernel_rfl)
          have e11 : u 11 = .int .u64 (n : Int) := hu 11 (by kernel_rfl)
          clear hP h1 h2
          go_simp
        · refine kkP (by decide) fun u W j hP h1 h2 hu => ?_
          have e0 : u 0 = .pointer (some ⟨s, 0, none⟩) := hu 0 (by kernel_rfl)
          have e10 : u 10 = .slice av m cv := hu 10 (by kernel_rfl)
          clear hP h1 h2
          go_simp
        · refine kkP (by decide) fun u W j hP h1 h2 hu => ?_
          have e13 : u 13 = .pointer (some ⟨s, 0, none⟩) := hu 13 (by kernel_rfl)
          clear hP h1 h2
          go_simp
        · refine kkC (t := 0) rfl (by decide) (fun s k hs => absurd hs (Nat.not_lt_zero s)) fun u W hP hu K hK => ?_
          have e4 : u 4 = .int .i64 (i : Int) := hu 4 (by kernel_rfl)
          have e14 : u 14 = .pointer (some ⟨s, 1, none⟩) := hu 14 (by kernel_rfl)
          have hP : Below wA.heap.size wA W := hP
          obtain ⟨W0, hb0, hW⟩ : ∃ W0, Below wA.heap.size wA W0 ∧ W = W0 := ⟨W, hP, rfl⟩
          obtain ⟨⟨z1, h1c⟩, ⟨z2, h2c⟩, ⟨z3, h3c⟩, hfz⟩ := HST.out W0 hb0
          subst hW
          go_simp
          have hk9 := fun w' (h : ∃ W0, Below wA.heap.size wA W0 ∧ w' = W0.setCell ⟨s, 1, none⟩ (.int .i64 (i : Int))) => hK.out w' h
          first | exact hk9 _ ⟨_, hb0, rfl⟩ | (simp only [e4, e14] at hk9; exact hk9 _ ⟨_, hb0, rfl⟩)
        · refine kkP (by decide) fun u W j hP h1 h2 hu => ?_
          have e1 : u 1 = .pointer (some ⟨s, 0, none⟩) := hu 1 (by kernel_rfl)
          have e15 : u 15 = undef := hu 15 (by kernel_rfl)
          clear hP h1 h2
          go_simp
        · refine kkP (by decide) fun u W j hP h1 h2 hu => ?_
          have e16 : u 16 = .pointer (some ⟨s, 0, none⟩) := hu 16 (by kernel_rfl)
          clear hP h1 h2
          go_simp
        · refine kkC (t := 1) rfl (by decide) (fun s9 k9 hs9 hk9 => ?_) (fun u W hP hu K hK => ?_)
          · have h9 : s9 = 0 := by omega
            subst h9; cases hk9; exact (.cons (c := 17) (by kernel_rfl) (.cons (c := 16) (by kernel_rfl) (.one (by kernel_rfl))))
          have e6 : u 6 = .int .i64 (c : Int) := hu 6 (by kernel_rfl)
          have e17 : u 17 = .pointer (some ⟨s, 2, none⟩) := hu 17 (by kernel_rfl)
          have hP : ∃ W0, Below wA.heap.size wA W0 ∧ W = W0.setCell ⟨s, 1, none⟩ (.int .i64 (i : Int)) := hP
          obtain ⟨W0, hb0, hW⟩ : ∃ W0, Below wA.heap.size wA W0 ∧ W = W0.setCell ⟨s, 1, none⟩ (.int .i64 (i : Int)) := hP
          obtain ⟨⟨z1, h1c⟩, ⟨z2, h2c⟩, ⟨z3, h3c⟩, hfz⟩ := HST.out W0 hb0
          subst hW
          go_simp
          have hk9 := fun w' (h : ∃ W0, Below wA.heap.size wA W0 ∧ w' = (W0.setCell ⟨s, 1, none⟩ (.int .i64 (i : Int))).setCell ⟨s, 2, none⟩ (.int .i64 (c : Int))) => hK.out w' h
          first | exact hk9 _ ⟨_, hb0, rfl⟩ | (simp only [e6, e17] at hk9; exact hk9 _ ⟨_, hb0, rfl⟩)
        · refine kkP (by decide) fun u W j hP h1 h2 hu => ?_
          have e2 : u 2 = .pointer (some ⟨s, 0, none⟩) := hu 2 (by kernel_rfl)
          have e12 : u 12 = .slice av n cv := hu 12 (by kernel_rfl)
          have e18 : u 18 = undef := hu 18 (by kernel_rfl)
          clear hP h1 h2
          go_simp
        · refine kkP (by decide) fun u W j hP h1 h2 hu => ?_
          have e19 : u 19 = .pointer (some ⟨s, 0, none⟩) := hu 19 (by kernel_rfl)
          clear hP h1 h2
          go_simp
        · refine kkC (t := 2) rfl (by decide) (fun s9 k9 hs9 hk9 => ?_) (fun u W hP hu K hK => ?_)
          · have h9 : s9 = 0 ∨ s9 = 1 := by omega
            rcases h9 with rfl | rfl
            · cases hk9; exact (.cons (c := 20) (by kernel_rfl) (.cons (c := 19) (by kernel_rfl) (.cons (c := 18) (by kernel_rfl) (.cons (c := 17) (by kernel_rfl) (.cons (c := 16) (by kernel_rfl) (.one (by kernel_rfl)))))))
            · cases hk9; exact (.cons (c := 20) (by kernel_rfl) (.cons (c := 19) (by kernel_rfl) (.one (by kernel_rfl))))
          have e12 : u 12 = .slice av n cv := hu 12 (by kernel_rfl)
          have e20 : u 20 = .pointer (some ⟨s, 3, none⟩) := hu 20 (by kernel_rfl)
          have hP : ∃ W0, Below wA.heap.size wA W0 ∧ W = (W0.setCell ⟨s, 1, none⟩ (.int .i64 (i : Int))).setCell ⟨s, 2, none⟩ (.int .i64 (c : Int)) := hP
          obtain ⟨W0, hb0, hW⟩ : ∃ W0, Below wA.heap.size wA W0 ∧ W = (W0.setCell ⟨s, 1, none⟩ (.int .i64 (i : Int))).setCell ⟨s, 2, none⟩ (.int .i64 (c : Int)) := hP
          obtain ⟨⟨z1, h1c⟩, ⟨z2, h2c⟩, ⟨z3, h3c⟩, hfz⟩ := HST.out W0 hb0
          subst hW
          go_simp
          have hk9 := fun w' (h : ∃ W0, Below wA.heap.size wA W0 ∧ w' = ((W0.setCell ⟨s, 1, none⟩ (.int .i64 (i : Int))).setCell ⟨s, 2, none⟩ (.int .i64 (c : Int))).setCell ⟨s, 3, none⟩ (.slice av n cv)) => hK.out w' h
          first | exact hk9 _ ⟨_, hb0, rfl⟩ | (simp only [e12, e20] at hk9; exact hk9 _ ⟨_, hb0, rfl⟩)
      obtain ⟨W0, hb0, hW⟩ : ∃ W0, Below wA.heap.size wA W0 ∧ W6 = ((W0.setCell ⟨s, 1, none⟩ (.int .i64 (i : Int))).setCell ⟨s, 2, none⟩ (.int .i64 (c : Int))).setCell ⟨s, 3, none⟩ (.slice av n cv) := hP
      have HB0 := Lib.hid hb0
      have HW := Lib.hid hW
      clear hb0 hW hv hncv
      go_wp2
      go_ret
      refine ⟨rfl, ?_⟩
      rw [HW.out]
      have hS := ((HS.out.below' HB0.out).set 1 (.int .i64 (i : Int))).set 2 (.int .i64 (c : Int)) |>.set 3 (.slice av n cv)
      have hfr : Fr (fun x => x = s) w (((W0.setCell ⟨s, 1, none⟩ (.int .i64 (i : Int))).setCell ⟨s, 2, none⟩ (.int .i64 (c : Int))).setCell ⟨s, 3, none⟩ (.slice av n cv)) := (((HF.out.call HB0.out).setCell (.inl rfl) _).setCell (.inl rfl) _).setCell (.inl rfl) _
      have ho := own_setOther (o := 3) (own_setOther (o := 2) (own_setOther (o := 1) (own_below HO.out HB0.out) HB.out.lt (.int .i64 (i : Int))) HB.out.lt (.int .i64 (c : Int))) HB.out.lt (.slice av n cv)
      have e1 : (pad64 b).take (64 * k) = pad64 b := List.take_of_length_le (by rw [HPL.out]; omega)
      rw [e1, ← HPL.out] at ho
      obtain ⟨a9, c9, ev, hr9, hp9⟩ := own_rdw ho
      cases ev
      have hr := rd_takeS hr9 (r := n) (by rw [HPL.out, ← HM2.out]; exact HNM.out)
      have e2 : (pad64 b).take n = b := by unfold pad64; rw [HBN.out, List.take_append_of_le_length (Nat.le_refl _), List.take_of_length_le (Nat.le_refl _)]
      rw [e2] at hr
      have HBL := HBN.out
      subst HBL
      refine ⟨fun x => x = s ∨ ∃ p, av = some p ∧ x = p.block, ⟨HIN.out, HCN.out, by show b.length ≤ 1000000; have := HBIG.out; omega, .inl rfl, fun x hx => ?_, av, cv, hS, hr, fun p hp => ⟨.inr ⟨p, hp, rfl⟩, ?_⟩⟩, fun x hx => ?_, hfr⟩
      · rcases hx with rfl | ⟨p, hp, rfl⟩
        · exact hS.lt
        · exact (hp9 p hp).2
      · have := (hp9 p hp).1; have := HB.out.lt; omega
      · rcases hx with rfl | ⟨p, hp, rfl⟩
        · exact .inl rfl
        · exact .inr (hp9 p hp).1
end Go.Proofs.Ytogjbhkhdccahaa
namespace Go.Proofs.Ytogjbhkhdccahaa
open Go Go.RowKit Go.Maps
set_option maxRecDepth 100000 in
set_option maxHeartbeats 1000000 in
theorem stLook_any {w : World} {g i c : Nat} {b : List UInt8} {d : Bd} {F : Nat → Prop} (hd : Dv w g d F) (G : Gs d i c b) (hN : d.good.length ≤ 1000) :
    Calls Try.prog 29 #[.pointer (some ⟨g, 0, none⟩)] w fun e w' => ∃ s E, e = .returned (.tuple #[.pointer (some ⟨s, 0, none⟩), .int .i64 0]) ∧ Sv w' s g ⟨i, c, b, false⟩ E ∧ (∀ x, E x → w.heap.size ≤ x) ∧ Below w.heap.size w w' := by
  have h64 := G.blocks
  have hl : ¬ ((d.good.length : Int) < 64) := by omega
  have hl2 : decide (d.good.length < 64) = false := decide_eq_false (by omega)
  have HD := Lib.hid hd; have HG := Lib.hid G
  have HN := Lib.hid hN
  have HR : Hid (∀ (w1 : World), Below w.heap.size w w1 → w.heap.size ≤ w1.heap.size → Blk w1 w.heap.size (stS g 1 0 (.slice none 0 0)) 50 → Calls Try.prog 38 #[.pointer (some ⟨w.heap.size, 0, none⟩)] w1 fun e w' => e = .returned (.bool true) ∧ ReadT w1 w' w.heap.size g i c b) := Lib.hid (fun w1 hb _ hB => by
    by_cases hc : c = 0
    · subst hc
      obtain ⟨hb0, rfl⟩ := G.none rfl
      subst hb0
      exact stRead_none hB (hd.later hb) G hN
    · exact stRead_some hB (hd.later hb) (fun h => by have := hd.lt _ h; omega) G hc hN)
  clear hd G h64 hN
  go_enter Try.func29, Try.ntmps29
  go_wp2_with (first
    | (go_at_call 23; (with_reducible refine (bLen_any HD.out).mono ?_); rintro e wz ⟨rfl, rfl⟩)
    | (go_at_call 38; go_must (refine (HR.out _ (by repeat (first | (with_reducible refine Below.alloc' ?_ _) | (with_reducible refine Below.drew ?_) | (with_reducible refine below_drewN ?_ _) | ((with_reducible refine Below.setCell ?_ ?_ _); rotate_left; (focus (first | exact Nat.le_refl _ | (simp; done) | (simp; omega)))) | (with_reducible assumption) | (with_reducible exact Below.refl _ _))) (by simp) (by exact Blk.new _ _ _)).mono ?_); (rintro e w2 ⟨rfl, hT⟩; have HT := Lib.hid hT; clear hT)))
  go_ret2
  obtain ⟨E', hS, hE, hf⟩ := HT.out
  refine ⟨w.heap.size, E', rfl, hS, fun x hx => ?_, ?_⟩
  · rcases hE x hx with rfl | h
    · exact Nat.le_refl _
    · simp at h; omega
  · exact ((Below.refl _ _).alloc (Nat.le_refl _) _).trans (hf.below (by simp) (fun x hx => Nat.le_of_eq hx.symm))
set_option maxRecDepth 100000 in
set_option maxHeartbeats 400000 in
theorem stLook_small {w : World} {g : Nat} {d : Bd} {F : Nat → Prop} (hd : Dv w g d F) (hN : d.good.length < 64) :
    Calls Try.prog 29 #[.pointer (some ⟨g, 0, none⟩)] w fun e w' => e = .returned (.tuple #[.pointer none, .int .i64 1]) ∧ w = w' := by
  have hl : (d.good.length : Int) < 64 := by omega
  have hl2 : decide (d.good.length < 64) = true := decide_eq_true (by omega)
  have HD := Lib.hid hd
  clear hd hN
  go_enter Try.func29, Try.ntmps29
  go_wp2_with (go_at_call 23; (with_reducible refine (bLen_any HD.out).mono ?_); rintro e wz ⟨rfl, rfl⟩)
  go_ret2
  exact ⟨rfl, rfl⟩
set_option maxRecDepth 100000 in
set_option maxHeartbeats 400000 in
theorem stLook_nil (w : World) : Calls Try.prog 29 #[.pointer none] w fun e w' => e = .returned (.tuple #[.pointer none, .int .i64 1]) ∧ w = w' := by
  go_enter Try.func29, Try.ntmps29
  go_wp2_with (go_at_call 23; (with_reducible refine (bLen_nil _).mono ?_); rintro e wz ⟨rfl, rfl⟩)
  go_ret2
  exact ⟨rfl, rfl⟩
set_option maxRecDepth 100000 in
set_option maxHeartbeats 400000 in
theorem stOpen_small {w : World} {g : Nat} {d : Bd} {F : Nat → Prop} (hd : Dv w g d F) (hN : d.good.length < 64) :
    Calls Try.prog 14 #[.pointer (some ⟨g, 0, none⟩)] w fun e w' => e = .returned (.tuple #[.pointer none, .int .i64 1]) ∧ w = w' := by
  have HD := Lib.hid hd; have HN := Lib.hid hN
  clear hd hN
  go_enter Try.func14, Try.ntmps14
  go_wp2_with (go_at_call 29; (with_reducible refine (stLook_small HD.out HN.out).mono ?_); rintro e wz ⟨rfl, rfl⟩)
  go_ret2
  exact ⟨rfl, rfl⟩
set_option maxRecDepth 100000 in
set_option maxHeartbeats 400000 in
theorem stOpen_nil (w : World) : Calls Try.prog 14 #[.pointer none] w fun e w' => e = .returned (.tuple #[.pointer none, .int .i64 1]) ∧ w = w' := by
  go_enter Try.func14, Try.ntmps14
  go_wp2_with (go_at_call 29; (with_reducible refine (stLook_nil _).mono ?_); rintro e wz ⟨rfl, rfl⟩)
  go_ret2
  exact ⟨rfl, rfl⟩
set_option maxRecDepth 100000 in
set_option maxHeartbeats 1000000 in
/-- Opening: as the device has it, flushed; or the power is off. -/
theorem stOpen_any {w : World} {g i c : Nat} {b : List UInt8} {d : Bd} {F : Nat → Prop} (hd : Dv w g d F) (G : Gs d i c b) (hN : d.good.length ≤ 1000) (ho : d.ops < 1000000) (hl : d.left ≤ 9223372036854775807) :
    Calls Try.prog 14 #[.pointer (some ⟨g, 0, none⟩)] w fun e w' => ∃ F', Dv w' g d.flush F' ∧ (∀ x, F' x → F x ∨ w.heap.size ≤ x) ∧ Fr F w w' ∧
      ((d.flushC = 0 ∧ ∃ s E, e = .returned (.tuple #[.pointer (some ⟨s, 0, none⟩), .int .i64 0]) ∧ Sv w' s g ⟨i, c, b, false⟩ E ∧ (∀ x, E x → w.heap.size ≤ x ∧ ¬ F' x)) ∨ (d.flushC ≠ 0 ∧ e = .returned (.tuple #[.pointer none, .int .i64 d.flushC]))) := by
  have HD := Lib.hid hd; have HG := Lib.hid G; have HN := Lib.hid hN; have HO := Lib.hid ho; have HL := Lib.hid hl
  have H0 : Hid (0 < d.good.length) := Lib.hid (by have := G.blocks; omega)
  obtain ⟨fc, hfc⟩ : ∃ fc, fc = d.flushC := ⟨_, rfl⟩
  have HFC := Lib.hid hfc
  clear hd G hN ho hl
  by_cases hf0 : fc = 0
  · subst hf0
    clear hfc
    go_enter Try.func14, Try.ntmps14
    go_wp2_with (first
      | (go_at_call 29; (with_reducible refine (stLook_any HD.out HG.out HN.out).mono ?_); rintro e w1 ⟨s, E, rfl, hS, hE, hb⟩; have HS := Lib.hid hS; have HE := Lib.hid hE; have HB := Lib.hid hb; clear hS hE hb)
      | (go_at_call 30; (with_reducible refine (bFlush_any (HD.out.later HB.out) H0.out (by have := HN.out; omega) HO.out HL.out).mono ?_); rw [← HFC.out]; rintro e w2 ⟨rfl, F', hD, hfr, hF'⟩; have HD2 := Lib.hid hD; have HF := Lib.hid hfr; have HF' := Lib.hid hF'; clear hD hfr hF'))
    go_ret2
    refine ⟨F', HD2.out, fun x hx => (HF'.out x hx).imp id (fun h => Nat.le_trans HB.out.size h), (Fr.of_below (F := F) HB.out).trans HF.out (fun x hx => .inl hx), .inl ⟨HFC.out.symm, s, E, rfl, HS.out.frame HF.out (fun x hx hF => by have := HE.out x hx; have := HD.out.lt x hF; omega), fun x hx => ⟨HE.out x hx, fun hF => ?_⟩⟩⟩
    rcases HF'.out x hF with h | h
    · have := HE.out x hx; have := HD.out.lt x h; omega
    · have := HS.out.lt x hx; omega
  · have hfb : (fc == 0) = false := by rw [beq_eq_false_iff_ne]; exact hf0
    clear hfc
    go_enter Try.func14, Try.ntmps14
    go_wp2_with (first
      | (go_at_call 29; (with_reducible refine (stLook_any HD.out HG.out HN.out).mono ?_); rintro e w1 ⟨s, E, rfl, hS, hE, hb⟩; have HS := Lib.hid hS; have HE := Lib.hid hE; have HB := Lib.hid hb; clear hS hE hb)
      | (go_at_call 30; (with_reducible refine (bFlush_any (HD.out.later HB.out) H0.out (by have := HN.out; omega) HO.out HL.out).mono ?_); rw [← HFC.out]; rintro e w2 ⟨rfl, F', hD, hfr, hF'⟩; have HD2 := Lib.hid hD; have HF := Lib.hid hfr; have HF' := Lib.hid hF'; clear hD hfr hF'))
    go_ret2
    exact ⟨F', HD2.out, fun x hx => (HF'.out x hx).imp id (fun h => Nat.le_trans HB.out.size h), (Fr.of_below (F := F) HB.out).trans HF.out (fun x hx => .inl hx), .inr ⟨fun h => hf0 (HFC.out.trans h), by have e := HFC.out; subst e; rfl⟩⟩
end Go.Proofs.Ytogjbhkhdccahaa
namespace Go.Proofs.Ytogjbhkhdccahaa
open Go Go.RowKit Go.Maps
/-- A device, all its blocks from B on, none of K. -/
structure DxN (B : Nat) (K : Nat → Prop) (w : World) (g : Nat) (d : Bd) : Prop where
  ex : ∃ F, Dv w g d F ∧ ∀ x, F x → B ≤ x ∧ ¬ K x
  kl : ∀ x, K x → x < w.heap.size
  bs : B ≤ w.heap.size
/-- A device and a store on it. -/
structure SxN (B : Nat) (K : Nat → Prop) (w : World) (g s : Nat) (d : Bd) (st : Bs) : Prop where
  ex : ∃ E F, Sv w s g st E ∧ Dv w g d F ∧ (∀ x, E x → ¬ F x) ∧ (∀ x, E x → B ≤ x ∧ ¬ K x) ∧ (∀ x, F x → B ≤ x ∧ ¬ K x)
  kl : ∀ x, K x → x < w.heap.size
  bs : B ≤ w.heap.size
theorem DxN.later {B : Nat} {K : Nat → Prop} {w w' : World} {g : Nat} {d : Bd} (h : DxN B K w g d) (hb : Below w.heap.size w w') : DxN B K w' g d := by
  obtain ⟨F, h1, h2⟩ := h.ex
  exact ⟨⟨F, h1.later hb, h2⟩, fun x hx => Nat.lt_of_lt_of_le (h.kl x hx) hb.size, Nat.le_trans h.bs hb.size⟩
theorem SxN.later {B : Nat} {K : Nat → Prop} {w w' : World} {g s : Nat} {d : Bd} {st : Bs} (h : SxN B K w g s d st) (hb : Below w.heap.size w w') : SxN B K w' g s d st := by
  obtain ⟨E, F, h1, h2, h3, h4, h5⟩ := h.ex
  exact ⟨⟨E, F, h1.later hb, h2.later hb, h3, h4, h5⟩, fun x hx => Nat.lt_of_lt_of_le (h.kl x hx) hb.size, Nat.le_trans h.bs hb.size⟩
/-- What is new may be kept too. -/
theorem SxN.keep {B : Nat} {K K' : Nat → Prop} {w w' : World} {g s : Nat} {d : Bd} {st : Bs} (h : SxN B K w g s d st) (hb : Below w.heap.size w w') (hK : ∀ x, K' x → K x ∨ (w.heap.size ≤ x ∧ x < w'.heap.size)) : SxN B K' w' g s d st := by
  obtain ⟨E, F, h1, h2, h3, h4, h5⟩ := h.ex
  refine ⟨⟨E, F, h1.later hb, h2.later hb, h3, fun x hx => ⟨(h4 x hx).1, fun hk => ?_⟩, fun x hx => ⟨(h5 x hx).1, fun hk => ?_⟩⟩, fun x hx => ?_, Nat.le_trans h.bs hb.size⟩
  · rcases hK x hk with h | h
    · exact (h4 x hx).2 h
    · have := h1.lt x hx; omega
  · rcases hK x hk with h | h
    · exact (h5 x hx).2 h
    · have := h2.lt x hx; omega
  · rcases hK x hx with h' | h'
    · exact Nat.lt_of_lt_of_le (h.kl x h') hb.size
    · exact h'.2
theorem DxN.keep {B : Nat} {K K' : Nat → Prop} {w w' : World} {g : Nat} {d : Bd} (h : DxN B K w g d) (hb : Below w.heap.size w w') (hK : ∀ x, K' x → K x ∨ (w.heap.size ≤ x ∧ x < w'.heap.size)) : DxN B K' w' g d := by
  obtain ⟨F, h2, h5⟩ := h.ex
  refine ⟨⟨F, h2.later hb, fun x hx => ⟨(h5 x hx).1, fun hk => ?_⟩⟩, fun x hx => ?_, Nat.le_trans h.bs hb.size⟩
  · rcases hK x hk with h | h
    · exact (h5 x hx).2 h
    · have := h2.lt x hx; omega
  · rcases hK x hx with h' | h'
    · exact Nat.lt_of_lt_of_le (h.kl x h') hb.size
    · exact h'.2
theorem SxN.dx {B : Nat} {K : Nat → Prop} {w : World} {g s : Nat} {d : Bd} {st : Bs} (h : SxN B K w g s d st) : DxN B K w g d := by
  obtain ⟨E, F, h1, h2, h3, h4, h5⟩ := h.ex
  exact ⟨⟨F, h2, h5⟩, h.kl, h.bs⟩
/-- What runs in a store's own memory. -/
def OwnRun (B : Nat) (K : Nat → Prop) (w w' : World) : Prop := Fr (fun x => B ≤ x ∧ ¬ K x) w w'
theorem OwnRun.below {B : Nat} {K : Nat → Prop} {w w' : World} (h : OwnRun B K w w') (hB : B ≤ w.heap.size) : Below B w w' := Fr.below h hB (fun _ hx => hx.1)
theorem OwnRun.rd {B : Nat} {K : Nat → Prop} {w w' : World} (h : OwnRun B K w w') {a : Option Addr} {n c : Nat} {l : List UInt8} (hr : RdB w a n c l) (hK : ∀ p, a = some p → K p.block) : RdB w' a n c l := hr.frame h (fun p hp hx => hx.2 (hK p hp))
theorem OwnRun.trans {B : Nat} {K : Nat → Prop} {a b c : World} (h : OwnRun B K a b) (k : OwnRun B K b c) : OwnRun B K a c := Fr.trans h k (fun _ hx => .inl hx)
theorem OwnRun.of_below {B : Nat} {K : Nat → Prop} {a b : World} (h : Below a.heap.size a b) : OwnRun B K a b := Fr.of_below h
theorem stSave_new {B : Nat} {K : Nat → Prop} {w : World} {s g n cap : Nat} {a : Option Addr} {l : List UInt8} {d : Bd} {st : Bs} (h : SxN B K w g s d st) (hr : RdB w a n cap l) (hrK : ∀ p, a = some p → K p.block) (h64 : 64 ≤ d.good.length) (hN : d.good.length ≤ 1000)
    (ho : d.ops + 1000 < 1000000) (hl : d.left ≤ 9223372036854775807) (hc : st.cnt + 1 < 1000000) :
    Calls Try.prog 13 #[.pointer (some ⟨s, 0, none⟩), .slice a n cap] w fun e w' => e = .returned (.int .i64 (saveP d st l).2.2) ∧ SxN B K w' g s (saveP d st l).1 (saveP d st l).2.1 ∧ OwnRun B K w w' := by
  obtain ⟨E, F, h1, h2, h3, h4, h5⟩ := h.ex
  refine (stSave_any h1 h2 h3 hr (fun p hp hx => (h5 _ hx).2 (hrK p hp)) h64 hN ho hl hc).mono ?_
  rintro e w' ⟨rfl, E', F', k1, k2, k3, k4, k5, k6⟩
  have hk : ∀ x, K x → x < w'.heap.size := fun x hx => Nat.lt_of_lt_of_le (h.kl x hx) k6.size
  have hnew : ∀ x, w.heap.size ≤ x → B ≤ x ∧ ¬ K x := fun x hx => ⟨Nat.le_trans h.bs hx, fun hk => by have := h.kl x hk; omega⟩
  refine ⟨rfl, ⟨⟨E', F', k1, k2, k3, fun x hx => (k4 x hx).elim (h4 x) (hnew x), fun x hx => (k5 x hx).elim (h5 x) (hnew x)⟩, hk, Nat.le_trans h.bs k6.size⟩, k6.mono (fun x hx => .inl ?_)⟩
  rcases hx with rfl | hx
  · exact h4 _ h1.own
  · exact h5 x hx
theorem stOpen_new {B : Nat} {K : Nat → Prop} {w : World} {g i c : Nat} {b : List UInt8} {d : Bd} (h : DxN B K w g d) (G : Gs d i c b) (hN : d.good.length ≤ 1000) (ho : d.ops < 1000000) (hl : d.left ≤ 9223372036854775807) (hf : d.flushC = 0) :
    Calls Try.prog 14 #[.pointer (some ⟨g, 0, none⟩)] w fun e w' => ∃ s, e = .returned (.tuple #[.pointer (some ⟨s, 0, none⟩), .int .i64 0]) ∧ SxN B K w' g s d.flush ⟨i, c, b, false⟩ ∧ OwnRun B K w w' := by
  obtain ⟨F, h2, h5⟩ := h.ex
  refine (stOpen_any h2 G hN ho hl).mono ?_
  rintro e w' ⟨F', k2, k5, k6, hk⟩
  rcases hk with ⟨_, s, E, rfl, k1, k4⟩ | ⟨hn, _⟩
  · have hnew : ∀ x, w.heap.size ≤ x → B ≤ x ∧ ¬ K x := fun x hx => ⟨Nat.le_trans h.bs hx, fun hk => by have := h.kl x hk; omega⟩
    exact ⟨s, rfl, ⟨⟨E, F', k1, k2, fun x hx => (k4 x hx).2, fun x hx => hnew x (k4 x hx).1, fun x hx => (k5 x hx).elim (h5 x) (hnew x)⟩, fun x hx => Nat.lt_of_lt_of_le (h.kl x hx) k6.size, Nat.le_trans h.bs k6.size⟩, k6.mono (fun x hx => .inl (h5 x hx))⟩
  · exact absurd hf hn
/-- Opening a device whose power may be off. -/
theorem stOpen_whatever {B : Nat} {K : Nat → Prop} {w : World} {g i c : Nat} {b : List UInt8} {d : Bd} (h : DxN B K w g d) (G : Gs d i c b) (hN : d.good.length ≤ 1000) (ho : d.ops < 1000000) (hl : d.left ≤ 9223372036854775807) :
    Calls Try.prog 14 #[.pointer (some ⟨g, 0, none⟩)] w fun e w' => ∃ v, e = .returned v ∧ DxN B K w' g d.flush ∧ OwnRun B K w w' := by
  obtain ⟨F, h2, h5⟩ := h.ex
  refine (stOpen_any h2 G hN ho hl).mono ?_
  rintro e w' ⟨F', k2, k5, k6, hk⟩
  have hnew : ∀ x, w.heap.size ≤ x → B ≤ x ∧ ¬ K x := fun x hx => ⟨Nat.le_trans h.bs hx, fun hk => by have := h.kl x hk; omega⟩
  have hD : DxN B K w' g d.flush := ⟨⟨F', k2, fun x hx => (k5 x hx).elim (h5 x) (hnew x)⟩, fun x hx => Nat.lt_of_lt_of_le (h.kl x hx) k6.size, Nat.le_trans h.bs k6.size⟩
  have hR : OwnRun B K w w' := k6.mono (fun x hx => .inl (h5 x hx))
  rcases hk with ⟨_, s, E, rfl, _⟩ | ⟨_, rfl⟩
  · exact ⟨_, rfl, hD, hR⟩
  · exact ⟨_, rfl, hD, hR⟩
theorem bCrash_new {B : Nat} {K : Nat → Prop} {w : World} {g np capp : Nat} {pa : Option Addr} {picks : List Int} {d : Bd} (h : DxN B K w g d) (h0 : 0 < d.good.length) (hN : d.good.length ≤ 1000) (ho : d.ops < 1000000) (hp : RdI w pa np capp picks) :
    Calls Try.prog 17 #[.pointer (some ⟨g, 0, none⟩), .slice pa np capp] w fun e w' => ∃ g', e = .returned (.pointer (some ⟨g', 0, none⟩)) ∧ DxN B K w' g' (d.crash picks) ∧ Below w.heap.size w w' := by
  obtain ⟨F, h2, h5⟩ := h.ex
  refine (bCrash_any h2 h0 hN ho hp).mono ?_
  rintro e w' ⟨g', F', rfl, k1, k2, k3⟩
  exact ⟨g', rfl, ⟨⟨F', k1, fun x hx => ⟨Nat.le_trans h.bs (k2 x hx), fun hk => by have := h.kl x hk; have := k2 x hx; omega⟩⟩, fun x hx => Nat.lt_of_lt_of_le (h.kl x hx) k3.size, Nat.le_trans h.bs k3.size⟩, k3⟩
theorem bCut_new {B : Nat} {K : Nat → Prop} {w : World} {g s : Nat} {n : Int} {d : Bd} {st : Bs} (h : SxN B K w g s d st) : Calls Try.prog 22 #[.pointer (some ⟨g, 0, none⟩), .int .i64 n] w fun e w' => e = .returned (.tuple #[]) ∧ SxN B K w' g s (d.cutAt n) st ∧ OwnRun B K w w' := by
  obtain ⟨E, F, h1, h2, h3, h4, h5⟩ := h.ex
  refine (bCut_any h2).mono ?_
  rintro e w' ⟨rfl, k1, k2⟩
  have hg : F g := by obtain ⟨gb, c, mb, _, hR⟩ := h2.ex; exact hR.own
  exact ⟨rfl, ⟨⟨E, F, h1.frame k2 (fun x hx e => h3 x hx (e ▸ hg)), k1, h3, h4, h5⟩, fun x hx => Nat.lt_of_lt_of_le (h.kl x hx) k2.size, Nat.le_trans h.bs k2.size⟩, k2.mono (fun x hx => .inl (by subst hx; exact h5 _ hg))⟩
theorem bCut_newD {B : Nat} {K : Nat → Prop} {w : World} {g : Nat} {n : Int} {d : Bd} (h : DxN B K w g d) : Calls Try.prog 22 #[.pointer (some ⟨g, 0, none⟩), .int .i64 n] w fun e w' => e = .returned (.tuple #[]) ∧ DxN B K w' g (d.cutAt n) ∧ OwnRun B K w w' := by
  obtain ⟨F, h2, h5⟩ := h.ex
  refine (bCut_any h2).mono ?_
  rintro e w' ⟨rfl, k1, k2⟩
  have hg : F g := by obtain ⟨gb, c, mb, _, hR⟩ := h2.ex; exact hR.own
  exact ⟨rfl, ⟨⟨F, k1, h5⟩, fun x hx => Nat.lt_of_lt_of_le (h.kl x hx) k2.size, Nat.le_trans h.bs k2.size⟩, k2.mono (fun x hx => .inl (by subst hx; exact h5 _ hg))⟩
def holdsP (st : Bs) (l : List UInt8) (n : Nat) : Bool := if n = 0 then decide (st.cnt = 0) else decide (st.data = l) && decide (st.cnt = n)
set_option maxRecDepth 100000 in
set_option maxHeartbeats 1000000 in
theorem stHolds_any {w : World} {s g m c n : Nat} {a : Option Addr} {l : List UInt8} {st : Bs} {E : Nat → Prop} (h : Sv w s g st E) (hr : RdB w a m c l) :
    Calls Try.prog 15 #[.pointer (some ⟨s, 0, none⟩), .slice a m c, .int .i64 (n : Int)] w fun e w' => e = .returned (.bool (holdsP st l n)) ∧ Below w.heap.size w w' := by
  have HS := Lib.hid h; have HR := Lib.hid hr
  clear h hr
  by_cases hn : n = 0
  · subst hn
    by_cases hc : st.cnt = 0
    · have HC := Lib.hid hc
      have HP : Hid (holdsP st l 0 = true) := Lib.hid (by unfold holdsP; rw [if_pos rfl, hc]; rfl)
      have hc0 : (((st.cnt : Nat) : Int) == 0) = true := by rw [hc]; rfl
      rw [HP.out]
      clear hc
      go_enter Try.func15, Try.ntmps15
      go_wp2_with (first
        | (go_at_call 16; (with_reducible refine (stLoad_none HS.out HC.out).mono ?_); rintro e wz ⟨rfl, rfl⟩)
        | (go_at_call 21; (with_reducible refine (stCount_any HS.out).mono ?_); rintro e wz ⟨rfl, rfl⟩))
      go_ret
      exact ⟨rfl, Below.refl _ _⟩
    · have HC := Lib.hid hc
      have HP : Hid (holdsP st l 0 = false) := Lib.hid (by unfold holdsP; rw [if_pos rfl]; exact decide_eq_false hc)
      rw [HP.out]
      clear hc
      go_enter Try.func15, Try.ntmps15
      go_wp2_with (go_at_call 16; (with_reducible refine (stLoad_any HS.out HC.out).mono ?_); rintro e w1 ⟨v, rfl, ho, hb⟩; have HO := Lib.hid ho; have HB := Lib.hid hb; clear ho hb)
      go_ret
      exact ⟨rfl, HB.out⟩
  · have hn0 : ((n : Int) == 0) = false := by rw [beq_eq_false_iff_ne]; omega
    have hn1 : (n == 0) = false := by rw [beq_eq_false_iff_ne]; omega
    by_cases hc : st.cnt = 0
    · have HC := Lib.hid hc
      have HP : Hid (holdsP st l n = false) := Lib.hid (by unfold holdsP; rw [if_neg hn, decide_eq_false (show ¬ st.cnt = n by omega), Bool.and_false])
      rw [HP.out]
      clear hc hn
      go_enter Try.func15, Try.ntmps15
      go_wp2_with (go_at_call 16; (with_reducible refine (stLoad_none HS.out HC.out).mono ?_); rintro e wz ⟨rfl, rfl⟩)
      go_ret
      exact ⟨rfl, Below.refl _ _⟩
    · have HC := Lib.hid hc
      have HN := Lib.hid hn
      have hcn : ∀ x : Bool, x = decide (st.cnt = n) → (((st.cnt : Nat) : Int) == (n : Int)) = x := fun x hx => by rw [hx]; by_cases h : st.cnt = n <;> simp [h] <;> omega
      have HCN := Lib.hid hcn
      clear hc hn hcn
      by_cases hd : st.data = l
      · have HP : Hid (holdsP st l n = decide (st.cnt = n)) := Lib.hid (by unfold holdsP; rw [if_neg HN.out, decide_eq_true hd, Bool.true_and])
        subst hd
        obtain ⟨x, hx⟩ : ∃ x, x = decide (st.cnt = n) := ⟨_, rfl⟩
        have hcn := HCN.out x hx
        rw [HP.out, ← hx]
        clear hx
        go_enter Try.func15, Try.ntmps15
        go_wp2_with (first
          | (go_at_call 16; go_must ((with_reducible refine (stLoad_any HS.out HC.out).mono ?_); rintro e w1 ⟨v, rfl, ho, hb⟩; obtain ⟨a1, c1, rfl, hr1, _⟩ := own_rdw ho; have HB := Lib.hid hb; have hv1 := conv_any hr1; have hv2 := conv_any (HR.out.below hb); have hq : ((bs st.data).toList == (bs st.data).toList) = true := (by simp); clear ho hb hr1))
          | (go_at_call 21; (with_reducible refine (stCount_any (HS.out.later HB.out)).mono ?_); rintro e wz ⟨rfl, rfl⟩))
        go_ret
        exact ⟨rfl, HB.out⟩
      · have HP : Hid (holdsP st l n = false) := Lib.hid (by unfold holdsP; rw [if_neg HN.out, decide_eq_false hd, Bool.false_and])
        have HD := Lib.hid hd
        rw [HP.out]
        clear hd
        go_enter Try.func15, Try.ntmps15
        go_wp2_with (first
          | (go_at_call 16; (with_reducible refine (stLoad_any HS.out HC.out).mono ?_); rintro e w1 ⟨v, rfl, ho, hb⟩; obtain ⟨a1, c1, rfl, hr1, _⟩ := own_rdw ho; have HB := Lib.hid hb; have hv1 := conv_any hr1; have hv2 := conv_any (HR.out.below hb); have hq : ((bs st.data).toList == (bs l).toList) = false := (by rw [bs_eqT]; exact decide_eq_false HD.out); clear ho hb hr1))
        go_ret
        exact ⟨rfl, HB.out⟩
end Go.Proofs.Ytogjbhkhdccahaa
namespace Go.Proofs.Ytogjbhkhdccahaa
open Go Go.RowKit Go.Maps
/-- A device of 256 blocks and a store on it that runs. -/
structure Run (m : Nat) (d : Bd) (st : Bs) : Prop where
  ok : d.Ok
  gs : Gs d st.inn st.cnt st.data
  len : d.good.length = 256
  ops : d.ops ≤ m
  left : d.left ≤ 9223372036854775807
  off : st.off = false
structure On (d : Bd) : Prop where
  cut : d.cut = false
  off : d.off = false
theorem On.flushC {d : Bd} (h : On d) : d.flushC = 0 := by unfold Bd.flushC; rw [Bd.offN_on h.cut h.off]; rfl
theorem On.flush {d : Bd} (h : On d) : On d.flush := ⟨d.flush_near.cut.trans h.cut, d.flush_near.on h.cut h.off⟩
theorem Run.open {m : Nat} {d : Bd} {i c : Nat} {b : List UInt8} (hok : d.Ok) (G : Gs d i c b) (hl : d.good.length = 256) (ho : d.ops ≤ m) (hle : d.left ≤ 9223372036854775807) : Run (m + 1) d.flush ⟨i, c, b, false⟩ :=
  ⟨Bd.flush_ok hok, G.flush, d.flush_near.len.trans hl, Nat.le_trans d.flush_near.ops (by omega), d.flush_near.left hle, rfl⟩
theorem crash_on (d : Bd) (picks : List Int) : On (d.crash picks) := ⟨rfl, rfl⟩
theorem Run.save {m : Nat} {d : Bd} {st : Bs} {l : List UInt8} (h : Run m d st) (ho : On d) (hl : l.length ≤ 5120) (hc : st.cnt + 1 < 1000000) :
    (saveP d st l).2.2 = 0 ∧ (saveP d st l).2.1 = ⟨1 - st.inn, st.cnt + 1, l, false⟩ ∧ Run (m + 100) (saveP d st l).1 ⟨1 - st.inn, st.cnt + 1, l, false⟩ ∧ On (saveP d st l).1 := by
  obtain ⟨h1, h2, h3⟩ := save_law h.ok h.gs h.off (by rw [h.len]; omega) hc
  have h0 := h3 ho.cut ho.off
  rcases h1 with ⟨e1, e2, e3⟩ | ⟨e1, _⟩
  · have hr : rowsN l ≤ 80 := by unfold rowsN; omega
    exact ⟨e1, e2, ⟨h2.ok h.ok, e3, h2.len.trans h.len, by have := h2.ops; have := h.ops; omega, h2.left h.left, rfl⟩, ⟨h2.cut.trans ho.cut, h2.on ho.cut ho.off⟩⟩
  · rw [h0] at e1; cases e1
def st0 : Bs := ⟨1, 0, [], false⟩
def d0 : Bd := (Bd.new 256).flush
theorem new_on : On (Bd.new 256) := ⟨rfl, rfl⟩
theorem run0 : Run 1 d0 st0 ∧ On d0 := ⟨Run.open (m := 0) (Bd.new_ok 256) (Gs.new (by omega)) List.length_replicate (Nat.le_refl _) (by show (0 : Int) ≤ _; omega), new_on.flush⟩
def noK (_ : Nat) : Prop := False
/-- A literal's bytes, as they stand behind their conversion. -/
def litW (W : World) (l : List UInt8) : World := (W.alloc (.cells (l.map bV).toArray 5)).freeze ⟨W.heap.size, l.length, none⟩ 1
theorem litW_at (W : World) (l : List UInt8) : ∃ fz, (litW W l).heap[W.heap.size]? = some (.cells (l.map bV).toArray 5 fz) := by
  have h : (W.alloc (.cells (l.map bV).toArray 5)).heap[W.heap.size]? = some (.cells (l.map bV).toArray 5 (0, 0)) := by
    show (W.heap.push _)[W.heap.size]? = _
    simp
  exact freeze_at h
theorem litW_below (W : World) (l : List UInt8) : Below W.heap.size W (litW W l) := ((Fr.refl (fun x => x = W.heap.size) W).alloc _ |>.trans (Fr.freeze _ _ _) (fun _ hx => .inl hx)).below (Nat.le_refl _) (fun _ hx => Nat.le_of_eq hx.symm)
theorem litW_size (W : World) (l : List UInt8) : (litW W l).heap.size = W.heap.size + 1 := by
  unfold litW World.freeze
  split <;> simp
theorem litW_rd (W : World) {l : List UInt8} {n : Nat} (hn : l.length = n) (hm : n ≤ maxLen) : RdB (litW W l) (some ⟨W.heap.size, 0, none⟩) n n l := by
  subst hn
  obtain ⟨fz, h⟩ := litW_at W l
  exact heap_rd h hm
theorem litW_run (W : World) (l : List UInt8) {n : Nat} (hn : l.length = n) : (convert 28 28 (.slice (some ⟨W.heap.size, 0, none⟩) n n)).run Try.prog (W.alloc (.cells (l.map bV).toArray 5)) = .ok (.slice (some ⟨W.heap.size, 0, none⟩) n n) (litW W l) := by
  subst hn
  have h : (W.alloc (.cells (l.map bV).toArray 5)).heap[W.heap.size]? = some (.cells (l.map bV).toArray 5 (0, 0)) := by
    show (W.heap.push _)[W.heap.size]? = _
    simp
  have hsh : (W.alloc (.cells (l.map bV).toArray 5)).shape? W.heap.size = some (5, l.length) := by unfold World.shape?; rw [h]; simp
  simp [convert, run_underlying Try.underlying28, run_underlying Try.underlying5, markStringish, hsh, litW]
theorem bNew_256 {w : World} : Calls Try.prog 20 #[.int .i64 256] w fun e w' => ∃ g, e = .returned (.tuple #[.pointer (some ⟨g, 0, none⟩), .int .i64 0]) ∧ DxN w.heap.size noK w' g (Bd.new 256) ∧ Below w.heap.size w w' :=
  (bNew_any (n := 256) (by omega) (by omega)).mono fun e w' ⟨g, F, e1, hD, hF, hb⟩ => ⟨g, e1, ⟨⟨F, hD, fun x hx => ⟨hF x hx, id⟩⟩, fun _ h => h.elim, hb.size⟩, hb⟩
set_option maxRecDepth 100000 in
set_option maxHeartbeats 1000000 in
theorem stFresh_any (w : World) : Calls Try.prog 10 #[] w fun e w' => ∃ g s, e = .returned (.tuple #[.pointer (some ⟨g, 0, none⟩), .pointer (some ⟨s, 0, none⟩), .bool true]) ∧ SxN w.heap.size noK w' g s d0 st0 ∧ Below w.heap.size w w' := by
  go_enter Try.func10, Try.ntmps10
  go_wp2_with (first
    | (go_at_call 20; (with_reducible refine bNew_256.mono ?_); rintro e w1 ⟨g, rfl, hD, hb⟩; have HD := Lib.hid hD; have HB := Lib.hid hb; clear hD hb)
    | (go_at_call 14; go_must (refine (stOpen_new HD.out (Gs.new (n := 256) (by omega)) (by show (List.replicate 256 zero64).length ≤ 1000; rw [List.length_replicate]; omega) (by decide) (by decide) new_on.flushC).mono ?_; rintro e w2 ⟨s, rfl, hS, hO⟩; have HS := Lib.hid hS; have HO := Lib.hid hO; clear hS hO)))
  go_ret3
  exact ⟨g, s, rfl, HS.out, HB.out.trans (HO.out.below HB.out.size)⟩
theorem stRoom_64 (w : World) : Calls Try.prog 18 #[.int .i64 64] w fun e w' => e = .returned (.int .i64 1280) ∧ w = w' := stRoom_any (n := 64) w (by omega)
theorem stRoom_63 (w : World) : Calls Try.prog 18 #[.int .i64 63] w fun e w' => e = .returned (.int .i64 0) ∧ w = w' := stRoom_any (n := 63) w (by omega)
theorem stRoom_256 (w : World) : Calls Try.prog 18 #[.int .i64 256] w fun e w' => e = .returned (.int .i64 5120) ∧ w = w' := stRoom_any (n := 256) w (by omega)
theorem stHolds_S {B : Nat} {K : Nat → Prop} {w : World} {s g m c : Nat} {a : Option Addr} {l : List UInt8} {d : Bd} {st : Bs} (n : Nat) (z : Int) (hz : z = (n : Int)) (t : Bool) (ht : holdsP st l n = t) (h : SxN B K w g s d st) (hr : RdB w a m c l) :
    Calls Try.prog 15 #[.pointer (some ⟨s, 0, none⟩), .slice a m c, .int .i64 z] w fun e w' => e = .returned (.bool t) ∧ Below w.heap.size w w' := by
  subst hz ht
  obtain ⟨E, F, h1, _⟩ := h.ex
  exact stHolds_any h1 hr
theorem stDead_S {B : Nat} {K : Nat → Prop} {w : World} {s g : Nat} {d : Bd} {st : Bs} (h : SxN B K w g s d st) : Calls Try.prog 19 #[.pointer (some ⟨s, 0, none⟩)] w fun e w' => e = .returned (.bool st.off) ∧ w = w' := by
  obtain ⟨E, F, h1, _⟩ := h.ex
  exact stDead_any h1
theorem stCount_S {B : Nat} {K : Nat → Prop} {w : World} {s g : Nat} {d : Bd} {st : Bs} (h : SxN B K w g s d st) : Calls Try.prog 21 #[.pointer (some ⟨s, 0, none⟩)] w fun e w' => e = .returned (.int .i64 (st.cnt : Nat)) ∧ w = w' := by
  obtain ⟨E, F, h1, _⟩ := h.ex
  exact stCount_any h1
theorem z0 : (0 : Int) = ((0 : Nat) : Int) := rfl
theorem z1 : (1 : Int) = ((1 : Nat) : Int) := rfl
theorem z2 : (2 : Int) = ((2 : Nat) : Int) := rfl
theorem hold0 : holdsP st0 [] 0 = true := by decide
/-- A crash: the new device lies behind all that is there. -/
theorem bCrash_fresh {B : Nat} {K : Nat → Prop} {w : World} {g np capp : Nat} {pa : Option Addr} {picks : List Int} {d : Bd} (h : DxN B K w g d) (h0 : 0 < d.good.length) (hN : d.good.length ≤ 1000) (ho : d.ops < 1000000) (hp : RdI w pa np capp picks) :
    Calls Try.prog 17 #[.pointer (some ⟨g, 0, none⟩), .slice pa np capp] w fun e w' => ∃ g', e = .returned (.pointer (some ⟨g', 0, none⟩)) ∧ DxN w.heap.size noK w' g' (d.crash picks) ∧ Below w.heap.size w w' := by
  obtain ⟨F, h2, h5⟩ := h.ex
  refine (bCrash_any h2 h0 hN ho hp).mono ?_
  rintro e w' ⟨g', F', rfl, k1, k2, k3⟩
  exact ⟨g', rfl, ⟨⟨F', k1, fun x hx => ⟨k2 x hx, id⟩⟩, fun _ hx => hx.elim, k3.size⟩, k3⟩
def atK (a : Option Addr) (x : Nat) : Prop := ∃ p, a = some p ∧ x = p.block
def aL : List UInt8 := [97]
theorem holda : holdsP ⟨0, 1, aL, false⟩ aL 1 = true := by decide
theorem lit_a (W : World) : (convert 28 28 (.slice (some ⟨W.heap.size, 0, none⟩) 1 1)).run Try.prog (W.alloc (.cells #[.int .u8 97] 5)) = .ok (.slice (some ⟨W.heap.size, 0, none⟩) 1 1) (litW W aL) := litW_run W aL rfl
def onlyK (q x : Nat) : Prop := x = q
set_option maxRecDepth 100000 in
set_option maxHeartbeats 2000000 in
theorem stAwake_any (w : World) : Calls Try.prog 9 #[] w fun e w' => e = .returned (.bool true) ∧ Below w.heap.size w w' := by
  have HR0 := Lib.hid run0
  have HRS := Lib.hid (run0.1.save (l := aL) run0.2 (by decide) (by decide))
  obtain ⟨dA, hdA⟩ : ∃ dA, dA = (saveP d0 st0 aL).1 := ⟨_, rfl⟩
  have HDA := Lib.hid hdA
  have HCR : Hid (Gs (dA.crash []) 0 1 aL ∧ (dA.crash []).Ok ∧ (dA.crash []).good.length = 256) := Lib.hid (by rw [hdA]; exact ⟨HRS.out.2.2.1.gs.crash [], Bd.crash_ok HRS.out.2.2.1.ok [], (Bd.crash_len _ _).trans HRS.out.2.2.1.len⟩)
  have HCR2 : Hid ((dA.crash []).good.length ≤ 1000 ∧ (dA.crash []).ops < 1000000 ∧ (dA.crash []).left ≤ 9223372036854775807) := Lib.hid ⟨by rw [HCR.out.2.2]; omega, by show (0 : Nat) < 1000000; omega, by show (0 : Int) ≤ 9223372036854775807; omega⟩
  clear hdA
  go_enter Try.func9, Try.ntmps9
  go_wp2_with (first
    | (go_at_call 10; (with_reducible refine (stFresh_any _).mono ?_); rintro e w1 ⟨g, s, rfl, hS, hb⟩; have HS := Lib.hid hS; have HB := Lib.hid hb; clear hS hb)
    | (go_at_call 14; (with_reducible refine (stOpen_nil _).mono ?_); rintro e wz ⟨rfl, rfl⟩)
    | (go_at_call 15; ((with_reducible refine (stHolds_S 0 0 z0 true hold0 HS.out (RdB.nil _)).mono ?_); rintro e w2 ⟨rfl, hb⟩; have HS2 := Lib.hid (HS.out.later hb); have HB2 := Lib.hid (Below.call HB.out hb); have hlit := lit_a w2; clear hb))
    | (go_at_call 13; go_must (refine (stSave_new (HS2.out.keep (K' := onlyK w2.heap.size) (litW_below w2 aL) (fun x hx => .inr (by cases hx; rw [litW_size]; omega))) (litW_rd w2 rfl (by decide)) (fun p hp => by cases hp; rfl) (by rw [HR0.out.1.len]; omega) (by rw [HR0.out.1.len]; omega) (by have := HR0.out.1.ops; omega) HR0.out.1.left (by decide)).mono ?_; rw [HRS.out.1, HRS.out.2.1, ← HDA.out]; rintro e w3 ⟨rfl, hS, hO⟩; have HS3 := Lib.hid hS; have HB3 := Lib.hid ((HB2.out.trans ((litW_below w2 aL).mono HB2.out.size)).trans (hO.below (Nat.le_trans HB2.out.size (by rw [litW_size]; omega)))); clear hS hO hlit))
    | (go_at_call 17; go_must (refine (bCrash_new HS3.out.dx (by rw [HDA.out, HRS.out.2.2.1.len]; omega) (by rw [HDA.out, HRS.out.2.2.1.len]; omega) (by rw [HDA.out]; have := HRS.out.2.2.1.ops; omega) (RdI.nil _)).mono ?_; rintro e w4 ⟨g4, rfl, hD, hb⟩; have HD4 := Lib.hid hD; have HB4 := Lib.hid (HB3.out.trans (hb.mono HB3.out.size)); clear hD hb))
    | (go_at_call 14; ((with_reducible refine (stOpen_new HD4.out HCR.out.1 HCR2.out.1 HCR2.out.2.1 HCR2.out.2.2 (crash_on _ _).flushC).mono ?_); rintro e w5 ⟨s5, rfl, hS, hO⟩; have HS5 := Lib.hid hS; have HB5 := Lib.hid (HB4.out.trans (hO.below HB4.out.size)); have hlit := lit_a w5; have HRL := Lib.hid (litW_rd w5 (l := aL) (n := 1) rfl (by decide)); clear hS hO))
    | (go_at_call 15; ((with_reducible refine (stHolds_S 1 1 z1 true holda (HS5.out.later (litW_below w5 aL)) HRL.out).mono ?_); rintro e w6 ⟨rfl, hb⟩; have HB6 := Lib.hid ((HB5.out.trans ((litW_below w5 aL).mono HB5.out.size)).trans (hb.mono (Nat.le_trans HB5.out.size (by rw [litW_size]; omega)))); clear hb hlit))
    | (go_at_call 18; (with_reducible refine (stRoom_64 _).mono ?_); rintro e wz ⟨rfl, rfl⟩)
    | (go_at_call 18; (with_reducible refine (stRoom_63 _).mono ?_); rintro e wz ⟨rfl, rfl⟩))
  go_ret
  exact ⟨rfl, HB6.out⟩
end Go.Proofs.Ytogjbhkhdccahaa
namespace Go.Proofs.Ytogjbhkhdccahaa
open Go Go.RowKit Go.Maps
theorem bounds_i64 {z : Int} (h : (Lit.int .i64 z).wf = true) : -9223372036854775808 ≤ z ∧ z ≤ 9223372036854775807 := by
  have h1 := h
  unfold Lit.wf at h1
  simp [IntKind.min, IntKind.max, IntKind.bits, IntKind.signed] at h1
  omega
theorem RdI.of_ints {w : World} {a : Option Addr} {n cap : Nat} {zs : List Int}
    (h : (a = none ∧ n = 0 ∧ cap = 0 ∧ zs = []) ∨ ∃ x, a = some x ∧ n ≤ cap ∧ cap ≤ maxLen ∧ zs.length = cap ∧ (∀ i, i < zs.length → w.cell? (x.add i) = some (.int .i64 (zs.getD i 0))) ∧ ∀ z ∈ zs, (Lit.int .i64 z).wf = true) :
    ∃ l, RdI w a n cap l := by
  rcases h with ⟨rfl, rfl, rfl, rfl⟩ | ⟨⟨b, o, sp⟩, rfl, hl, hm, hz, hc, hw⟩
  · exact ⟨[], RdI.nil w⟩
  · refine ⟨zs.take n, by simp [hz, hl], hl, hm, fun i hi => ?_, fun x hx => bounds_i64 (hw x (List.mem_of_mem_take hx))⟩
    simp [hz] at hi
    have h0 := hc 0 (by omega)
    have hsp : sp = none := by simpa [Addr.add] using World.cell?_spot h0
    subst hsp
    refine ⟨b, o, rfl, ?_⟩
    have h1 := hc i (by omega)
    rw [addr_add] at h1
    rw [h1]
    simp [List.getElem?_eq_getElem (show i < zs.length by omega)]
end Go.Proofs.Ytogjbhkhdccahaa
