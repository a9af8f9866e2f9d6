/- What BK rests on, part 3 of 3: my own texts, put together (merge.py). -/
import Derived.WalkKit
import Derived.ProofKit
import Derived.Lib.Hide
import Derived.OpenShut
import Derived.Test.YtgehbchaamilhaaRows
import Derived.WalkSpells
import Derived.StillTactics
import Derived.Laws.Pointers
import Derived.Laws.CopyOwn
import Derived.Laws.AppendOwnNone
import Derived.Deep.RegionHeld3
import Derived.RowKit3
import Derived.BigQuiet
import Derived.Deep.QuietTactic
import Derived.Deep.LoopGhost
import Derived.Deep.DeepFit
import Derived.WalkLawsBesides
import Derived.Shelf.Spec.BitsCarry
import Derived.Deep.MidRow
import Derived.Deep.WholeRow
import Derived.Laws.Rows
import Derived.Deep.DeepCutAuto
import Derived.Maps.RangeWalk
import Derived.Laws.MakeOwn
import Derived.Laws.IdiomStrings
import Derived.Maps.AppendAt
import Derived.Laws.CopyRow
import Derived.Laws.IdiomCopy
import Derived.Shelf.SlIterI.Nil
import Derived.Shelf.SlIterI.Sorted
import Derived.Shelf.SortM.Plain
import Derived.Shelf.SortM.SortNone
import Derived.Laws.AppendOwn
import Derived.Lib.BufferMore
import Derived.Laws.OwnMore
import Derived.Deep.Slices
import Derived.Deep.Fields
import Derived.ChangeSame
import Derived.ShutString
import Derived.ChangeOld
import Derived.Test.YtgehbchaamilhaaZBKB
namespace Go.Proofs.Ytgehbchaamilhaa
open Go Go.RowKit Go.Maps
theorem drewN_below (w : World) (n : Nat) : Below w.heap.size w (w.drewN n) := below_drewN (Below.refl _ _) _
theorem bLen_q {w : World} {g n : Nat} {d : Bd} {F : Nat → Prop} (h : Dv w g d F) : Calls Try.prog 26 #[.pointer (some ⟨g, 0, none⟩)] (w.drewN n) fun e w'' => e = .returned (.int .i64 (d.good.length : Nat)) ∧ ∃ m, w'' = w.drewN m := (bLen_any (h.later (drewN_below w n))).mono fun _ _ ⟨he, hw⟩ => ⟨he, n, hw.symm⟩
theorem bOps_q {w : World} {g n : Nat} {d : Bd} {F : Nat → Prop} (h : Dv w g d F) : Calls Try.prog 22 #[.pointer (some ⟨g, 0, none⟩)] (w.drewN n) fun e w'' => e = .returned (.int .i64 (d.ops : Nat)) ∧ ∃ m, w'' = w.drewN m := (bOps_any (h.later (drewN_below w n))).mono fun _ _ ⟨he, hw⟩ => ⟨he, n, hw.symm⟩
theorem bOff_q {w : World} {g n : Nat} {d : Bd} {F : Nat → Prop} (h : Dv w g d F) (h0 : 0 < d.good.length) : Calls Try.prog 23 #[.pointer (some ⟨g, 0, none⟩)] (w.drewN n) fun e w'' => e = .returned (.bool d.off) ∧ ∃ m, w'' = w.drewN m := (bOff_any (h.later (drewN_below w n)) h0).mono fun _ _ ⟨he, hw⟩ => ⟨he, n, hw.symm⟩
set_option maxRecDepth 100000 in
set_option maxHeartbeats 1000000 in
theorem dAt_val {w : World} {g k n : Nat} {d : Bd} {F S : Nat → Prop} (h : Md w g d F S) (hk : k < d.good.length) (hN : d.good.length ≤ 100000) (hn : n ≤ (d.pend k).length) : ∃ v, RdS S w v (d.at k n) ∧ ∀ w', Below w.heap.size w w' → Calls Try.prog 36 #[.pointer (some ⟨g, 0, none⟩), .int .i64 (k : Int), .int .i64 (n : Int)] w' fun e w'' => e = .returned v ∧ w' = w'' := by
  obtain ⟨gg, cg, gw, cw, l, h1, h2, h3, hR⟩ := h.ex
  have c0 : w.cell? ⟨g, 0, none⟩ = some (.slice (some ⟨gg, 0, none⟩) d.good.length cg) := h1.cell 0
  have c1 : w.cell? ⟨g, 1, none⟩ = some (.slice (some ⟨gw, 0, none⟩) d.good.length cw) := h1.cell 1
  obtain ⟨v, y, cv, hv, cy, hy⟩ := hR.cells hk
  have k0 : (0 : Int) ≤ (k : Int) := by omega
  have k1 : (k : Int) < (d.good.length : Int) := by omega
  have l0 := h1.lt; have lg := cell_lt cv; have lw := cell_lt cy
  rcases Nat.eq_zero_or_pos n with rfl | hp
  · have HA : d.at k 0 = d.good.getD k [] := by unfold Bd.at; rw [if_pos rfl]
    rw [HA]
    refine ⟨v, hv, fun w' hb => ?_⟩
    have d0 := (hb.cell (p := ⟨g, 0, none⟩) l0).trans c0
    have dv := (hb.cell (p := ⟨gg, k, none⟩) lg).trans cv
    obtain ⟨va, vn, vc, rfl, _⟩ := hv
    clear h h1 h2 h3 hR hy hk hN c0 c1 cv cy HA
    go_enter Try.func36, Try.ntmps36
    go_wp2
    go_ret
    exact ⟨rfl, rfl⟩
  · obtain ⟨i, rfl⟩ : ∃ i, n = i + 1 := ⟨n - 1, by omega⟩
    obtain ⟨a, c, rfl, e0, e1, e2, ys, e3, e4, e5⟩ := hy
    obtain ⟨x, hx⟩ : ∃ x, ys[i]? = some x := ⟨_, List.getElem?_eq_getElem (by omega)⟩
    obtain ⟨b, q, rfl, hb, hc⟩ := e4 i _ hx
    have HV := e5 i _ _ hx (List.getElem?_eq_getElem (by omega))
    have HA : d.at k (i + 1) = (d.pend k)[i] := by unfold Bd.at; rw [if_neg (by omega), Nat.add_sub_cancel, List.getD_eq_getElem?_getD, List.getElem?_eq_getElem (by omega)]; rfl
    rw [HA]
    refine ⟨x, HV, fun w' hb => ?_⟩
    have d1 := (hb.cell (p := ⟨g, 1, none⟩) l0).trans c1
    have dy := (hb.cell (p := ⟨gw, k, none⟩) lw).trans cy
    have dx := (hb.cell (p := ⟨b, q + i, none⟩) (cell_lt hc)).trans hc
    obtain ⟨va, vn, vc, rfl, _⟩ := HV
    have i0 : (0 : Int) ≤ (i : Int) := by omega
    have i1 : (i : Int) < ((d.pend k).length : Int) := by omega
    have i2 : ((i : Int) + 1 == 0) = false := by rw [beq_eq_false_iff_ne]; omega
    have hw : IntKind.i64.wrap ((i : Int) + 1 - 1) = (i : Int) := by unfold maxLen at e2; rw [IntKind.wrap_i64]; omega
    have hw2 : IntKind.i64.wrap (i : Int) = (i : Int) := by unfold maxLen at e2; rw [IntKind.wrap_i64]; omega
    clear h h1 h2 h3 hR hk hN hv e0 e1 e2 e4 e5 hp cv hx c0 c1 cy hc HA
    go_enter Try.func36, Try.ntmps36
    go_wp2
    go_ret
    exact ⟨rfl, rfl⟩
set_option maxRecDepth 100000 in
set_option maxHeartbeats 1000000 in
theorem dNow_val {w : World} {g k : Nat} {d : Bd} {F S : Nat → Prop} (h : Md w g d F S) (hk : k < d.good.length) (hN : d.good.length ≤ 100000) : ∃ v, RdS S w v (d.last k) ∧ ∀ w', Below w.heap.size w w' → Calls Try.prog 35 #[.pointer (some ⟨g, 0, none⟩), .int .i64 (k : Int)] w' fun e w'' => e = .returned v ∧ w' = w'' := by
  obtain ⟨v, hv, hcall⟩ := dAt_val h hk hN (Nat.le_refl (d.pend k).length)
  refine ⟨v, hv, fun w' hb => ?_⟩
  have HC := Lib.hid (hcall w' hb)
  obtain ⟨gg, cg, gw, cw, l, h1, h2, h3, hR⟩ := h.ex
  have c1 : w'.cell? ⟨g, 1, none⟩ = some (.slice (some ⟨gw, 0, none⟩) d.good.length cw) := (hb.cell (p := ⟨g, 1, none⟩) h1.lt).trans (h1.cell 1)
  obtain ⟨v0, y, cv, hv0, cy, hy⟩ := hR.cells hk
  have cy' := (hb.cell (p := ⟨gw, k, none⟩) (cell_lt cy)).trans cy
  have k0 : (0 : Int) ≤ (k : Int) := by omega
  have k1 : (k : Int) < (d.good.length : Int) := by omega
  obtain ⟨a, c, rfl, _⟩ := hy
  clear h h1 h2 h3 hR hk hN cv hv0 cy hcall hv
  go_enter Try.func35, Try.ntmps35
  go_wp2_with (go_at_call 36; (with_reducible refine HC.out.mono ?_); rintro e wz ⟨rfl, rfl⟩)
  go_ret
  exact ⟨rfl, rfl⟩
theorem dNow_q {w w1 : World} {g k n : Nat} {v : Value} (hcall : ∀ w', Below w.heap.size w w' → Calls Try.prog 35 #[.pointer (some ⟨g, 0, none⟩), .int .i64 (k : Int)] w' fun e w'' => e = .returned v ∧ w' = w'') (hb : Below w.heap.size w w1) : Calls Try.prog 35 #[.pointer (some ⟨g, 0, none⟩), .int .i64 (k : Int)] (w1.drewN n) fun e w'' => e = .returned v ∧ ∃ m, w'' = w1.drewN m := (hcall _ (Below.call hb (drewN_below w1 n))).mono fun _ _ ⟨he, hw⟩ => ⟨he, n, hw.symm⟩
set_option maxRecDepth 100000 in
set_option maxHeartbeats 2000000 in
theorem bShows_any {w : World} {g m : Nat} {d : Bd} {F FM S : Nat → Prop} (h : Tw w g m d F FM S) (h0 : 0 < d.good.length) (hN : d.good.length ≤ 1000) :
    Calls Try.prog 18 #[.pointer (some ⟨g, 0, none⟩), .pointer (some ⟨m, 0, none⟩)] w fun e w' => e = .returned (.bool true) ∧ Below w.heap.size w w' := by
  have HT := Lib.hid h
  have H0 := Lib.hid h0; have HN : Hid (d.good.length ≤ 100000) := Lib.hid (by omega); have H1 := Lib.hid hN
  obtain ⟨gg, cg, gw, cw, l, h1, h2, h3, hR⟩ := h.md.ex
  have c0 : w.cell? ⟨m, 0, none⟩ = some (.slice (some ⟨gg, 0, none⟩) d.good.length cg) := h1.cell 0
  have c2 : w.cell? ⟨m, 2, none⟩ = some (.int .i64 (d.ops : Nat)) := h1.cell 2
  have c5 : w.cell? ⟨m, 5, none⟩ = some (.bool d.off) := h1.cell 5
  have HML := Lib.hid h1.lt
  clear h h0 hN h1 h2 h3 hR
  go_enter Try.func18, Try.ntmps18
  go_upto_region 1 with fail
  go_quiet (first
    | (go_at_call 26; exact bLen_q HT.out.dv)
    | (go_at_call 22; exact bOps_q HT.out.dv)
    | (go_at_call 23; exact bOff_q HT.out.dv H0.out))
  have HB0 := Lib.hid (drewN_below w nq)
  have HNL : Hid ((d.good.length : Int) ≤ 1000) := Lib.hid (by have := H1.out; omega)
  have C0 := Lib.hid c0
  generalize w.drewN nq = w1 at *
  go_wp2
  go_loopw [5] (fun iv wr => ∃ k : Nat, k ≤ d.good.length ∧ iv = .int .i64 k ∧ Below w.heap.size w wr) (fun iv _ => d.good.length - (intOf iv).toNat)
  case atStart => exact ⟨0, Nat.zero_le _, rfl, HB0.out⟩
  case round =>
    obtain ⟨k, hk, rfl, hbw⟩ := hrel
    have HBW := Lib.hid hbw
    have d0 : wr.cell? ⟨m, 0, none⟩ = some (.slice (some ⟨gg, 0, none⟩) d.good.length cg) := (hbw.cell (p := ⟨m, 0, none⟩) HML.out).trans C0.out
    have hk8 : (k : Int) ≤ 1000 := by have := H1.out; omega
    have hk0 : (0 : Int) ≤ (k : Int) := by omega
    have hkw : IntKind.i64.wrap ((k : Int) + 1) = ((k + 1 : Nat) : Int) := by rw [IntKind.wrap_i64]; omega
    clear c0 c2 c5
    by_cases hlt : k < d.good.length
    · have hk1 : (k : Int) < (d.good.length : Int) := by omega
      have HLT := Lib.hid hlt
      clear hbw hlt hk
      go_upto_region 7 with (go_at_call 14; (with_reducible refine (bRead_any (HT.out.dv.later HBW.out) HLT.out HN.out).mono ?_); rintro e w3 ⟨q, rfl, hq, hR3, hb3⟩)
      have HB3 := Lib.hid (Below.call HBW.out hb3)
      obtain ⟨v, hv, hcall⟩ := dNow_val (HT.out.md.later HB3.out) HLT.out HN.out
      obtain ⟨va, vn, vc, rfl, hvr, _⟩ := hv
      have hc1 : ∀ n, (convert 26 9 (.slice (some ⟨q, 0, none⟩) 64 64)).run Try.prog (w3.drewN n) = .ok (.string (bs (d.last k))) (w3.drewN n) := fun n => conv_any (hR3.below (drewN_below w3 n))
      have hc2 : ∀ n, (convert 26 9 (.slice va vn vc)).run Try.prog (w3.drewN n) = .ok (.string (bs (d.last k))) (w3.drewN n) := fun n => conv_any (hvr.below (drewN_below w3 n))
      have HC := Lib.hid hcall
      clear hR3 hvr hcall hb3 d0
      obtain ⟨L, hL⟩ : ∃ L, L = d.last k := ⟨_, rfl⟩
      rw [← hL] at hc1 hc2
      have hbs : (bs L == bs L) = true := by rw [bs_beq]; simp
      clear hL
      go_quiet ((go_at_call 35; exact dNow_q HC.out (Below.refl _ _)))
      have HBQ := Lib.hid (Below.call HB3.out (drewN_below w3 nq))
      generalize w3.drewN nq = w4 at *
      clear hc1 hc2
      go_wp2
      go_roundw
      case rel => exact ⟨k + 1, by have := HLT.out; omega, by go_num, HBQ.out⟩
      case measure => have := HLT.out; simp [intOf]; omega
    · obtain rfl : k = d.good.length := by omega
      have hb2 : ∀ {w2 : World}, Below w.heap.size w w2 → Calls Try.prog 14 #[.pointer (some ⟨g, 0, none⟩), .int .i64 (d.good.length : Int)] w2 fun e w' => e = .returned (.tuple #[.slice none 0 0, .int .i64 1]) ∧ w2 = w' := fun h => bRead_no (HT.out.dv.later h) (.inr (Int.le_refl _))
      have hb1 : ∀ {w2 : World}, Below w.heap.size w w2 → Calls Try.prog 14 #[.pointer (some ⟨g, 0, none⟩), .int .i64 (-1)] w2 fun e w' => e = .returned (.tuple #[.slice none 0 0, .int .i64 1]) ∧ w2 = w' := fun h => bRead_no (HT.out.dv.later h) (.inl (by omega))
      have HB1 := @hb1; have HB2 := @hb2
      clear hbw hlt hk hb1 hb2
      go_wp2_with (first
        | (go_at_call 14; (with_reducible refine (HB1 HBW.out).mono ?_); rintro e wz ⟨rfl, rfl⟩)
        | (go_at_call 14; (with_reducible refine (HB2 HBW.out).mono ?_); rintro e wz ⟨rfl, rfl⟩))
      go_ret
      exact ⟨rfl, HBW.out⟩
end Go.Proofs.Ytgehbchaamilhaa
namespace Go.Proofs.Ytgehbchaamilhaa
open Go Go.RowKit Go.Maps
theorem bounds_i64 {z : Int} (h : (Lit.int .i64 z).wf = true) : -9223372036854775808 ≤ z ∧ z ≤ 9223372036854775807 := by
  have h1 := h
  unfold Lit.wf at h1
  simp [IntKind.min, IntKind.max, IntKind.bits, IntKind.signed] at h1
  omega
theorem RdI.of_ints {w : World} {a : Option Addr} {n cap : Nat} {zs : List Int}
    (h : (a = none ∧ n = 0 ∧ cap = 0 ∧ zs = []) ∨ ∃ x, a = some x ∧ n ≤ cap ∧ cap ≤ maxLen ∧ zs.length = cap ∧ (∀ i, i < zs.length → w.cell? (x.add i) = some (.int .i64 (zs.getD i 0))) ∧ ∀ z ∈ zs, (Lit.int .i64 z).wf = true) :
    ∃ l, RdI w a n cap l := by
  rcases h with ⟨rfl, rfl, rfl, rfl⟩ | ⟨⟨b, o, sp⟩, rfl, hl, hm, hz, hc, hw⟩
  · exact ⟨[], RdI.nil w⟩
  · refine ⟨zs.take n, by simp [hz, hl], hl, hm, fun i hi => ?_, fun x hx => bounds_i64 (hw x (List.mem_of_mem_take hx))⟩
    simp [hz] at hi
    have h0 := hc 0 (by omega)
    have hsp : sp = none := by simpa [Addr.add] using World.cell?_spot h0
    subst hsp
    refine ⟨b, o, rfl, ?_⟩
    have h1 := hc i (by omega)
    rw [addr_add] at h1
    rw [h1]
    simp [List.getElem?_eq_getElem (show i < zs.length by omega)]
/-- A slice reads as steps. -/
structure RdSt (w : World) (a : Option Addr) (n cap : Nat) (l : List (Int × Int × Int)) : Prop where
  hlen : l.length = n
  hcap : n ≤ cap
  hmax : cap ≤ maxLen
  get : ∀ i (s : Int × Int × Int), l[i]? = some s → ∃ b o, a = some ⟨b, o, none⟩ ∧ w.rangeAt b (o + i * 3) [.int .i64 s.1, .int .i64 s.2.1, .int .i64 s.2.2]
  wf : ∀ s ∈ l, -9223372036854775808 ≤ s.2.1 ∧ s.2.1 ≤ 9223372036854775807
theorem RdSt.below {w w' : World} {a : Option Addr} {n cap : Nat} {l : List (Int × Int × Int)} (h : RdSt w a n cap l) (hb : Below w.heap.size w w') : RdSt w' a n cap l := by
  refine ⟨h.hlen, h.hcap, h.hmax, fun i s hs => ?_, h.wf⟩
  obtain ⟨b, o, ha, hc⟩ := h.get i s hs
  exact ⟨b, o, ha, fun j v hv => by rw [hb.cell (p := ⟨b, o + i * 3 + j, none⟩) (cell_lt (hc j v hv))]; exact hc j v hv⟩
section
variable {H : Type} {enc : TypeId × Value → H} {W : World} {base : Nat} {spare : Nat → Bool} {held : Bool}
open Go.ChangeShapes Go.WideShapes Go.Deep
theorem step_fields : ∃ f0 f1 f2 : Field, Try.prog.underlying 42 = some (.struct #[f0, f1, f2]) ∧ f0.type = 3 ∧ f1.type = 3 ∧ f2.type = 3 ∧ f0.offset = 0 ∧ f1.offset = 1 ∧ f2.offset = 2 := ⟨_, _, _, Try.underlying42, rfl, rfl, rfl, rfl, rfl, rfl⟩
/-- A step's three cells. -/
theorem open_step {fuel : Nat} {cs : List Value} {x : DataW H × List MemPlace} (h : DataW.trod enc Try.prog W base spare held fuel 42 cs = some x) :
    ∃ a b c : Int, cs = [.int .i64 a, .int .i64 b, .int .i64 c] ∧ (Lit.int .i64 b).wf = true := by
  obtain ⟨f0, f1, f2, hu, t0, t1, t2, o0, o1, o2⟩ := step_fields
  obtain ⟨xs, n, _, _, hlen, hxl, hf⟩ := DataW.trod_struct hu h
  have hc3 : Try.prog.cellsOf 42 = 3 := by kernel_rfl
  have hc1 : Try.prog.cellsOf 3 = 1 := by kernel_rfl
  rw [hc3] at hlen
  obtain ⟨c0, c1, c2, rfl⟩ : ∃ c0 c1 c2, cs = [c0, c1, c2] := by
    match cs, hlen with
    | [a, b, c], _ => exact ⟨a, b, c, rfl⟩
  have g0 := hf 0 f0 rfl; have g1 := hf 1 f1 rfl; have g2 := hf 2 f2 rfl
  rw [t0, o0, hc1, List.getElem?_eq_getElem (by rw [hxl]; simp)] at g0
  rw [t1, o1, hc1, List.getElem?_eq_getElem (by rw [hxl]; simp)] at g1
  rw [t2, o2, hc1, List.getElem?_eq_getElem (by rw [hxl]; simp)] at g2
  obtain ⟨z0, e0, _, _⟩ := DataW.trod_int Try.underlying3 g0
  obtain ⟨z1, e1, _, w1⟩ := DataW.trod_int Try.underlying3 g1
  obtain ⟨z2, e2, _, _⟩ := DataW.trod_int Try.underlying3 g2
  simp at e0 e1 e2
  exact ⟨z0, z1, z2, by rw [e0, e1, e2], w1⟩
/-- Steps that came in. -/
theorem open_steps {fuel : Nat} {a : Option Addr} {n cap : Nat} {x : DataW H × List MemPlace} (h : DataW.trod enc Try.prog W base spare held fuel 36 [.slice a n cap] = some x) : ∃ l, RdSt W a n cap l := by
  rcases open_slice Try.underlying36 h with ⟨e, _⟩ | ⟨ad, len, c, m, n', D, Pl, e, _, hl, hm, hmm, _, hi⟩
  · simp at e
    obtain ⟨rfl, rfl, rfl⟩ := e
    exact ⟨[], rfl, Nat.le_refl _, by simp, fun i s hs => by simp at hs, fun s hs => by simp at hs⟩
  · simp at e
    obtain ⟨rfl, rfl, rfl⟩ := e
    have hc3 : Try.prog.cellsOf 42 = 3 := by kernel_rfl
    have hnm : n ≤ m := by rw [hmm]; split <;> omega
    have key : ∀ i, i < n → ∃ s : Int × Int × Int, (∀ j v, [Value.int .i64 s.1, .int .i64 s.2.1, .int .i64 s.2.2][j]? = some v → W.cell? (ad.add (i * 3 + j)) = some v) ∧ -9223372036854775808 ≤ s.2.1 ∧ s.2.1 ≤ 9223372036854775807 := fun i hin => by
      obtain ⟨cs', hc, ht⟩ := hi i (by omega)
      rw [hc3] at hc
      obtain ⟨p, q, r, rfl, hw⟩ := open_step ht
      obtain ⟨_, _, hat⟩ := World.cells?_some hc
      refine ⟨(p, q, r), fun j v hv => ?_, bounds_i64 hw⟩
      have hj : j < 3 := by have := (List.getElem?_eq_some_iff.1 hv).1; simpa using this
      have h1 := hat j hj
      rw [← add_add, h1, hv]
    refine ⟨(List.range n).pmap (fun i hi => Classical.choose (key i hi)) (fun i hi => List.mem_range.1 hi), by simp, hl, hm, fun i s hs => ?_, fun s hs => ?_⟩
    · have hin : i < n := by have := (List.getElem?_eq_some_iff.1 hs).1; simpa using this
      have e : s = Classical.choose (key i hin) := by
        have := (List.getElem?_eq_some_iff.1 hs).2
        rw [List.getElem_pmap] at this
        simp only [List.getElem_range] at this
        exact this.symm
      have hk := (Classical.choose_spec (key i hin)).1
      rw [← e] at hk
      obtain ⟨b, o, sp⟩ := ad
      have hsp : sp = none := by
        have h0 := (Classical.choose_spec (key 0 (by omega))).1 0 _ rfl
        simpa [Addr.add] using World.cell?_spot h0
      subst hsp
      refine ⟨b, o, rfl, fun j v hv => ?_⟩
      have := hk j v hv
      rw [addr_add] at this
      rw [Nat.add_assoc]; exact this
    · obtain ⟨i, hi', rfl⟩ := List.mem_pmap.1 hs
      exact (Classical.choose_spec (key i (List.mem_range.1 hi'))).2
end
end Go.Proofs.Ytgehbchaamilhaa
namespace Go.Proofs.Ytgehbchaamilhaa
open Go Go.RowKit Go.Maps
set_option maxRecDepth 100000 in
theorem dNew_no {n : Int} (w : World) (h : n < 1 ∨ 65536 < n) : Calls Try.prog 16 #[.int .i64 n] w fun e w' => e = .returned (.tuple #[.pointer none, .int .i64 1]) ∧ w = w' := by
  by_cases h1 : n < 1
  · have a1 : decide (n < 1) = true := decide_eq_true h1
    clear h h1
    go_enter Try.func16, Try.ntmps16
    go_wp2
    go_ret2
    exact ⟨rfl, rfl⟩
  · have a1 : decide (n < 1) = false := decide_eq_false h1
    have a2 : decide (65536 < n) = true := decide_eq_true (by omega)
    clear h h1
    go_enter Try.func16, Try.ntmps16
    go_wp2
    go_ret2
    exact ⟨rfl, rfl⟩
def Bd.steps (d : Bd) (l : List (Int × Int × Int)) : Bd := l.foldl (fun d s => d.step s.1 s.2.1 s.2.2) d
theorem Bd.steps_snoc (d : Bd) (l : List (Int × Int × Int)) (i : Nat) (s : Int × Int × Int) (h : l[i]? = some s) : d.steps (l.take (i + 1)) = (d.steps (l.take i)).step s.1 s.2.1 s.2.2 := by
  unfold Bd.steps
  rw [List.take_add_one, h, List.foldl_append]; rfl
theorem Bd.steps_len (d : Bd) (l : List (Int × Int × Int)) : (d.steps l).good.length = d.good.length := by
  induction l generalizing d with
  | nil => rfl
  | cons s l ih => exact (ih _).trans (d.step_len _ _ _)
theorem Bd.steps_ops (d : Bd) (l : List (Int × Int × Int)) : (d.steps l).ops ≤ d.ops + l.length := by
  induction l generalizing d with
  | nil => exact Nat.le_refl _
  | cons s l ih =>
    have h1 := ih (d.step s.1 s.2.1 s.2.2)
    have h2 := d.step_ops s.1 s.2.1 s.2.2
    show (Bd.steps (d.step s.1 s.2.1 s.2.2) l).ops ≤ _
    rw [List.length_cons]; omega
theorem Bd.steps_left (d : Bd) (l : List (Int × Int × Int)) (h : d.left ≤ 9223372036854775807) (hl : ∀ s ∈ l, -9223372036854775808 ≤ s.2.1 ∧ s.2.1 ≤ 9223372036854775807) : (d.steps l).left ≤ 9223372036854775807 := by
  induction l generalizing d with
  | nil => exact h
  | cons s l ih => exact ih (d.step s.1 s.2.1 s.2.2) (d.step_left _ _ _ h (hl s List.mem_cons_self).2) (fun t ht => hl t (List.mem_cons_of_mem _ ht))
theorem infoStep : (Try.prog.info? 42).map (·.size) = some 3 := by kernel_rfl
/-- New ones, both, from base on. -/
structure TwN (B : Nat) (w : World) (g m : Nat) (d : Bd) : Prop where
  ex : ∃ F FM S, Tw w g m d F FM S ∧ (∀ x, F x → B ≤ x) ∧ (∀ x, FM x → B ≤ x) ∧ ∀ x, S x → B ≤ x
theorem TwN.later {B : Nat} {w w' : World} {g m : Nat} {d : Bd} (h : TwN B w g m d) (hb : Below w.heap.size w w') : TwN B w' g m d := by
  obtain ⟨F, FM, S, h1, h2⟩ := h.ex
  exact ⟨F, FM, S, h1.later hb, h2⟩
/-- A step, on new ones. -/
theorem bDoes_new {B : Nat} {w : World} {g m : Nat} {s : Int × Int × Int} {d : Bd} (h : TwN B w g m d) (hB : B ≤ w.heap.size) (h0 : 0 < d.good.length) (hN : d.good.length ≤ 1000) (ho : d.ops < 1000000) (hl : d.left ≤ 9223372036854775807) (hk : -9223372036854775808 ≤ s.2.1) :
    Calls Try.prog 17 #[.pointer (some ⟨g, 0, none⟩), .pointer (some ⟨m, 0, none⟩), .agg #[.int .i64 s.1, .int .i64 s.2.1, .int .i64 s.2.2]] w fun e w' => e = .returned (.bool true) ∧ TwN B w' g m (d.step s.1 s.2.1 s.2.2) ∧ Below B w w' := by
  obtain ⟨F, FM, S, h1, h2, h3, h4⟩ := h.ex
  refine (bDoes_any h1 h0 hN ho hl hk).mono ?_
  rintro e w' ⟨he, F', S', t1, t2, t3, t4⟩
  refine ⟨he, ⟨F', FM, S', t1, fun x hx => ?_, h3, fun x hx => ?_⟩, t2.below hB (fun x hx => by rcases hx with h | h; exact h2 x h; exact h3 x h)⟩
  · rcases t3 x hx with h | h
    · exact h2 x h
    · omega
  · rcases t4 x hx with h | h
    · exact h4 x h
    · omega
end Go.Proofs.Ytgehbchaamilhaa
