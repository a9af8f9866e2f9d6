/- Of chapter 15, BlockCopies: for every input the law returns true, and each argument reads behind the call as it read before. No condition. -/
import Derived.Test.YtgehbchaamilhaaZBLB
import Derived.ProofKit
import Derived.ShutString
import Derived.ChangeOld
namespace Go.Proofs.Ytgehbchaamilhaa
open Go Go.ChangeShapes Go.WideShapes Go.ChangeAt Go.RowKit Go.Maps

set_option maxRecDepth 100000 in
set_option maxHeartbeats 4000000 in
theorem copies_main {k : Int} {n1 cap1 n2 cap2 : Nat} {a1 a2 : Option Addr} {l l2 : List (Int × Int × Int)} (w : World) (hs : RdSt w a1 n1 cap1 l) (h40 : n1 ≤ 40) (hs2 : RdSt w a2 n2 cap2 l2) (h41 : n2 ≤ 40) :
    Calls Try.prog 8 #[.slice a1 n1 cap1, .slice a2 n2 cap2, .int .i64 k] w fun e w' => e = .returned (.bool true) ∧ Below w.heap.size w w' := by
  have HS := Lib.hid hs; have HS2 := Lib.hid hs2; have H40 := Lib.hid h40; have H41 := Lib.hid h41
  have d0 : decide ((40 : Int) < (n1 : Int)) = false := decide_eq_false (by omega)
  have e0 : decide (40 < n1) = false := decide_eq_false (by omega)
  have d1 : decide ((40 : Int) < (n2 : Int)) = false := decide_eq_false (by omega)
  have e1 : decide (40 < n2) = false := decide_eq_false (by omega)
  have hn63 : (n1 : Int) ≤ 40 := by omega
  have hn64 : (n2 : Int) ≤ 40 := by omega
  clear hs hs2
  go_enter Try.func8, Try.ntmps8
  go_wp2_with (first
    | (go_at_call 9; (with_reducible refine (bNew_num (n := 6) (by omega) (by omega) (by omega)).mono ?_); rintro e w1 ⟨g, F, rfl, hD, hF, hb1⟩; have HD := Lib.hid hD; have HF := Lib.hid hF; have HB1 := Lib.hid hb1; clear hD hF hb1)
    | (go_at_call 16; (with_reducible refine (dNew_num (n := 6) (by omega) (by omega) (by omega)).mono ?_); rintro e w2 ⟨m, FM, S, rfl, hM, hFM, hS, hb2⟩; have HM := Lib.hid hM; have HFM := Lib.hid hFM; have HSM := Lib.hid hS; have HB2 := Lib.hid hb2; clear hM hFM hS hb2))
  clear d0 e0 d1 e1
  have HTW := Lib.hid (new_tw HD.out HF.out HB1.out HM.out HFM.out HSM.out HB2.out)
  have HB12 := Lib.hid (Below.call HB1.out HB2.out)
  have HNL : Hid ((Bd.new 6).good.length = 6) := Lib.hid List.length_replicate
  go_loopw [11] (fun iv wr => ∃ i : Nat, i ≤ n1 ∧ iv = .int .i64 i ∧ TwN w.heap.size wr g m ((Bd.new 6).steps (l.take i)) ∧ Below w.heap.size w wr) (fun iv _ => n1 - (intOf iv).toNat)
  case atStart => exact ⟨0, Nat.zero_le _, rfl, HTW.out, HB12.out⟩
  case round =>
    obtain ⟨i, hi, rfl, hT, hbw⟩ := hrel
    have HT := Lib.hid hT; have HBW := Lib.hid hbw
    have hi8 : (i : Int) ≤ 40 := by omega
    have hi0 : (0 : Int) ≤ (i : Int) := by omega
    have hiw : IntKind.i64.wrap ((i : Int) + 1) = ((i + 1 : Nat) : Int) := by rw [IntKind.wrap_i64]; omega
    by_cases hlt : i < n1
    · have hi1 : (i : Int) < (n1 : Int) := by omega
      obtain ⟨s, hs⟩ : ∃ s, l[i]? = some s := ⟨_, List.getElem?_eq_getElem (by rw [HS.out.hlen]; exact hlt)⟩
      obtain ⟨b, o, rfl, hrg⟩ := (HS.out.below HBW.out).get i s hs
      obtain ⟨hr0, hr1, hr2⟩ := rng_cell hrg
      have HST := Lib.hid (Bd.steps_snoc (Bd.new 6) l i s hs)
      have HK : Hid (-9223372036854775808 ≤ s.2.1) := Lib.hid (HS.out.wf s (List.mem_of_getElem? hs)).1
      have HL1 : Hid (((Bd.new 6).steps (l.take i)).good.length = 6) := Lib.hid (by rw [Bd.steps_len]; exact HNL.out)
      have HO1 : Hid (((Bd.new 6).steps (l.take i)).ops < 1000000) := Lib.hid (by have := (Bd.new 6).steps_ops (l.take i); rw [List.length_take] at this; have h : (Bd.new 6).ops = 0 := rfl; omega)
      have HF1 : Hid (((Bd.new 6).steps (l.take i)).left ≤ 9223372036854775807) := Lib.hid (Bd.steps_left _ _ (by show (0 : Int) ≤ _; omega) (fun t ht => HS.out.wf t (List.mem_of_mem_take ht)))
      have HLT := Lib.hid hlt
      clear hT hbw hlt hi hs
      clear hr0 hr1 hr2
      go_wp2_with (first
        | (refine wpList_load_mid rfl 42 (.tmp 51) rfl b (o + i * 3) rfl [.int .i64 s.1, .int .i64 s.2.1, .int .i64 s.2.2] _ hrg Try.underlying42 rfl infoStep ?_)
        | (go_at_call 17; (with_reducible refine (bDoes_new HT.out HBW.out.size (by rw [HL1.out]; omega) (by rw [HL1.out]; omega) HO1.out HF1.out HK.out).mono ?_); rintro e w6 ⟨rfl, hT6, hb6⟩; rw [← HST.out] at hT6; have HT6 := Lib.hid hT6; have HB6 := Lib.hid (HBW.out.trans hb6); clear hT6 hb6))
      go_roundw
      case rel => exact ⟨i + 1, by have := HLT.out; omega, by go_num, HT6.out, HB6.out⟩
      case measure => have := HLT.out; simp [intOf]; omega
    · obtain rfl : i = n1 := by omega
      obtain ⟨d, hd⟩ : ∃ d, d = (Bd.new 6).steps (l.take i) := ⟨_, rfl⟩
      have HL1 : Hid (d.good.length = 6) := Lib.hid (by rw [hd, Bd.steps_len]; exact HNL.out)
      have HO1 : Hid (d.ops < 1000) := Lib.hid (by have := (Bd.new 6).steps_ops (l.take i); rw [List.length_take] at this; have h : (Bd.new 6).ops = 0 := rfl; rw [hd]; omega)
      have HLF : Hid (d.left ≤ 9223372036854775807) := Lib.hid (by rw [hd]; exact Bd.steps_left _ _ (by show (0 : Int) ≤ _; omega) (fun t ht => HS.out.wf t (List.mem_of_mem_take ht)))
      rw [← hd] at HT
      have HPOS : Hid (0 < d.good.length ∧ d.good.length ≤ 1000 ∧ d.good.length ≤ 100000 ∧ d.ops < 1000000) := Lib.hid (by rw [HL1.out]; have := HO1.out; omega)
      obtain ⟨F, FM, S, hTT, hF, hFM, hS⟩ := HT.out.ex
      have HTT := Lib.hid hTT; have HFF := Lib.hid hF; have HFFM := Lib.hid hFM; have HSS := Lib.hid hS
      clear hT hbw hlt hi hd hTT hF hFM hS
      have HS2R := Lib.hid (HS2.out.below HBW.out)
      clear hi8 hi0 hiw
      go_wp2_with (first
        | (go_at_call 24; (with_reducible refine (bCopy_any HTT.out.dv HPOS.out.1 HPOS.out.2.1 HPOS.out.2.2.2).mono ?_); rintro e w6 ⟨gc, Fc, rfl, hDc, hFc, hbc⟩; have HDC := Lib.hid hDc; have HFC := Lib.hid hFc; have HBC := Lib.hid hbc; clear hDc hFc hbc)
        | (go_at_call 25; (with_reducible refine (dCopy_any (HTT.out.md.later HBC.out) HPOS.out.1 HPOS.out.2.1).mono ?_); rintro e w7 ⟨mc, FMc, rfl, hMc, hFMc, hbm⟩; have HMC := Lib.hid hMc; have HFMC := Lib.hid hFMc; have HBM := Lib.hid hbm; clear hMc hFMc hbm))
      have HBCM := Lib.hid (Below.call HBC.out HBM.out)
      have HTC : Hid (Tw w7 gc mc d Fc FMc S) := Lib.hid ⟨HDC.out.later HBM.out, HMC.out, fun x hx => ⟨fun h => absurd (HDC.out.lt x hx) (Nat.not_lt.2 (HFMC.out x h)), fun h => absurd (HTT.out.md.lt.2.1 x h) (Nat.not_lt.2 (HFC.out x hx))⟩⟩
      have HFMC2 : Hid (∀ x, FMc x → wr.heap.size ≤ x) := Lib.hid (fun x hx => Nat.le_trans HBC.out.size (HFMC.out x hx))
      obtain ⟨wA, rfl⟩ : ∃ wA : World, wA = wr := ⟨_, rfl⟩
      go_loopw [14] (fun jv wr => ∃ (j : Nat) (FC S' : Nat → Prop), j ≤ n2 ∧ jv = .int .i64 j ∧ Tw wr gc mc (d.steps (l2.take j)) FC FMc S' ∧ (∀ x, FC x → wA.heap.size ≤ x) ∧ Below wA.heap.size wA wr) (fun jv _ => n2 - (intOf jv).toNat)
      case atStart => exact ⟨0, Fc, S, Nat.zero_le _, rfl, HTC.out, HFC.out, HBCM.out⟩
      case round =>
        obtain ⟨j, FC, S', hj, rfl, hT, hFC, hbs⟩ := hrel
        have HT := Lib.hid hT; have HFC' := Lib.hid hFC; have HBS := Lib.hid hbs
        have hj8 : (j : Int) ≤ 40 := by omega
        have hj0 : (0 : Int) ≤ (j : Int) := by omega
        have hjw : IntKind.i64.wrap ((j : Int) + 1) = ((j + 1 : Nat) : Int) := by rw [IntKind.wrap_i64]; omega
        by_cases hlt : j < n2
        · have hj1 : (j : Int) < (n2 : Int) := by omega
          obtain ⟨s, hs⟩ : ∃ s, l2[j]? = some s := ⟨_, List.getElem?_eq_getElem (by rw [HS2.out.hlen]; exact hlt)⟩
          obtain ⟨b, o, rfl, hrg⟩ := (HS2R.out.below HBS.out).get j s hs
          have HST := Lib.hid (Bd.steps_snoc d l2 j s hs)
          have HK : Hid (-9223372036854775808 ≤ s.2.1) := Lib.hid (HS2.out.wf s (List.mem_of_getElem? hs)).1
          have HL2 : Hid ((d.steps (l2.take j)).good.length = 6) := Lib.hid (by rw [Bd.steps_len]; exact HL1.out)
          have HO2 : Hid ((d.steps (l2.take j)).ops < 1000000) := Lib.hid (by have := d.steps_ops (l2.take j); rw [List.length_take] at this; have := HO1.out; omega)
          have HF2 : Hid ((d.steps (l2.take j)).left ≤ 9223372036854775807) := Lib.hid (Bd.steps_left _ _ HLF.out (fun t ht => HS2.out.wf t (List.mem_of_mem_take ht)))
          have HLT := Lib.hid hlt
          clear hT hFC hbs hlt hj hs
          go_wp2_with (first
            | (refine wpList_load_mid rfl 42 (.tmp 71) rfl b (o + j * 3) rfl [.int .i64 s.1, .int .i64 s.2.1, .int .i64 s.2.2] _ hrg Try.underlying42 rfl infoStep ?_)
            | (go_at_call 17; (with_reducible refine (bDoes_any HT.out (by rw [HL2.out]; omega) (by rw [HL2.out]; omega) HO2.out HF2.out HK.out).mono ?_); rintro e w9 ⟨rfl, hTD⟩; rw [← HST.out] at hTD; have HTD := Lib.hid hTD; clear hTD))
          obtain ⟨F9, S9, t1, t2, t3, t4⟩ := HTD.out
          have hf9 : ∀ x, F9 x → wA.heap.size ≤ x := fun x hx => by
            rcases t3 x hx with h | h
            · exact HFC'.out x h
            · exact Nat.le_trans HBS.out.size h
          have hb9 : Below wA.heap.size wA w9 := HBS.out.trans (t2.below HBS.out.size (fun x hx => by rcases hx with h | h; exact HFC'.out x h; exact HFMC2.out x h))
          clear t2 t3 t4
          go_roundw
          case rel => exact ⟨j + 1, F9, S9, by have := HLT.out; omega, by go_num, t1, hf9, hb9⟩
          case measure => have := HLT.out; simp [intOf]; omega
        · obtain rfl : j = n2 := by omega
          have HL2 : Hid (0 < (d.steps (l2.take j)).good.length ∧ (d.steps (l2.take j)).good.length ≤ 1000) := Lib.hid (by rw [Bd.steps_len]; exact ⟨HPOS.out.1, HPOS.out.2.1⟩)
          have hi1 := ints1
          clear hT hFC hbs hlt hj
          go_wp2_with (first
            | (go_at_call 14; (with_reducible refine (bRead_nil _).mono ?_); rintro e wz ⟨rfl, rfl⟩)
            | (go_at_call 18; (with_reducible refine (bShows_any (HTT.out.later HBS.out) HPOS.out.1 HPOS.out.2.1).mono ?_); rintro e w9 ⟨rfl, hb9⟩; have HB9 := Lib.hid hb9; clear hb9)
            | (go_at_call 18; (with_reducible refine (bShows_any (HT.out.later HB9.out) HL2.out.1 HL2.out.2).mono ?_); rintro e w10 ⟨rfl, hb10⟩; have HB10 := Lib.hid (Below.call HB9.out hb10); clear hb10)
            | (go_at_call 12; (with_reducible refine (bWrite_nil _).mono ?_); rintro e wz ⟨rfl, rfl⟩)
            | (go_at_call 21; (with_reducible refine (bFlush_nil _).mono ?_); rintro e wz ⟨rfl, rfl⟩)
            | (go_at_call 23; (with_reducible refine (bOff_nil _).mono ?_); rintro e wz ⟨rfl, rfl⟩)
            | (go_at_call 26; (with_reducible refine (bLen_nil _).mono ?_); rintro e wz ⟨rfl, rfl⟩)
            | (go_at_call 13; (with_reducible refine (bCrash_nil _).mono ?_); rintro e wz ⟨rfl, rfl⟩)
            | (go_at_call 24; (with_reducible refine (bCopy_nil _).mono ?_); rintro e wz ⟨rfl, rfl⟩)
            | (go_at_call 15; (with_reducible refine (bAwake_any _).mono ?_); rintro e w11 ⟨rfl, hb11⟩))
          go_ret
          refine ⟨rfl, ?_⟩
          have h1 : Below w.heap.size w wr := HBW.out.trans (HBS.out.mono HBW.out.size)
          have h2 := Below.call h1 HB10.out
          have h3 := h2.alloc h2.size (.cells #[.int .i64 k] 3)
          exact Below.call h3 hb11
set_option maxRecDepth 100000 in
set_option maxHeartbeats 1000000 in
theorem copies_big {k : Int} {n1 cap1 n2 cap2 : Nat} {a1 a2 : Option Addr} (w : World) (h : 40 < n1 ∨ 40 < n2) :
    Calls Try.prog 8 #[.slice a1 n1 cap1, .slice a2 n2 cap2, .int .i64 k] w fun e w' => e = .returned (.bool true) ∧ Below w.heap.size w w' := by
  by_cases h0 : 40 < n1
  · have d0 : decide ((40 : Int) < (n1 : Int)) = true := decide_eq_true (by omega)
    have e0 : decide (40 < n1) = true := decide_eq_true (by omega)
    clear h h0
    go_enter Try.func8, Try.ntmps8
    go_wp2_with (go_at_call 15; (with_reducible refine (bAwake_any _).mono ?_); rintro e w1 ⟨rfl, hb⟩)
    go_ret
    exact ⟨rfl, hb⟩
  have d0 : decide ((40 : Int) < (n1 : Int)) = false := decide_eq_false (by omega)
  have e0 : decide (40 < n1) = false := decide_eq_false (by omega)
  replace h : 40 < n2 := by omega
  clear h0
  have d1 : decide ((40 : Int) < (n2 : Int)) = true := decide_eq_true (by omega)
  have e1 : decide (40 < n2) = true := decide_eq_true (by omega)
  clear h
  go_enter Try.func8, Try.ntmps8
  go_wp2_with (go_at_call 15; (with_reducible refine (bAwake_any _).mono ?_); rintro e w1 ⟨rfl, hb⟩)
  go_ret
  exact ⟨rfl, hb⟩
theorem blockCopies_any {k : Int} {n1 cap1 n2 cap2 : Nat} {a1 a2 : Option Addr} {l l2 : List (Int × Int × Int)} (w : World) (hs : RdSt w a1 n1 cap1 l) (hs2 : RdSt w a2 n2 cap2 l2) (_hk : (Lit.int .i64 k).wf = true) :
    Calls Try.prog 8 #[.slice a1 n1 cap1, .slice a2 n2 cap2, .int .i64 k] w fun e w' => e = .returned (.bool true) ∧ Below w.heap.size w w' := by
  by_cases h : 40 < n1 ∨ 40 < n2
  · exact copies_big w h
  · exact copies_main w hs (by omega) hs2 (by omega)
namespace blockCopiesDone
theorem own : ownKnob Try.prog.godebug = none := by kernel_rfl
theorem laidOut : laidOutB Try.prog = true := by kernel_rfl
set_option maxRecDepth 100000 in
theorem lifted (os : Os) (started : os.Started) (H : Type) (enc : TypeId × Value → H) :
    ReturnsInHanded {} Try.checked os 8 .any (Rows.blockCopiesSpec.pre6 enc Try.prog Try.f8 Rows.blockCopiesRow.domain false) (Rows.blockCopiesSpec.post enc Try.prog Try.f8 false true false false) := by
  refine returnsInHanded_of_change (C := Try.checked) own started (by kernel_rfl) Try.func8
    (ChangeSpec.witness6 (enc := enc) (C := Try.checked) false ⟨#[], #[.slice none 0 0, .slice none 0 0, .int .i64 0], []⟩ 8 (by kernel_rfl) (by kernel_rfl) (by kernel_rfl) (by kernel_rfl)) ?_
  intro W base args ds gs before hval0 hW hcnd _
  have hval : ∀ (j : Nat) t v, Try.f8.params[j]? = some t → args[j]? = some v → Value.okWide Try.prog W .any base t v := hval0
  have hW' := hW
  obtain ⟨p, q, hA0, hV, rfl, hfz, hnd⟩ := hW
  have hA : DataW.TrodAll enc Try.prog W 0 (fun _ => true) true Try.f8.params.toList args.toList ds p := hA0
  rw [Try.params8] at hA hval
  obtain ⟨v0, vs0, d0, ds0, p0, q0, hargs, rfl, rfl, h0, r0⟩ := trodAll_cons hA
  obtain ⟨v1, vs1, d1, ds1, p1, q1, rfl, rfl, rfl, h1, r1⟩ := trodAll_cons r0
  obtain ⟨v2, vs2, d2, ds2, p2, q2, rfl, rfl, rfl, h2, r2⟩ := trodAll_cons r1
  obtain ⟨rfl, rfl, rfl⟩ := trodAll_nil r2
  obtain rfl : args = #[v0, v1, v2] := by cases args; simp_all
  obtain ⟨rfl, rfl⟩ := trodVars_none hV
  obtain ⟨a0, len0, cap0, rfl⟩ := okWide_slice Try.underlying36 (hval 0 36 v0 rfl rfl)
  have k0 := h0
  have lt0 : ∀ x ∈ p0, x.block < W.heap.size := by obtain ⟨m, hm⟩ := k0; exact DataW.trod_lt m _ _ _ hm
  obtain ⟨l0, w0⟩ : ∃ l, RdSt W a0 len0 cap0 l := by
    obtain ⟨fuel, hf⟩ := h0
    exact open_steps hf
  obtain ⟨a1, len1, cap1, rfl⟩ := okWide_slice Try.underlying36 (hval 1 36 v1 rfl rfl)
  have k1 := h1
  have lt1 : ∀ x ∈ p1, x.block < W.heap.size := by obtain ⟨m, hm⟩ := k1; exact DataW.trod_lt m _ _ _ hm
  obtain ⟨l1, w1⟩ : ∃ l, RdSt W a1 len1 cap1 l := by
    obtain ⟨fuel, hf⟩ := h1
    exact open_steps hf
  obtain ⟨a2, rfl, rfl, rfl, w2⟩ := open_int Try.underlying3 (hval 2 3 v2 rfl rfl) h2
  clear hA0 hval0
  refine (blockCopies_any W w0 w1 w2).mono fun e W' ⟨he, bel⟩ => ?_
  subst he
  exact ⟨_, rfl, _, _, _, [], _, [], hW', trodAll_mk1 (shut_bool Try.underlying4 _), (trodAll_cons_mk (Below.trod laidOut (by kernel_rfl) (of_decide_eq_true (by kernel_rfl)) k0 bel lt0) (trodAll_cons_mk (Below.trod laidOut (by kernel_rfl) (of_decide_eq_true (by kernel_rfl)) k1 bel lt1) (trodAll_cons_mk (shut_int Try.underlying3 w2) trodAll_mk0))), rfl, bel.frame _, fun h => by cases h⟩
theorem over : Rows.blockCopiesRow.holds Try.pinned (OpenSpec.ofChange Rows.blockCopiesSpec) :=
  OpenClaim.holds_of_wide 8 Try.f8 rfl rfl rfl rfl rfl rfl rfl ⟨rfl, rfl, rfl, rfl, rfl⟩ rfl rfl rfl rfl rfl (by kernel_rfl) Try.func8 (by kernel_rfl)
    (of_decide_eq_true (by kernel_rfl)) (by unfold Func.isWrapper; first | (rw [if_pos (by decide +kernel)]; kernel_rfl) | (rw [if_neg (by decide +kernel)]; exact ⟨rfl, rfl⟩))
    (fun os started H enc _ => lifted os started H enc)
theorem proved : Rows.BlockCopiesSaid := over
#print axioms proved
end blockCopiesDone

end Go.Proofs.Ytgehbchaamilhaa
