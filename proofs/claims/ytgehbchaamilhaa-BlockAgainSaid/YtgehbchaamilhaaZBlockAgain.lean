/- Of chapter 15, BlockAgain: for every input the law returns true, and each argument reads behind the call as it read before. No condition. -/
import Derived.Test.YtgehbchaamilhaaZBLB
import Derived.ProofKit
import Derived.ShutString
import Derived.ChangeOld
namespace Go.Proofs.Ytgehbchaamilhaa
open Go Go.ChangeShapes Go.WideShapes Go.ChangeAt Go.RowKit Go.Maps

set_option maxRecDepth 100000 in
set_option maxHeartbeats 4000000 in
theorem again_main {n1 cap1 n2 cap2 n3 cap3 : Nat} {a1 a2 a3 : Option Addr} {l : List (Int × Int × Int)} {picks more : List Int} (w : World) (hs : RdSt w a1 n1 cap1 l) (h60 : n1 ≤ 60) (hp : RdI w a2 n2 cap2 picks) (h30 : n2 ≤ 30) (hq : RdI w a3 n3 cap3 more) (h31 : n3 ≤ 30) :
    Calls Try.prog 6 #[.slice a1 n1 cap1, .slice a2 n2 cap2, .slice a3 n3 cap3] w fun e w' => e = .returned (.bool true) ∧ Below w.heap.size w w' := by
  have HS := Lib.hid hs; have HP := Lib.hid hp; have HQ := Lib.hid hq; have H60 := Lib.hid h60
  have d0 : decide ((60 : Int) < (n1 : Int)) = false := decide_eq_false (by omega)
  have e0 : decide (60 < n1) = false := decide_eq_false (by omega)
  have d1 : decide ((30 : Int) < (n2 : Int)) = false := decide_eq_false (by omega)
  have e1 : decide (30 < n2) = false := decide_eq_false (by omega)
  have d2 : decide ((30 : Int) < (n3 : Int)) = false := decide_eq_false (by omega)
  have e2 : decide (30 < n3) = false := decide_eq_false (by omega)
  have hn63 : (n1 : Int) ≤ 60 := by omega
  clear hs hp hq h30 h31
  go_enter Try.func6, Try.ntmps6
  go_wp2_with (first
    | (go_at_call 9; (with_reducible refine (bNew_num (n := 8) (by omega) (by omega) (by omega)).mono ?_); rintro e w1 ⟨g, F, rfl, hD, hF, hb1⟩; have HD := Lib.hid hD; have HF := Lib.hid hF; have HB1 := Lib.hid hb1; clear hD hF hb1)
    | (go_at_call 16; (with_reducible refine (dNew_num (n := 8) (by omega) (by omega) (by omega)).mono ?_); rintro e w2 ⟨m, FM, S, rfl, hM, hFM, hS, hb2⟩; have HM := Lib.hid hM; have HFM := Lib.hid hFM; have HSM := Lib.hid hS; have HB2 := Lib.hid hb2; clear hM hFM hS hb2))
  clear d0 e0 d1 e1 d2 e2
  have HTW := Lib.hid (new_tw HD.out HF.out HB1.out HM.out HFM.out HSM.out HB2.out)
  have HB12 := Lib.hid (Below.call HB1.out HB2.out)
  have HNL : Hid ((Bd.new 8).good.length = 8) := Lib.hid List.length_replicate
  go_loopw [11] (fun iv wr => ∃ i : Nat, i ≤ n1 ∧ iv = .int .i64 i ∧ TwN w.heap.size wr g m ((Bd.new 8).stepsN (l.take i)) ∧ Below w.heap.size w wr) (fun iv _ => n1 - (intOf iv).toNat)
  case atStart => exact ⟨0, Nat.zero_le _, rfl, HTW.out, HB12.out⟩
  case round =>
    obtain ⟨i, hi, rfl, hT, hbw⟩ := hrel
    have HT := Lib.hid hT; have HBW := Lib.hid hbw
    have hi8 : (i : Int) ≤ 60 := by omega
    have hi0 : (0 : Int) ≤ (i : Int) := by omega
    have hiw : IntKind.i64.wrap ((i : Int) + 1) = ((i + 1 : Nat) : Int) := by rw [IntKind.wrap_i64]; omega
    by_cases hlt : i < n1
    · have hi1 : (i : Int) < (n1 : Int) := by omega
      obtain ⟨s, hs⟩ : ∃ s, l[i]? = some s := ⟨_, List.getElem?_eq_getElem (by rw [HS.out.hlen]; exact hlt)⟩
      obtain ⟨b, o, rfl, hrg⟩ := (HS.out.below HBW.out).get i s hs
      obtain ⟨hr0, hr1, hr2⟩ := rng_cell hrg
      have HST := Lib.hid (Bd.stepsN_snoc (Bd.new 8) l i s hs)
      have HK : Hid (-9223372036854775808 ≤ s.2.1) := Lib.hid (HS.out.wf s (List.mem_of_getElem? hs)).1
      have HL1 : Hid (((Bd.new 8).stepsN (l.take i)).good.length = 8) := Lib.hid (by rw [Bd.stepsN_len]; exact HNL.out)
      have HO1 : Hid (((Bd.new 8).stepsN (l.take i)).ops < 1000000) := Lib.hid (by have := (Bd.new 8).stepsN_ops (l.take i); rw [List.length_take] at this; have h : (Bd.new 8).ops = 0 := rfl; omega)
      have HF1 : Hid (((Bd.new 8).stepsN (l.take i)).left ≤ 9223372036854775807) := Lib.hid (Bd.stepsN_left _ _ (by show (0 : Int) ≤ _; omega) (fun t ht => HS.out.wf t (List.mem_of_mem_take ht)))
      have HLT := Lib.hid hlt
      clear hT hbw hlt hi hs
      by_cases hk3 : s.1 = 3
      · have z1 : (s.1 != 3) = false := by rw [hk3]; rfl
        have HST2 : Hid (TwN w.heap.size wr g m ((Bd.new 8).stepsN (l.take (i + 1)))) := Lib.hid (by rw [HST.out]; unfold Bd.stepN; rw [if_pos hk3]; exact HT.out)
        obtain ⟨sk, hsk⟩ : ∃ sk, sk = s.1 := ⟨_, rfl⟩
        rw [← hsk] at z1 hr0
        clear hk3 hsk hr1 hr2
        go_wp2
        go_roundw
        case rel => exact ⟨i + 1, by have := HLT.out; omega, by go_num, HST2.out, HBW.out⟩
        case measure => have := HLT.out; simp [intOf]; omega
      · have z1 : (s.1 != 3) = true := by simpa using hk3
        have HST2 : Hid (((Bd.new 8).stepsN (l.take (i + 1))) = ((Bd.new 8).stepsN (l.take i)).step s.1 s.2.1 s.2.2) := Lib.hid (by rw [HST.out]; unfold Bd.stepN; rw [if_neg hk3])
        clear hk3
        go_wp2_with (first
          | (go_at_call 17; (with_reducible refine (bDoes_new HT.out HBW.out.size (by rw [HL1.out]; omega) (by rw [HL1.out]; omega) HO1.out HF1.out HK.out).mono ?_); rintro e w6 ⟨rfl, hT6, hb6⟩; rw [← HST2.out] at hT6; have HT6 := Lib.hid hT6; have HB6 := Lib.hid (HBW.out.trans hb6); clear hT6 hb6))
        go_roundw
        case rel => exact ⟨i + 1, by have := HLT.out; omega, by go_num, HT6.out, HB6.out⟩
        case measure => have := HLT.out; simp [intOf]; omega
    · obtain rfl : i = n1 := by omega
      obtain ⟨d, hd⟩ : ∃ d, d = (Bd.new 8).stepsN (l.take i) := ⟨_, rfl⟩
      have HL1 : Hid (d.good.length = 8) := Lib.hid (by rw [hd, Bd.stepsN_len]; exact HNL.out)
      have HO1 : Hid (d.ops < 1000) := Lib.hid (by have := (Bd.new 8).stepsN_ops (l.take i); rw [List.length_take] at this; have h : (Bd.new 8).ops = 0 := rfl; rw [hd]; omega)
      have HLF : Hid (d.left ≤ 9223372036854775807) := Lib.hid (by rw [hd]; exact Bd.stepsN_left _ _ (by show (0 : Int) ≤ _; omega) (fun t ht => HS.out.wf t (List.mem_of_mem_take ht)))
      rw [← hd] at HT
      have HPOS : Hid (0 < d.good.length ∧ d.good.length ≤ 1000 ∧ d.good.length ≤ 100000 ∧ d.ops < 1000000) := Lib.hid (by rw [HL1.out]; have := HO1.out; omega)
      obtain ⟨F, FM, S, hTT, hF, hFM, hS⟩ := HT.out.ex
      have HTT := Lib.hid hTT; have HFF := Lib.hid hF; have HFFM := Lib.hid hFM; have HSS := Lib.hid hS
      clear hT hbw hlt hi hd hTT hF hFM hS
      have HP1 := Lib.hid (HP.out.below HBW.out); have HQ1 := Lib.hid (HQ.out.below HBW.out)
      have hcl : (d.crash picks).good.length = d.good.length := Bd.crash_len d picks
      have HCL := Lib.hid hcl
      have HCO : Hid ((d.crash picks).ops < 1000000) := Lib.hid (by show (0 : Nat) < 1000000; omega)
      clear hcl
      go_wp2_with (first
        | (go_at_call 13; (with_reducible refine (bCrash_any HTT.out.dv HPOS.out.1 HPOS.out.2.1 HPOS.out.2.2.2 HP1.out).mono ?_); rintro e w6 ⟨gc, Fc, rfl, hD6, _, hb6⟩; have HDC := Lib.hid hD6; have HB6 := Lib.hid hb6; clear hD6 hb6)
        | (go_at_call 13; (with_reducible refine (bCrash_any HDC.out (by rw [HCL.out]; exact HPOS.out.1) (by rw [HCL.out]; exact HPOS.out.2.1) HCO.out (HQ1.out.below HB6.out)).mono ?_); rintro e w7 ⟨gx, Fx, rfl, hD7, _, hb7⟩; have HDX := Lib.hid hD7; have HB7 := Lib.hid (Below.call HB6.out hb7); have HDC7 := Lib.hid (HDC.out.later hb7); clear hD7 hb7)
        | (go_at_call 13; (with_reducible refine (bCrash_any (HTT.out.dv.later HB7.out) HPOS.out.1 HPOS.out.2.1 HPOS.out.2.2.2 (RdI.nil _)).mono ?_); rintro e w8 ⟨gy, Fy, rfl, hD8, _, hb8⟩; have HDY := Lib.hid hD8; have HB8 := Lib.hid (Below.call HB7.out hb8); have HDC8 := Lib.hid (HDC7.out.later hb8); have HDX8 := Lib.hid (HDX.out.later hb8); clear hD8 hb8))
      have HW8 := Lib.hid (Below.call HBW.out HB8.out)
      have HT8 := Lib.hid (HTT.out.later HB8.out)
      have HCX : Hid ((((d.crash picks).crash more)).good.length = 8) := Lib.hid (by rw [Bd.crash_len, HCL.out, HL1.out])
      have HCY : Hid ((d.crash []).good.length = 8) := Lib.hid (by rw [Bd.crash_len, HL1.out])
      obtain ⟨gg, cg, gw, cw, lf, m1, _, _, mR⟩ := HT8.out.md.ex
      have HM0 : Hid (w8.cell? ⟨m, 0, none⟩ = some (.slice (some ⟨gg, 0, none⟩) d.good.length cg) ∧ m < w8.heap.size) := Lib.hid ⟨m1.cell 0, m1.lt⟩
      have HMR := Lib.hid mR
      clear m1 mR hi8 hi0 hiw
      go_loopw [15] (fun kv wr => ∃ k : Nat, k ≤ 8 ∧ kv = .int .i64 k ∧ Below w8.heap.size w8 wr) (fun kv _ => 8 - (intOf kv).toNat)
      case atStart => exact ⟨0, Nat.zero_le _, rfl, Below.refl _ _⟩
      case round =>
        obtain ⟨k, hk, rfl, hbk⟩ := hrel
        have HBK := Lib.hid hbk
        have hk8 : (k : Int) ≤ 8 := by omega
        have hk0 : (0 : Int) ≤ (k : Int) := by omega
        have hkw : IntKind.i64.wrap ((k : Int) + 1) = ((k + 1 : Nat) : Int) := by rw [IntKind.wrap_i64]; omega
        by_cases hlt : k < 8
        · have hk1 : decide ((k : Int) < 8) = true := decide_eq_true (by omega)
          have hk2 : (k : Int) < (d.good.length : Int) := by rw [HL1.out]; omega
          have HKL : Hid (k < d.good.length) := Lib.hid (by rw [HL1.out]; exact hlt)
          have HLT := Lib.hid hlt
          clear hbk hlt hk
          go_upto_region 25 with (first
            | (go_at_call 14; (with_reducible refine (bRead_any (HDC8.out.later HBK.out) (by rw [HCL.out]; exact HKL.out) (by rw [HCL.out]; exact HPOS.out.2.2.1)).mono ?_); rintro e w9 ⟨q1, rfl, _, hR1, hb9⟩; have HR1 := Lib.hid hR1; have HB9 := Lib.hid (Below.call HBK.out hb9); clear hR1 hb9)
            | (go_at_call 14; (with_reducible refine (bRead_any (HDX8.out.later HB9.out) (by rw [HCX.out]; exact HLT.out) (by rw [HCX.out]; omega)).mono ?_); rintro e w10 ⟨q2, rfl, _, hR2, hb10⟩; have HR2 := Lib.hid hR2; have HB10 := Lib.hid (Below.call HB9.out hb10); have HR1 := Lib.hid (HR1.out.below hb10); clear hR2 hb10)
            | (go_at_call 14; (with_reducible refine (bRead_any (HDY.out.later HB10.out) (by rw [HCY.out]; exact HLT.out) (by rw [HCY.out]; omega)).mono ?_); rintro e w11 ⟨q3, rfl, _, hR3, hb11⟩; have HR3 := Lib.hid hR3; have HB11 := Lib.hid (Below.call HB10.out hb11); have HR1 := Lib.hid (HR1.out.below hb11); have HR2 := Lib.hid (HR2.out.below hb11); clear hR3 hb11))
          obtain ⟨v, y, cv, hv, _, _⟩ := (HMR.out.frame (F' := fun _ => False) (.of_below HB11.out) (fun _ _ _ h => h) (fun _ _ h => h)).cells HKL.out
          obtain ⟨va, vn, vc, rfl, hvr, _⟩ := hv
          have c0 : w11.cell? ⟨m, 0, none⟩ = some (.slice (some ⟨gg, 0, none⟩) d.good.length cg) := (HB11.out.cell (p := ⟨m, 0, none⟩) HM0.out.2).trans HM0.out.1
          obtain ⟨L1, hL1⟩ : ∃ L, L = (d.crash picks).last k := ⟨_, rfl⟩
          obtain ⟨L2, hL2⟩ : ∃ L, L = d.good.getD k [] := ⟨_, rfl⟩
          have r1 : RdB w11 (some ⟨q1, 0, none⟩) 64 64 L1 := by rw [hL1]; exact HR1.out
          have r2 : RdB w11 (some ⟨q2, 0, none⟩) 64 64 L1 := by rw [hL1, ← Bd.crash_again (q := more) HKL.out]; exact HR2.out
          have r3 : RdB w11 (some ⟨q3, 0, none⟩) 64 64 L2 := by rw [hL2, ← Bd.crash_none HKL.out]; exact HR3.out
          rw [← hL2] at hvr
          have x1 : ∀ n, (convert 26 9 (.slice (some ⟨q1, 0, none⟩) 64 64)).run Try.prog (w11.drewN n) = .ok (.string (bs L1)) (w11.drewN n) := fun n => conv_any (r1.below (drewN_below w11 n))
          have x2 : ∀ n, (convert 26 9 (.slice (some ⟨q2, 0, none⟩) 64 64)).run Try.prog (w11.drewN n) = .ok (.string (bs L1)) (w11.drewN n) := fun n => conv_any (r2.below (drewN_below w11 n))
          have x3 : ∀ n, (convert 26 9 (.slice (some ⟨q3, 0, none⟩) 64 64)).run Try.prog (w11.drewN n) = .ok (.string (bs L2)) (w11.drewN n) := fun n => conv_any (r3.below (drewN_below w11 n))
          have x4 : ∀ n, (convert 26 9 (.slice va vn vc)).run Try.prog (w11.drewN n) = .ok (.string (bs L2)) (w11.drewN n) := fun n => conv_any (hvr.below (drewN_below w11 n))
          have y1 : (bs L1 == bs L1) = true := by rw [bs_beq]; simp
          have y2 : (bs L2 == bs L2) = true := by rw [bs_beq]; simp
          clear r1 r2 r3 hvr hL1 hL2 HR1 HR2 HR3
          go_quiet (fail)
          have HBN := Lib.hid (Below.call HB11.out (drewN_below w11 nq))
          generalize w11.drewN nq = w12 at *
          clear x1 x2 x3 x4 c0 cv
          go_wp2
          go_roundw
          case rel => exact ⟨k + 1, by have := HLT.out; omega, by go_num, HBN.out⟩
          case measure => have := HLT.out; simp [intOf]; omega
        · obtain rfl : k = 8 := by omega
          have hk1 : decide (((8 : Nat) : Int) < 8) = false := by decide
          clear hbk hlt hk
          go_wp2_with (first
            | (go_at_call 18; (with_reducible refine (bShows_any (HT8.out.later HBK.out) HPOS.out.1 HPOS.out.2.1).mono ?_); rintro e w9 ⟨rfl, hb9⟩; have HB9 := Lib.hid (Below.call HBK.out hb9); clear hb9)
            | (go_at_call 15; (with_reducible refine (bAwake_any _).mono ?_); rintro e w10 ⟨rfl, hb10⟩; have HB10 := Lib.hid (Below.call HB9.out hb10); clear hb10))
          go_ret
          exact ⟨rfl, Below.call HW8.out HB10.out⟩
set_option maxRecDepth 100000 in
set_option maxHeartbeats 1000000 in
theorem again_big {n1 cap1 n2 cap2 n3 cap3 : Nat} {a1 a2 a3 : Option Addr} (w : World) (h : 60 < n1 ∨ 30 < n2 ∨ 30 < n3) :
    Calls Try.prog 6 #[.slice a1 n1 cap1, .slice a2 n2 cap2, .slice a3 n3 cap3] w fun e w' => e = .returned (.bool true) ∧ Below w.heap.size w w' := by
  by_cases h0 : 60 < n1
  · have d0 : decide ((60 : Int) < (n1 : Int)) = true := decide_eq_true (by omega)
    have e0 : decide (60 < n1) = true := decide_eq_true (by omega)
    clear h h0
    go_enter Try.func6, Try.ntmps6
    go_wp2_with (go_at_call 15; (with_reducible refine (bAwake_any _).mono ?_); rintro e w1 ⟨rfl, hb⟩)
    go_ret
    exact ⟨rfl, hb⟩
  have d0 : decide ((60 : Int) < (n1 : Int)) = false := decide_eq_false (by omega)
  have e0 : decide (60 < n1) = false := decide_eq_false (by omega)
  replace h : 30 < n2 ∨ 30 < n3 := by omega
  clear h0
  by_cases h1 : 30 < n2
  · have d1 : decide ((30 : Int) < (n2 : Int)) = true := decide_eq_true (by omega)
    have e1 : decide (30 < n2) = true := decide_eq_true (by omega)
    clear h h1
    go_enter Try.func6, Try.ntmps6
    go_wp2_with (go_at_call 15; (with_reducible refine (bAwake_any _).mono ?_); rintro e w1 ⟨rfl, hb⟩)
    go_ret
    exact ⟨rfl, hb⟩
  have d1 : decide ((30 : Int) < (n2 : Int)) = false := decide_eq_false (by omega)
  have e1 : decide (30 < n2) = false := decide_eq_false (by omega)
  replace h : 30 < n3 := by omega
  clear h1
  have d2 : decide ((30 : Int) < (n3 : Int)) = true := decide_eq_true (by omega)
  have e2 : decide (30 < n3) = true := decide_eq_true (by omega)
  clear h
  go_enter Try.func6, Try.ntmps6
  go_wp2_with (go_at_call 15; (with_reducible refine (bAwake_any _).mono ?_); rintro e w1 ⟨rfl, hb⟩)
  go_ret
  exact ⟨rfl, hb⟩
theorem blockAgain_any {n1 cap1 n2 cap2 n3 cap3 : Nat} {a1 a2 a3 : Option Addr} {l : List (Int × Int × Int)} {picks more : List Int} (w : World) (hs : RdSt w a1 n1 cap1 l) (hp : RdI w a2 n2 cap2 picks) (hq : RdI w a3 n3 cap3 more) :
    Calls Try.prog 6 #[.slice a1 n1 cap1, .slice a2 n2 cap2, .slice a3 n3 cap3] w fun e w' => e = .returned (.bool true) ∧ Below w.heap.size w w' := by
  by_cases h : 60 < n1 ∨ 30 < n2 ∨ 30 < n3
  · exact again_big w h
  · exact again_main w hs (by omega) hp (by omega) hq (by omega)
namespace blockAgainDone
theorem own : ownKnob Try.prog.godebug = none := by kernel_rfl
theorem laidOut : laidOutB Try.prog = true := by kernel_rfl
set_option maxRecDepth 100000 in
theorem lifted (os : Os) (started : os.Started) (H : Type) (enc : TypeId × Value → H) :
    ReturnsInHanded {} Try.checked os 6 .any (Rows.blockAgainSpec.pre6 enc Try.prog Try.f6 Rows.blockAgainRow.domain false) (Rows.blockAgainSpec.post enc Try.prog Try.f6 false true false false) := by
  refine returnsInHanded_of_change (C := Try.checked) own started (by kernel_rfl) Try.func6
    (ChangeSpec.witness6 (enc := enc) (C := Try.checked) false ⟨#[], #[.slice none 0 0, .slice none 0 0, .slice none 0 0], []⟩ 8 (by kernel_rfl) (by kernel_rfl) (by kernel_rfl) (by kernel_rfl)) ?_
  intro W base args ds gs before hval0 hW hcnd _
  have hval : ∀ (j : Nat) t v, Try.f6.params[j]? = some t → args[j]? = some v → Value.okWide Try.prog W .any base t v := hval0
  have hW' := hW
  obtain ⟨p, q, hA0, hV, rfl, hfz, hnd⟩ := hW
  have hA : DataW.TrodAll enc Try.prog W 0 (fun _ => true) true Try.f6.params.toList args.toList ds p := hA0
  rw [Try.params6] at hA hval
  obtain ⟨v0, vs0, d0, ds0, p0, q0, hargs, rfl, rfl, h0, r0⟩ := trodAll_cons hA
  obtain ⟨v1, vs1, d1, ds1, p1, q1, rfl, rfl, rfl, h1, r1⟩ := trodAll_cons r0
  obtain ⟨v2, vs2, d2, ds2, p2, q2, rfl, rfl, rfl, h2, r2⟩ := trodAll_cons r1
  obtain ⟨rfl, rfl, rfl⟩ := trodAll_nil r2
  obtain rfl : args = #[v0, v1, v2] := by cases args; simp_all
  obtain ⟨rfl, rfl⟩ := trodVars_none hV
  obtain ⟨a0, len0, cap0, rfl⟩ := okWide_slice Try.underlying36 (hval 0 36 v0 rfl rfl)
  have k0 := h0
  have lt0 : ∀ x ∈ p0, x.block < W.heap.size := by obtain ⟨m, hm⟩ := k0; exact DataW.trod_lt m _ _ _ hm
  obtain ⟨l0, w0⟩ : ∃ l, RdSt W a0 len0 cap0 l := by
    obtain ⟨fuel, hf⟩ := h0
    exact open_steps hf
  obtain ⟨a1, len1, cap1, rfl⟩ := okWide_slice Try.underlying37 (hval 1 37 v1 rfl rfl)
  have k1 := h1
  have lt1 : ∀ x ∈ p1, x.block < W.heap.size := by obtain ⟨m, hm⟩ := k1; exact DataW.trod_lt m _ _ _ hm
  obtain ⟨l1, w1⟩ : ∃ l, RdI W a1 len1 cap1 l := by
    obtain ⟨fuel, hf⟩ := h1
    rcases open_ints Try.underlying37 Try.underlying3 (by kernel_rfl) hf with ⟨hcs, _⟩ | ⟨x, l, c, zs, hcs, _, hl, hm, hz, _, hcell, hwz⟩
    · simp [Value.cells] at hcs
      obtain ⟨rfl, rfl, rfl⟩ := hcs
      exact ⟨[], RdI.nil _⟩
    · simp [Value.cells] at hcs
      obtain ⟨rfl, rfl, rfl⟩ := hcs
      exact RdI.of_ints (.inr ⟨_, rfl, hl, hm, by simpa using hz, hcell, hwz⟩)
  obtain ⟨a2, len2, cap2, rfl⟩ := okWide_slice Try.underlying37 (hval 2 37 v2 rfl rfl)
  have k2 := h2
  have lt2 : ∀ x ∈ p2, x.block < W.heap.size := by obtain ⟨m, hm⟩ := k2; exact DataW.trod_lt m _ _ _ hm
  obtain ⟨l2, w2⟩ : ∃ l, RdI W a2 len2 cap2 l := by
    obtain ⟨fuel, hf⟩ := h2
    rcases open_ints Try.underlying37 Try.underlying3 (by kernel_rfl) hf with ⟨hcs, _⟩ | ⟨x, l, c, zs, hcs, _, hl, hm, hz, _, hcell, hwz⟩
    · simp [Value.cells] at hcs
      obtain ⟨rfl, rfl, rfl⟩ := hcs
      exact ⟨[], RdI.nil _⟩
    · simp [Value.cells] at hcs
      obtain ⟨rfl, rfl, rfl⟩ := hcs
      exact RdI.of_ints (.inr ⟨_, rfl, hl, hm, by simpa using hz, hcell, hwz⟩)
  clear hA0 hval0
  refine (blockAgain_any W w0 w1 w2).mono fun e W' ⟨he, bel⟩ => ?_
  subst he
  exact ⟨_, rfl, _, _, _, [], _, [], hW', trodAll_mk1 (shut_bool Try.underlying4 _), (trodAll_cons_mk (Below.trod laidOut (by kernel_rfl) (of_decide_eq_true (by kernel_rfl)) k0 bel lt0) (trodAll_cons_mk (Below.trod laidOut (by kernel_rfl) (of_decide_eq_true (by kernel_rfl)) k1 bel lt1) (trodAll_cons_mk (Below.trod laidOut (by kernel_rfl) (of_decide_eq_true (by kernel_rfl)) k2 bel lt2) trodAll_mk0))), rfl, bel.frame _, fun h => by cases h⟩
theorem over : Rows.blockAgainRow.holds Try.pinned (OpenSpec.ofChange Rows.blockAgainSpec) :=
  OpenClaim.holds_of_wide 6 Try.f6 rfl rfl rfl rfl rfl rfl rfl ⟨rfl, rfl, rfl, rfl, rfl⟩ rfl rfl rfl rfl rfl (by kernel_rfl) Try.func6 (by kernel_rfl)
    (of_decide_eq_true (by kernel_rfl)) (by unfold Func.isWrapper; first | (rw [if_pos (by decide +kernel)]; kernel_rfl) | (rw [if_neg (by decide +kernel)]; exact ⟨rfl, rfl⟩))
    (fun os started H enc _ => lifted os started H enc)
theorem proved : Rows.BlockAgainSaid := over
#print axioms proved
end blockAgainDone

end Go.Proofs.Ytgehbchaamilhaa
