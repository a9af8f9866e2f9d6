/- Of chapter 15, BlockGood: for every input the law returns true, and each argument reads behind the call as it read before. No condition. -/
import Derived.Test.YtgehbchaamilhaaZBLB
import Derived.ProofKit
import Derived.ShutString
import Derived.ChangeOld
namespace Go.Proofs.Ytgehbchaamilhaa
open Go Go.ChangeShapes Go.WideShapes Go.ChangeAt Go.RowKit Go.Maps

/-- A block behind a crash is a row that some pick leaves. -/
theorem Bd.crashAt_row (d : Bd) (picks : List Int) (k : Nat) : ∃ p, p ≤ 2 * (d.pend k).length ∧ d.crashAt picks k = d.crashRow k p := by
  unfold Bd.crashAt
  by_cases h : d.pend k = [] ∨ picks = []
  · exact ⟨0, Nat.zero_le _, by rw [if_pos h]; rfl⟩
  · exact ⟨_, Nat.lt_succ_iff.1 (pickOf_lt picks (d.before k) (d.pend k).length), by rw [if_neg h]⟩
theorem good_first {d : Bd} {k p : Nat} (h : d.crashRow k p ≠ d.good.getD k []) : 1 ≤ p := by
  rcases Nat.eq_zero_or_pos p with rfl | hp
  · exact absurd rfl h
  · exact hp
theorem good_step {d : Bd} {k p i : Nat} {R : List UInt8} (hok : d.Ok) (hR : R = d.crashRow k p) (hi : i < (d.pend k).length) (hp : 2 * i + 1 ≤ p) (h1 : R ≠ (d.pend k).getD i []) (h2 : R.take 32 = ((d.pend k).getD i []).take 32 → R.drop 32 ≠ (d.at k i).drop 32) : 2 * (i + 1) + 1 ≤ p := by
  rcases Nat.lt_or_ge p (2 * (i + 1) + 1) with h | h
  · exfalso
    rcases Nat.lt_or_ge p (2 * i + 2) with h3 | h3
    · obtain rfl : p = 2 * i + 1 := by omega
      have e : (2 * i + 1) / 2 = i := by omega
      have e3 : R = ((d.pend k).getD i []).take 32 ++ (d.at k i).drop 32 := by rw [hR]; unfold Bd.crashRow; rw [if_pos (by omega), e]
      have hl : (((d.pend k).getD i []).take 32).length = 32 := by
        rw [List.length_take, List.getD_eq_getElem?_getD, List.getElem?_eq_getElem hi]
        have := hok.pend k _ (List.getElem_mem hi)
        simp only [Option.getD_some]; omega
      refine h2 ?_ ?_
      · rw [e3, List.take_left' hl]
      · rw [e3, List.drop_left' hl]
    · obtain rfl : p = 2 * i + 2 := by omega
      have e : (2 * i + 2) / 2 = i + 1 := by omega
      refine h1 ?_
      rw [hR]
      unfold Bd.crashRow
      rw [if_neg (by omega), e]
      unfold Bd.at
      rw [if_neg (by omega)]; rfl
  · exact h
theorem rd_drop {w : World} {b q n cap : Nat} {l : List UInt8} (h : RdB w (some ⟨b, q, none⟩) n cap l) (hn : 32 ≤ n) : RdB w (some ⟨b, q + 32, none⟩) (n - 32) (cap - 32) (l.drop 32) := by
  refine ⟨by rw [List.length_drop, h.hlen], by have := h.hcap; omega, by have := h.hmax; omega, fun i hi => ?_, fun e => by cases e⟩
  rw [List.length_drop] at hi
  obtain ⟨b', q', e, hc⟩ := h.get (32 + i) (by omega)
  cases e
  exact ⟨b, q + 32, rfl, by rw [List.getElem_drop, Nat.add_assoc]; exact hc⟩
set_option maxRecDepth 100000 in
set_option maxHeartbeats 8000000 in
theorem good_main {n1 cap1 n2 cap2 : Nat} {a1 a2 : Option Addr} {l : List (Int × Int × Int)} {picks : List Int} (w : World) (hs : RdSt w a1 n1 cap1 l) (h60 : n1 ≤ 60) (hp : RdI w a2 n2 cap2 picks) (h30 : n2 ≤ 30) :
    Calls Try.prog 4 #[.slice a1 n1 cap1, .slice a2 n2 cap2] w fun e w' => e = .returned (.bool true) ∧ Below w.heap.size w w' := by
  have HS := Lib.hid hs; have HP := Lib.hid hp; have H60 := Lib.hid h60
  have d0 : decide ((60 : Int) < (n1 : Int)) = false := decide_eq_false (by omega)
  have e0 : decide (60 < n1) = false := decide_eq_false (by omega)
  have d1 : decide ((30 : Int) < (n2 : Int)) = false := decide_eq_false (by omega)
  have e1 : decide (30 < n2) = false := decide_eq_false (by omega)
  have hn63 : (n1 : Int) ≤ 60 := by omega
  clear hs hp h30
  go_enter Try.func4, Try.ntmps4
  go_wp2_with (first
    | (go_at_call 9; (with_reducible refine (bNew_num (n := 8) (by omega) (by omega) (by omega)).mono ?_); rintro e w1 ⟨g, F, rfl, hD, hF, hb1⟩; have HD := Lib.hid hD; have HF := Lib.hid hF; have HB1 := Lib.hid hb1; clear hD hF hb1)
    | (go_at_call 16; (with_reducible refine (dNew_num (n := 8) (by omega) (by omega) (by omega)).mono ?_); rintro e w2 ⟨m, FM, S, rfl, hM, hFM, hS, hb2⟩; have HM := Lib.hid hM; have HFM := Lib.hid hFM; have HSM := Lib.hid hS; have HB2 := Lib.hid hb2; clear hM hFM hS hb2))
  clear d0 e0 d1 e1
  have HTW := Lib.hid (new_tw HD.out HF.out HB1.out HM.out HFM.out HSM.out HB2.out)
  have HB12 := Lib.hid (Below.call HB1.out HB2.out)
  have HNL : Hid ((Bd.new 8).good.length = 8) := Lib.hid List.length_replicate
  go_loopw [9] (fun iv wr => ∃ i : Nat, i ≤ n1 ∧ iv = .int .i64 i ∧ TwN w.heap.size wr g m ((Bd.new 8).stepsN (l.take i)) ∧ Below w.heap.size w wr) (fun iv _ => n1 - (intOf iv).toNat)
  case atStart => exact ⟨0, Nat.zero_le _, rfl, HTW.out, HB12.out⟩
  case round =>
    obtain ⟨i, hi, rfl, hT, hbw⟩ := hrel
    have HT := Lib.hid hT; have HBW := Lib.hid hbw
    have hi8 : (i : Int) ≤ 60 := by omega
    have hi0 : (0 : Int) ≤ (i : Int) := by omega
    have hiw : IntKind.i64.wrap ((i : Int) + 1) = ((i + 1 : Nat) : Int) := by rw [IntKind.wrap_i64]; omega
    by_cases hlt : i < n1
    · have hi1 : (i : Int) < (n1 : Int) := by omega
      obtain ⟨s, hs⟩ : ∃ s, l[i]? = some s := ⟨_, List.getElem?_eq_getElem (by rw [HS.out.hlen]; exact hlt)⟩
      obtain ⟨b, o, rfl, hrg⟩ := (HS.out.below HBW.out).get i s hs
      obtain ⟨hr0, hr1, hr2⟩ := rng_cell hrg
      have HST := Lib.hid (Bd.stepsN_snoc (Bd.new 8) l i s hs)
      have HK : Hid (-9223372036854775808 ≤ s.2.1) := Lib.hid (HS.out.wf s (List.mem_of_getElem? hs)).1
      have HL1 : Hid (((Bd.new 8).stepsN (l.take i)).good.length = 8) := Lib.hid (by rw [Bd.stepsN_len]; exact HNL.out)
      have HO1 : Hid (((Bd.new 8).stepsN (l.take i)).ops < 1000000) := Lib.hid (by have := (Bd.new 8).stepsN_ops (l.take i); rw [List.length_take] at this; have h : (Bd.new 8).ops = 0 := rfl; omega)
      have HF1 : Hid (((Bd.new 8).stepsN (l.take i)).left ≤ 9223372036854775807) := Lib.hid (Bd.stepsN_left _ _ (by show (0 : Int) ≤ _; omega) (fun t ht => HS.out.wf t (List.mem_of_mem_take ht)))
      have HLT := Lib.hid hlt
      clear hT hbw hlt hi hs
      by_cases hk3 : s.1 = 3
      · have z1 : (s.1 != 3) = false := by rw [hk3]; rfl
        have HST2 : Hid (TwN w.heap.size wr g m ((Bd.new 8).stepsN (l.take (i + 1)))) := Lib.hid (by rw [HST.out]; unfold Bd.stepN; rw [if_pos hk3]; exact HT.out)
        obtain ⟨sk, hsk⟩ : ∃ sk, sk = s.1 := ⟨_, rfl⟩
        rw [← hsk] at z1 hr0
        clear hk3 hsk hr1 hr2
        go_wp2
        go_roundw
        case rel => exact ⟨i + 1, by have := HLT.out; omega, by go_num, HST2.out, HBW.out⟩
        case measure => have := HLT.out; simp [intOf]; omega
      · have z1 : (s.1 != 3) = true := by simpa using hk3
        have HST2 : Hid (((Bd.new 8).stepsN (l.take (i + 1))) = ((Bd.new 8).stepsN (l.take i)).step s.1 s.2.1 s.2.2) := Lib.hid (by rw [HST.out]; unfold Bd.stepN; rw [if_neg hk3])
        clear hk3
        go_wp2_with (first
          | (go_at_call 17; (with_reducible refine (bDoes_new HT.out HBW.out.size (by rw [HL1.out]; omega) (by rw [HL1.out]; omega) HO1.out HF1.out HK.out).mono ?_); rintro e w6 ⟨rfl, hT6, hb6⟩; rw [← HST2.out] at hT6; have HT6 := Lib.hid hT6; have HB6 := Lib.hid (HBW.out.trans hb6); clear hT6 hb6))
        go_roundw
        case rel => exact ⟨i + 1, by have := HLT.out; omega, by go_num, HT6.out, HB6.out⟩
        case measure => have := HLT.out; simp [intOf]; omega
    · obtain rfl : i = n1 := by omega
      obtain ⟨d, hd⟩ : ∃ d, d = (Bd.new 8).stepsN (l.take i) := ⟨_, rfl⟩
      have HL1 : Hid (d.good.length = 8) := Lib.hid (by rw [hd, Bd.stepsN_len]; exact HNL.out)
      have HO1 : Hid (d.ops < 1000) := Lib.hid (by have := (Bd.new 8).stepsN_ops (l.take i); rw [List.length_take] at this; have h : (Bd.new 8).ops = 0 := rfl; rw [hd]; omega)
      have HLF : Hid (d.left ≤ 9223372036854775807) := Lib.hid (by rw [hd]; exact Bd.stepsN_left _ _ (by show (0 : Int) ≤ _; omega) (fun t ht => HS.out.wf t (List.mem_of_mem_take ht)))
      rw [← hd] at HT
      have HPOS : Hid (0 < d.good.length ∧ d.good.length ≤ 1000 ∧ d.good.length ≤ 100000 ∧ d.ops < 1000000) := Lib.hid (by rw [HL1.out]; have := HO1.out; omega)
      obtain ⟨F, FM, S, hTT, hF, hFM, hS⟩ := HT.out.ex
      have HTT := Lib.hid hTT; have HFF := Lib.hid hF; have HFFM := Lib.hid hFM; have HSS := Lib.hid hS
      clear hT hbw hlt hi hd hTT hF hFM hS
      have HP1 := Lib.hid (HP.out.below HBW.out)
      have HCL : Hid ((d.crash picks).good.length = d.good.length) := Lib.hid (Bd.crash_len d picks)
      clear hi8 hi0 hiw
      go_wp2_with (go_at_call 13; (with_reducible refine (bCrash_any HTT.out.dv HPOS.out.1 HPOS.out.2.1 HPOS.out.2.2.2 HP1.out).mono ?_); rintro e w8 ⟨gc, Fc, rfl, hD6, _, hb6⟩; have HDC := Lib.hid hD6; have HB8 := Lib.hid hb6; clear hD6 hb6)
      have HW8 := Lib.hid (Below.call HBW.out HB8.out)
      have HT8 := Lib.hid (HTT.out.later HB8.out)
      obtain ⟨gg, cg, gw, cw, lf, m1, _, _, mR⟩ := HT8.out.md.ex
      have HM0 : Hid (w8.cell? ⟨m, 0, none⟩ = some (.slice (some ⟨gg, 0, none⟩) d.good.length cg) ∧ w8.cell? ⟨m, 1, none⟩ = some (.slice (some ⟨gw, 0, none⟩) d.good.length cw) ∧ m < w8.heap.size) := Lib.hid ⟨m1.cell 0, m1.cell 1, m1.lt⟩
      have HMR := Lib.hid mR
      clear m1 mR
      go_loopw [11] (fun kv wr => ∃ k : Nat, k ≤ 8 ∧ kv = .int .i64 k ∧ Below w8.heap.size w8 wr) (fun kv _ => 8 - (intOf kv).toNat)
      case atStart => exact ⟨0, Nat.zero_le _, rfl, Below.refl _ _⟩
      case round =>
        obtain ⟨k, hk, rfl, hbk⟩ := hrel
        have HBK := Lib.hid hbk
        have hk8 : (k : Int) ≤ 8 := by omega
        have hk0 : (0 : Int) ≤ (k : Int) := by omega
        have hkw : IntKind.i64.wrap ((k : Int) + 1) = ((k + 1 : Nat) : Int) := by rw [IntKind.wrap_i64]; omega
        by_cases hlt : k < 8
        · have hk1 : decide ((k : Int) < 8) = true := decide_eq_true (by omega)
          have hk2 : (k : Int) < (d.good.length : Int) := by rw [HL1.out]; omega
          have HKL : Hid (k < d.good.length) := Lib.hid (by rw [HL1.out]; exact hlt)
          have HLT := Lib.hid hlt
          clear hbk hlt hk
          go_upto_region 21 with (go_at_call 14; (with_reducible refine (bRead_any (HDC.out.later HBK.out) (by rw [HCL.out]; exact HKL.out) (by rw [HCL.out]; exact HPOS.out.2.2.1)).mono ?_); rintro e w9 ⟨q1, rfl, _, hR1, hb9⟩; have HR1 := Lib.hid hR1; have HB9 := Lib.hid (Below.call HBK.out hb9); clear hR1 hb9)
          obtain ⟨v, y, cv, hv, cy, hy⟩ := (HMR.out.frame (F' := fun _ => False) (.of_below HB9.out) (fun _ _ _ h => h) (fun _ _ h => h)).cells HKL.out
          obtain ⟨va, vn, vc, rfl, hvr, _⟩ := hv
          obtain ⟨ya, yc, rfl, y0, y1, y2, ys, y3, y4, y5⟩ := hy
          have c0 : w9.cell? ⟨m, 0, none⟩ = some (.slice (some ⟨gg, 0, none⟩) d.good.length cg) := (HB9.out.cell (p := ⟨m, 0, none⟩) HM0.out.2.2).trans HM0.out.1
          have HC1 : Hid (w9.cell? ⟨m, 1, none⟩ = some (.slice (some ⟨gw, 0, none⟩) d.good.length cw) ∧ m < w9.heap.size) := Lib.hid ⟨(HB9.out.cell (p := ⟨m, 1, none⟩) HM0.out.2.2).trans HM0.out.2.1, Nat.lt_of_lt_of_le HM0.out.2.2 HB9.out.size⟩
          obtain ⟨R, hR⟩ : ∃ R, R = (d.crash picks).last k := ⟨_, rfl⟩
          obtain ⟨p, hp, hrow⟩ := d.crashAt_row picks k
          have HRP : Hid (R = d.crashRow k p ∧ p ≤ 2 * (d.pend k).length) := Lib.hid ⟨by rw [hR, Bd.crash_last HKL.out]; exact hrow, hp⟩
          have HRR : Hid (RdB w9 (some ⟨q1, 0, none⟩) 64 64 R) := Lib.hid (by rw [hR]; exact HR1.out)
          obtain ⟨G, hG⟩ : ∃ G, G = d.good.getD k [] := ⟨_, rfl⟩
          rw [← hG] at hvr
          have x1 : ∀ n, (convert 26 9 (.slice (some ⟨q1, 0, none⟩) 64 64)).run Try.prog (w9.drewN n) = .ok (.string (bs R)) (w9.drewN n) := fun n => conv_any (HRR.out.below (drewN_below w9 n))
          have x2 : ∀ n, (convert 26 9 (.slice va vn vc)).run Try.prog (w9.drewN n) = .ok (.string (bs G)) (w9.drewN n) := fun n => conv_any (hvr.below (drewN_below w9 n))
          obtain ⟨ok0, hok0⟩ : ∃ ok, (bs R == bs G) = ok := ⟨_, rfl⟩
          have hok1 : ((bs R).toList == (bs G).toList) = ok0 := by rw [← hok0, bs_eqT, bs_beq]
          have HOK0 : Hid (ok0 = true ∨ 1 ≤ p) := Lib.hid (by
            rw [← hok0, bs_beq]
            by_cases h : R = G
            · exact .inl (decide_eq_true h)
            · exact .inr (good_first (k := k) (d := d) (by rw [← HRP.out.1, ← hG]; exact h)))
          have HV0 : Hid (RdB w9 va vn vc (d.at k 0)) := Lib.hid (by have e : d.at k 0 = G := by rw [hG]; rfl
                                                                     rw [e]; exact hvr)
          have HYS : Hid (ys.length = (d.pend k).length) := Lib.hid y3
          have HY4 := Lib.hid y4; have HY5 := Lib.hid y5; have HCY := Lib.hid cy
          have hpl : (d.pend k).length ≤ 1000 := by have := HT8.out.dv.ok.cnt k; have := HO1.out; omega
          have HPL := Lib.hid hpl
          clear hvr hR hp hrow hG y0 y1 y2 y3 y4 y5 HR1
          go_quiet (fail)
          have HBN := Lib.hid (drewN_below w9 nq)
          have c0' : (w9.drewN nq).cell? ⟨m, 0, none⟩ = some (.slice (some ⟨gg, 0, none⟩) d.good.length cg) := (HBN.out.cell (p := ⟨m, 0, none⟩) HC1.out.2).trans c0
          have cv' : (w9.drewN nq).cell? ⟨gg, k, none⟩ = some (.slice va vn vc) := (HBN.out.cell (p := ⟨gg, k, none⟩) (cell_lt cv)).trans cv
          generalize w9.drewN nq = w10 at *
          clear x1 x2 c0 cv hok0 hok1
          go_wp2
          go_loopw [14, 15, 16] (fun okv lv iv wr => ∃ (i : Nat) (ok : Bool), i ≤ (d.pend k).length ∧ okv = .bool ok ∧ iv = .int .i64 i ∧ (ok = true ∨ 2 * i + 1 ≤ p) ∧ (∃ la ln lc, lv = .slice la ln lc ∧ RdB w9 la ln lc (d.at k i)) ∧ Below w9.heap.size w9 wr) (fun _ _ iv _ => (d.pend k).length - (intOf iv).toNat)
          case atStart => exact ⟨0, ok0, Nat.zero_le _, rfl, rfl, HOK0.out, ⟨va, vn, vc, rfl, HV0.out⟩, HBN.out⟩
          case round =>
            clear c0' cv'
            obtain ⟨i, ok, hi, rfl, rfl, hinv, ⟨la, ln, lc, rfl, hlr⟩, hbl⟩ := hrel
            have HBL := Lib.hid hbl; have HINV := Lib.hid hinv; have HLR := Lib.hid hlr
            have d0 : wr.cell? ⟨m, 1, none⟩ = some (.slice (some ⟨gw, 0, none⟩) d.good.length cw) := (hbl.cell (p := ⟨m, 1, none⟩) HC1.out.2).trans HC1.out.1
            have d1 : wr.cell? ⟨gw, k, none⟩ = some (.slice ya (d.pend k).length yc) := (hbl.cell (p := ⟨gw, k, none⟩) (cell_lt cy)).trans HCY.out
            have hi0 : (0 : Int) ≤ (i : Int) := by omega
            have hi8 : (i : Int) ≤ 1000 := by omega
            have hiw : IntKind.i64.wrap ((i : Int) + 1) = ((i + 1 : Nat) : Int) := by rw [IntKind.wrap_i64]; omega
            by_cases hil : i < (d.pend k).length
            · have hi1 : decide ((i : Int) < ((d.pend k).length : Int)) = true := decide_eq_true (by omega)
              have hi2 : decide (i < (d.pend k).length) = true := decide_eq_true hil
              have hi3 : (i : Int) < ((d.pend k).length : Int) := by omega
              have HIL := Lib.hid hil
              cases ok with
              | true =>
                clear hbl hlr hil hinv
                go_wp2
                go_roundw
                case rel => exact ⟨k + 1, by have := HLT.out; omega, by go_num, Below.call HB9.out HBL.out⟩
                case measure => have := HLT.out; simp [intOf]; omega
              | false =>
                obtain ⟨wv, hwv⟩ : ∃ wv, ys[i]? = some wv := ⟨_, List.getElem?_eq_getElem (by rw [HYS.out]; exact hil)⟩
                obtain ⟨Y, hY⟩ : ∃ Y, (d.pend k)[i]? = some Y := ⟨_, List.getElem?_eq_getElem hil⟩
                obtain ⟨yb, yq, rfl, _, hyc⟩ := HY4.out i _ hwv
                obtain ⟨wa, wn, wc, rfl, hwr, _⟩ := HY5.out i _ _ hwv hY
                have HY64 : Hid (Y.length = 64) := Lib.hid (HT8.out.dv.ok.pend k _ (List.mem_of_getElem? hY))
                obtain rfl : wn = 64 := by have := hwr.hlen; have := HY64.out; omega
                obtain ⟨wb, wq, rfl, _⟩ := hwr.get 0 (by have := HY64.out; omega)
                have hll : (d.at k i).length = 64 := Bd.at_len HT8.out.dv.ok HKL.out (Nat.le_of_lt hil)
                obtain rfl : ln = 64 := by have := hlr.hlen; omega
                obtain ⟨lb, lq, rfl, _⟩ := hlr.get 0 (by omega)
                obtain ⟨LL, hLL⟩ : ∃ LL, LL = d.at k i := ⟨_, rfl⟩
                have hlr2 : RdB wr (some ⟨lb, lq, none⟩) 64 lc LL := by rw [hLL]; exact hlr.below hbl
                have hwr2 : RdB wr (some ⟨wb, wq, none⟩) 64 wc Y := hwr.below hbl
                have hrr2 : RdB wr (some ⟨q1, 0, none⟩) 64 64 R := HRR.out.below hbl
                have cyi : wr.cell? ⟨yb, yq + i, none⟩ = some (.slice (some ⟨wb, wq, none⟩) 64 wc) := (hbl.cell (p := ⟨yb, yq + i, none⟩) (cell_lt hyc)).trans hyc
                have hlc : (64 : Int) ≤ (lc : Int) := by have := hlr.hcap; omega
                have hwc : (64 : Int) ≤ (wc : Int) := by have := hwr.hcap; omega
                have hlc2 : 64 ≤ lc := hlr.hcap
                have hwc2 : 64 ≤ wc := hwr.hcap
                have HNX : Hid (RdB w9 (some ⟨wb, wq, none⟩) 64 wc (d.at k (i + 1))) := Lib.hid (by
                  have e : d.at k (i + 1) = Y := by unfold Bd.at; rw [if_neg (by omega), Nat.add_sub_cancel, List.getD_eq_getElem?_getD, hY]; rfl
                  rw [e]; exact hwr)
                have HST : Hid (R ≠ Y → (R.take 32 = Y.take 32 → R.drop 32 ≠ LL.drop 32) → 2 * (i + 1) + 1 ≤ p) := Lib.hid (fun e1 e2 => good_step HT8.out.dv.ok HRP.out.1 hil (by rcases hinv with h | h; cases h; exact h) (by rw [List.getD_eq_getElem?_getD, hY]; exact e1) (by rw [List.getD_eq_getElem?_getD, hY, ← hLL]; exact e2))
                have z1 : ∀ n, (convert 26 9 (.slice (some ⟨q1, 0, none⟩) 64 64)).run Try.prog (wr.drewN n) = .ok (.string (bs R)) (wr.drewN n) := fun n => conv_any (hrr2.below (drewN_below wr n))
                have z2 : ∀ n, (convert 26 9 (.slice (some ⟨wb, wq, none⟩) 64 wc)).run Try.prog (wr.drewN n) = .ok (.string (bs Y)) (wr.drewN n) := fun n => conv_any (hwr2.below (drewN_below wr n))
                have z3 : ∀ n, (convert 26 9 (.slice (some ⟨q1, 0, none⟩) 32 64)).run Try.prog (wr.drewN n) = .ok (.string (bs (R.take 32))) (wr.drewN n) := fun n => conv_any ((rd_take hrr2 (by omega)).below (drewN_below wr n))
                have z4 : ∀ n, (convert 26 9 (.slice (some ⟨wb, wq, none⟩) 32 wc)).run Try.prog (wr.drewN n) = .ok (.string (bs (Y.take 32))) (wr.drewN n) := fun n => conv_any ((rd_take hwr2 (by omega)).below (drewN_below wr n))
                have z5 : ∀ n, (convert 26 9 (.slice (some ⟨q1, 32, none⟩) 32 32)).run Try.prog (wr.drewN n) = .ok (.string (bs (R.drop 32))) (wr.drewN n) := fun n => conv_any ((by simpa using rd_drop hrr2 (by omega) : RdB wr (some ⟨q1, 32, none⟩) 32 32 (R.drop 32)).below (drewN_below wr n))
                have z6 : ∀ n, (convert 26 9 (.slice (some ⟨lb, lq + 32, none⟩) 32 (lc - 32))).run Try.prog (wr.drewN n) = .ok (.string (bs (LL.drop 32))) (wr.drewN n) := fun n => conv_any ((rd_drop hlr2 (by omega)).below (drewN_below wr n))
                obtain ⟨B1, hB1⟩ : ∃ B, B = R.take 32 := ⟨_, rfl⟩
                obtain ⟨B2, hB2⟩ : ∃ B, B = Y.take 32 := ⟨_, rfl⟩
                obtain ⟨B3, hB3⟩ : ∃ B, B = R.drop 32 := ⟨_, rfl⟩
                obtain ⟨B4, hB4⟩ : ∃ B, B = LL.drop 32 := ⟨_, rfl⟩
                rw [← hB1] at z3; rw [← hB2] at z4; rw [← hB3] at z5; rw [← hB4] at z6
                have HST2 : Hid (R ≠ Y → (B1 = B2 → B3 ≠ B4) → 2 * (i + 1) + 1 ≤ p) := Lib.hid (by rw [hB1, hB2, hB3, hB4]; exact HST.out)
                clear hbl hlr hil hinv hwv hyc hwr hLL hlr2 hwr2 hrr2 hB1 hB2 hB3 hB4 HST hY
                go_upto_region 27 with fail
                clear d1
                by_cases q1e : R = Y
                · have g1 : (bs R == bs Y) = true := by rw [bs_beq]; exact decide_eq_true q1e
                  have g2 : ((bs R).toList == (bs Y).toList) = true := by rw [bs_eqT]; exact decide_eq_true q1e
                  clear q1e
                  go_quiet (fail)
                  have HBN := Lib.hid (Below.call HBL.out (drewN_below wr nq))
                  generalize wr.drewN nq = w12 at *
                  clear z1 z2 z3 z4 z5 z6 d0 cyi
                  go_wp2
                  go_roundw
                  case rel => first | exact ⟨i + 1, true, by have := HIL.out; omega, rfl, by go_num, .inl rfl, ⟨_, _, _, rfl, HNX.out⟩, HBN.out⟩ | ((repeat apply Exists.intro); exact ⟨⟨i + 1, true, by have := HIL.out; omega, rfl, by go_num, .inl rfl, ⟨_, _, _, rfl, HNX.out⟩, HBN.out⟩, rfl⟩)
                  case measure => have := HIL.out; simp [intOf]; omega
                · have g1 : (bs R == bs Y) = false := by rw [bs_beq]; exact decide_eq_false q1e
                  have g2 : ((bs R).toList == (bs Y).toList) = false := by rw [bs_eqT]; exact decide_eq_false q1e
                  by_cases q2e : B1 = B2
                  · have g3 : (bs B1 == bs B2) = true := by rw [bs_beq]; exact decide_eq_true q2e
                    have g4 : ((bs B1).toList == (bs B2).toList) = true := by rw [bs_eqT]; exact decide_eq_true q2e
                    obtain ⟨ok3, hok3⟩ : ∃ ok, (bs B3 == bs B4) = ok := ⟨_, rfl⟩
                    have hok4 : ((bs B3).toList == (bs B4).toList) = ok3 := by rw [← hok3, bs_eqT, bs_beq]
                    have HI3 : Hid (ok3 = true ∨ 2 * (i + 1) + 1 ≤ p) := Lib.hid (by
                      rw [← hok3, bs_beq]
                      by_cases h : B3 = B4
                      · exact .inl (decide_eq_true h)
                      · exact .inr (HST2.out q1e (fun _ => h)))
                    clear q1e q2e
                    go_quiet (fail)
                    have HBN := Lib.hid (Below.call HBL.out (drewN_below wr nq))
                    generalize wr.drewN nq = w12 at *
                    clear z1 z2 z3 z4 z5 z6 d0 cyi
                    go_wp2
                    go_roundw
                    case rel => first | exact ⟨i + 1, ok3, by have := HIL.out; omega, rfl, by go_num, HI3.out, ⟨_, _, _, rfl, HNX.out⟩, HBN.out⟩ | ((repeat apply Exists.intro); exact ⟨⟨i + 1, ok3, by have := HIL.out; omega, rfl, by go_num, HI3.out, ⟨_, _, _, rfl, HNX.out⟩, HBN.out⟩, rfl⟩)
                    case measure => have := HIL.out; simp [intOf]; omega
                  · have g3 : (bs B1 == bs B2) = false := by rw [bs_beq]; exact decide_eq_false q2e
                    have g4 : ((bs B1).toList == (bs B2).toList) = false := by rw [bs_eqT]; exact decide_eq_false q2e
                    have HI3 : Hid (2 * (i + 1) + 1 ≤ p) := Lib.hid (HST2.out q1e (fun h => absurd h q2e))
                    clear q1e q2e
                    go_quiet (fail)
                    have HBN := Lib.hid (Below.call HBL.out (drewN_below wr nq))
                    generalize wr.drewN nq = w12 at *
                    clear z1 z2 z3 z4 z5 z6 d0 cyi
                    go_wp2
                    go_roundw
                    case rel => first | exact ⟨i + 1, false, by have := HIL.out; omega, rfl, by go_num, .inr HI3.out, ⟨_, _, _, rfl, HNX.out⟩, HBN.out⟩ | ((repeat apply Exists.intro); exact ⟨⟨i + 1, false, by have := HIL.out; omega, rfl, by go_num, .inr HI3.out, ⟨_, _, _, rfl, HNX.out⟩, HBN.out⟩, rfl⟩)
                    case measure => have := HIL.out; simp [intOf]; omega
            · obtain rfl : i = (d.pend k).length := by omega
              have hi1 : decide (((d.pend k).length : Int) < ((d.pend k).length : Int)) = false := decide_eq_false (by omega)
              obtain rfl : ok = true := by
                rcases hinv with h | h
                · exact h
                · have := HRP.out.2; omega
              clear hbl hlr hil hinv
              go_wp2
              go_roundw
              case rel => exact ⟨k + 1, by have := HLT.out; omega, by go_num, Below.call HB9.out HBL.out⟩
              case measure => have := HLT.out; simp [intOf]; omega
        · obtain rfl : k = 8 := by omega
          have hk1 : decide (((8 : Nat) : Int) < 8) = false := by decide
          clear hbk hlt hk
          go_wp2_with (go_at_call 15; (with_reducible refine (bAwake_any _).mono ?_); rintro e w10 ⟨rfl, hb10⟩; have HB10 := Lib.hid (Below.call HBK.out hb10); clear hb10)
          go_ret
          exact ⟨rfl, Below.call HW8.out HB10.out⟩
set_option maxRecDepth 100000 in
set_option maxHeartbeats 1000000 in
theorem good_big {n1 cap1 n2 cap2 : Nat} {a1 a2 : Option Addr} (w : World) (h : 60 < n1 ∨ 30 < n2) :
    Calls Try.prog 4 #[.slice a1 n1 cap1, .slice a2 n2 cap2] w fun e w' => e = .returned (.bool true) ∧ Below w.heap.size w w' := by
  by_cases h0 : 60 < n1
  · have d0 : decide ((60 : Int) < (n1 : Int)) = true := decide_eq_true (by omega)
    have e0 : decide (60 < n1) = true := decide_eq_true (by omega)
    clear h h0
    go_enter Try.func4, Try.ntmps4
    go_wp2_with (go_at_call 15; (with_reducible refine (bAwake_any _).mono ?_); rintro e w1 ⟨rfl, hb⟩)
    go_ret
    exact ⟨rfl, hb⟩
  have d0 : decide ((60 : Int) < (n1 : Int)) = false := decide_eq_false (by omega)
  have e0 : decide (60 < n1) = false := decide_eq_false (by omega)
  replace h : 30 < n2 := by omega
  clear h0
  have d1 : decide ((30 : Int) < (n2 : Int)) = true := decide_eq_true (by omega)
  have e1 : decide (30 < n2) = true := decide_eq_true (by omega)
  clear h
  go_enter Try.func4, Try.ntmps4
  go_wp2_with (go_at_call 15; (with_reducible refine (bAwake_any _).mono ?_); rintro e w1 ⟨rfl, hb⟩)
  go_ret
  exact ⟨rfl, hb⟩
theorem blockGood_any {n1 cap1 n2 cap2 : Nat} {a1 a2 : Option Addr} {l : List (Int × Int × Int)} {picks : List Int} (w : World) (hs : RdSt w a1 n1 cap1 l) (hp : RdI w a2 n2 cap2 picks) :
    Calls Try.prog 4 #[.slice a1 n1 cap1, .slice a2 n2 cap2] w fun e w' => e = .returned (.bool true) ∧ Below w.heap.size w w' := by
  by_cases h : 60 < n1 ∨ 30 < n2
  · exact good_big w h
  · exact good_main w hs (by omega) hp (by omega)
namespace blockGoodDone
theorem own : ownKnob Try.prog.godebug = none := by kernel_rfl
theorem laidOut : laidOutB Try.prog = true := by kernel_rfl
set_option maxRecDepth 100000 in
theorem lifted (os : Os) (started : os.Started) (H : Type) (enc : TypeId × Value → H) :
    ReturnsInHanded {} Try.checked os 4 .any (Rows.blockGoodSpec.pre6 enc Try.prog Try.f4 Rows.blockGoodRow.domain false) (Rows.blockGoodSpec.post enc Try.prog Try.f4 false true false false) := by
  refine returnsInHanded_of_change (C := Try.checked) own started (by kernel_rfl) Try.func4
    (ChangeSpec.witness6 (enc := enc) (C := Try.checked) false ⟨#[], #[.slice none 0 0, .slice none 0 0], []⟩ 8 (by kernel_rfl) (by kernel_rfl) (by kernel_rfl) (by kernel_rfl)) ?_
  intro W base args ds gs before hval0 hW hcnd _
  have hval : ∀ (j : Nat) t v, Try.f4.params[j]? = some t → args[j]? = some v → Value.okWide Try.prog W .any base t v := hval0
  have hW' := hW
  obtain ⟨p, q, hA0, hV, rfl, hfz, hnd⟩ := hW
  have hA : DataW.TrodAll enc Try.prog W 0 (fun _ => true) true Try.f4.params.toList args.toList ds p := hA0
  rw [Try.params4] at hA hval
  obtain ⟨v0, vs0, d0, ds0, p0, q0, hargs, rfl, rfl, h0, r0⟩ := trodAll_cons hA
  obtain ⟨v1, vs1, d1, ds1, p1, q1, rfl, rfl, rfl, h1, r1⟩ := trodAll_cons r0
  obtain ⟨rfl, rfl, rfl⟩ := trodAll_nil r1
  obtain rfl : args = #[v0, v1] := by cases args; simp_all
  obtain ⟨rfl, rfl⟩ := trodVars_none hV
  obtain ⟨a0, len0, cap0, rfl⟩ := okWide_slice Try.underlying36 (hval 0 36 v0 rfl rfl)
  have k0 := h0
  have lt0 : ∀ x ∈ p0, x.block < W.heap.size := by obtain ⟨m, hm⟩ := k0; exact DataW.trod_lt m _ _ _ hm
  obtain ⟨l0, w0⟩ : ∃ l, RdSt W a0 len0 cap0 l := by
    obtain ⟨fuel, hf⟩ := h0
    exact open_steps hf
  obtain ⟨a1, len1, cap1, rfl⟩ := okWide_slice Try.underlying37 (hval 1 37 v1 rfl rfl)
  have k1 := h1
  have lt1 : ∀ x ∈ p1, x.block < W.heap.size := by obtain ⟨m, hm⟩ := k1; exact DataW.trod_lt m _ _ _ hm
  obtain ⟨l1, w1⟩ : ∃ l, RdI W a1 len1 cap1 l := by
    obtain ⟨fuel, hf⟩ := h1
    rcases open_ints Try.underlying37 Try.underlying3 (by kernel_rfl) hf with ⟨hcs, _⟩ | ⟨x, l, c, zs, hcs, _, hl, hm, hz, _, hcell, hwz⟩
    · simp [Value.cells] at hcs
      obtain ⟨rfl, rfl, rfl⟩ := hcs
      exact ⟨[], RdI.nil _⟩
    · simp [Value.cells] at hcs
      obtain ⟨rfl, rfl, rfl⟩ := hcs
      exact RdI.of_ints (.inr ⟨_, rfl, hl, hm, by simpa using hz, hcell, hwz⟩)
  clear hA0 hval0
  refine (blockGood_any W w0 w1).mono fun e W' ⟨he, bel⟩ => ?_
  subst he
  exact ⟨_, rfl, _, _, _, [], _, [], hW', trodAll_mk1 (shut_bool Try.underlying4 _), (trodAll_cons_mk (Below.trod laidOut (by kernel_rfl) (of_decide_eq_true (by kernel_rfl)) k0 bel lt0) (trodAll_cons_mk (Below.trod laidOut (by kernel_rfl) (of_decide_eq_true (by kernel_rfl)) k1 bel lt1) trodAll_mk0)), rfl, bel.frame _, fun h => by cases h⟩
theorem over : Rows.blockGoodRow.holds Try.pinned (OpenSpec.ofChange Rows.blockGoodSpec) :=
  OpenClaim.holds_of_wide 4 Try.f4 rfl rfl rfl rfl rfl rfl rfl ⟨rfl, rfl, rfl, rfl, rfl⟩ rfl rfl rfl rfl rfl (by kernel_rfl) Try.func4 (by kernel_rfl)
    (of_decide_eq_true (by kernel_rfl)) (by unfold Func.isWrapper; first | (rw [if_pos (by decide +kernel)]; kernel_rfl) | (rw [if_neg (by decide +kernel)]; exact ⟨rfl, rfl⟩))
    (fun os started H enc _ => lifted os started H enc)
theorem proved : Rows.BlockGoodSaid := over
#print axioms proved
end blockGoodDone

end Go.Proofs.Ytgehbchaamilhaa
