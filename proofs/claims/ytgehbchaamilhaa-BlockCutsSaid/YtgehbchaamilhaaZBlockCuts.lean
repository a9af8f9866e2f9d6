/- Of chapter 15, BlockCuts: for every input the law returns true, and each argument reads behind the call as it read before. No condition. -/
import Derived.Test.YtgehbchaamilhaaZBLB
import Derived.ProofKit
import Derived.ShutString
import Derived.ChangeOld
namespace Go.Proofs.Ytgehbchaamilhaa
open Go Go.ChangeShapes Go.WideShapes Go.ChangeAt Go.RowKit Go.Maps

/-- The device in the midst of the law. -/
structure CutI (w0 : World) (mx i did : Nat) (wr : World) (g : Nat) : Prop where
  ex : ∃ D F, Dv wr g D F ∧ (∀ x, F x → w0.heap.size ≤ x) ∧ D.good.length = 6 ∧ D.cut = true ∧ D.ops = i ∧ D.left = (mx : Int) - did ∧ D.off = decide (mx < i) ∧ did = min i mx ∧ Below w0.heap.size w0 wr
theorem cut_write {w0 w w' : World} {mx i did g k : Nat} {x : List UInt8} {D : Bd} {F F' : Nat → Prop} (hF : ∀ y, F y → w0.heap.size ≤ y) (hl : D.good.length = 6) (hc : D.cut = true) (ho : D.ops = i) (hle : D.left = (mx : Int) - did) (hof : D.off = decide (mx < i)) (hd : did = min i mx) (hb : Below w0.heap.size w0 w) (hk : k < 6) (hx : x.length = 64)
    (hD : Dv w' g (D.write k x) F') (hf : Fr F w w') (hF' : ∀ y, F' y → F y ∨ w.heap.size ≤ y) : CutI w0 mx (i + 1) (min (i + 1) mx) w' g := by
  have hoff : D.offN = decide (mx ≤ i) := by
    unfold Bd.offN
    rw [hof, hc, hle, hd]
    by_cases h : mx ≤ i
    · rw [decide_eq_true h]
      by_cases h2 : mx < i
      · rw [decide_eq_true h2]; rfl
      · rw [decide_eq_false h2]; simp; omega
    · rw [decide_eq_false h, decide_eq_false (by omega)]; simp; omega
  have hcond : ¬ ((k : Int) < 0 ∨ (D.good.length : Int) ≤ (k : Int) ∨ x.length ≠ 64) := by rw [hl, hx]; omega
  have hD2 : D.write k x = if D.offN then D.begin else D.begin.put k x := by unfold Bd.write; rw [if_neg hcond]; rfl
  rw [hD2] at hD
  have hlo := hb.size
  refine ⟨_, F', hD, fun y hy => ?_, ?_, ?_, ?_, ?_, ?_, rfl, hb.trans (hf.below hlo hF)⟩
  · rcases hF' y hy with h | h
    · exact hF y h
    · omega
  · rw [← hD2, Bd.write_len]; exact hl
  · split <;> exact hc
  · split <;> (show D.ops + 1 = i + 1; rw [ho])
  · have e : (if D.offN then D.begin else D.begin.put k x).left = D.begin.left := by split <;> rfl
    rw [e]
    unfold Bd.begin
    simp only [hoff, hc, if_true]
    by_cases h : mx ≤ i
    · simp only [decide_eq_true h, if_true]; rw [hle, hd]; omega
    · simp only [decide_eq_false h, if_false, Bool.false_eq_true]; rw [hle, hd]; omega
  · have e : (if D.offN then D.begin else D.begin.put k x).off = D.offN := by split <;> rfl
    rw [e, hoff]
    simp only [decide_eq_decide]; omega
theorem cut_flush {w0 w w' : World} {mx i did g : Nat} {D : Bd} {F F' : Nat → Prop} (hF : ∀ y, F y → w0.heap.size ≤ y) (hl : D.good.length = 6) (hc : D.cut = true) (ho : D.ops = i) (hle : D.left = (mx : Int) - did) (hof : D.off = decide (mx < i)) (hd : did = min i mx) (hb : Below w0.heap.size w0 w)
    (hD : Dv w' g D.flush F') (hf : Fr F w w') (hF' : ∀ y, F' y → F y ∨ w.heap.size ≤ y) : CutI w0 mx (i + 1) (min (i + 1) mx) w' g := by
  have hoff : D.offN = decide (mx ≤ i) := by
    unfold Bd.offN
    rw [hof, hc, hle, hd]
    by_cases h : mx ≤ i
    · rw [decide_eq_true h]
      by_cases h2 : mx < i
      · rw [decide_eq_true h2]; rfl
      · rw [decide_eq_false h2]; simp; omega
    · rw [decide_eq_false h, decide_eq_false (by omega)]; simp; omega
  have hlo := hb.size
  refine ⟨_, F', hD, fun y hy => ?_, ?_, ?_, ?_, ?_, ?_, rfl, hb.trans (hf.below hlo hF)⟩
  · rcases hF' y hy with h | h
    · exact hF y h
    · omega
  · rw [Bd.flush_len]; exact hl
  · unfold Bd.flush; split <;> exact hc
  · unfold Bd.flush; split <;> (show D.ops + 1 = i + 1; rw [ho])
  · have e : D.flush.left = D.begin.left := by unfold Bd.flush; split <;> rfl
    rw [e]
    unfold Bd.begin
    simp only [hoff, hc, if_true]
    by_cases h : mx ≤ i
    · simp only [decide_eq_true h, if_true]; rw [hle, hd]; omega
    · simp only [decide_eq_false h, if_false, Bool.false_eq_true]; rw [hle, hd]; omega
  · have e : D.flush.off = D.offN := by unfold Bd.flush; split <;> rfl
    rw [e, hoff]
    simp only [decide_eq_decide]; omega
theorem cut_offN {mx i did : Nat} {D : Bd} (hc : D.cut = true) (hle : D.left = (mx : Int) - did) (hof : D.off = decide (mx < i)) (hd : did = min i mx) : D.offN = decide (mx ≤ i) := by
  unfold Bd.offN
  rw [hof, hc, hle, hd]
  by_cases h : mx ≤ i
  · rw [decide_eq_true h]
    by_cases h2 : mx < i
    · rw [decide_eq_true h2]; rfl
    · rw [decide_eq_false h2]; simp; omega
  · rw [decide_eq_false h, decide_eq_false (by omega)]; simp; omega
theorem write_last {D : Bd} {k : Nat} {x : List UInt8} (hk : k < D.good.length) (hx : x.length = 64) (ho : D.offN = false) : (D.write k x).last k = x := by
  have hcond : ¬ ((k : Int) < 0 ∨ (D.good.length : Int) ≤ (k : Int) ∨ x.length ≠ 64) := by rw [hx]; omega
  unfold Bd.write
  rw [if_neg hcond, ho]
  simp only [Int.toNat_natCast, Bool.false_eq_true, if_false]
  have e : (D.begin.put k x).pend k = D.pend k ++ [x] := by unfold Bd.put; simp; rfl
  rw [Bd.last_cons (by rw [e]; simp), e]
  simp
theorem CutI.later {w0 wr w' : World} {mx i did g : Nat} (h : CutI w0 mx i did wr g) (hb : Below wr.heap.size wr w') : CutI w0 mx i did w' g := by
  obtain ⟨D, F, h1, h2, h3, h4, h5, h6, h7, h8, h9⟩ := h.ex
  exact ⟨D, F, h1.later hb, h2, h3, h4, h5, h6, h7, h8, Below.call h9 hb⟩
theorem RdSt.at {w : World} {b o n cap i : Nat} {l : List (Int × Int × Int)} {s : Int × Int × Int} (h : RdSt w (some ⟨b, o, none⟩) n cap l) (hs : l[i]? = some s) (_hb : True) : w.rangeAt b (o + i * 3) [.int .i64 s.1, .int .i64 s.2.1, .int .i64 s.2.2] := by
  obtain ⟨b', o', e, hr⟩ := h.get i s hs
  cases e; exact hr
set_option maxRecDepth 100000 in
set_option maxHeartbeats 8000000 in
theorem cuts_main {n : Int} {n1 cap1 : Nat} {a1 : Option Addr} {l : List (Int × Int × Int)} (w : World) (h5 : -5 ≤ n) (h100 : n ≤ 100) (hs : RdSt w a1 n1 cap1 l) (h80 : n1 ≤ 80) :
    Calls Try.prog 7 #[.int .i64 n, .slice a1 n1 cap1] w fun e w' => e = .returned (.bool true) ∧ Below w.heap.size w w' := by
  have HS := Lib.hid hs; have H80 := Lib.hid h80
  have d0 : decide (n < -5) = false := decide_eq_false (by omega)
  have d1 : decide (100 < n) = false := decide_eq_false (by omega)
  have d2 : decide ((80 : Int) < (n1 : Int)) = false := decide_eq_false (by omega)
  have e2 : decide (80 < n1) = false := decide_eq_false (by omega)
  have hn63 : (n1 : Int) ≤ 80 := by omega
  obtain ⟨mx, hmx⟩ : ∃ mx : Nat, max n 0 = (mx : Int) := ⟨(max n 0).toNat, by omega⟩
  have hmx2 : mx ≤ 100 := by omega
  have HMX := Lib.hid hmx; have HMX2 := Lib.hid hmx2
  have HN : Hid (-9223372036854775808 ≤ n) := Lib.hid (by omega)
  clear hs h5 h100
  go_enter Try.func7, Try.ntmps7
  go_wp2_with (first
    | (go_at_call 9; (with_reducible refine (bNew_num (n := 6) (by omega) (by omega) (by omega)).mono ?_); rintro e w1 ⟨g, F, rfl, hD, hF, hb1⟩; have HD := Lib.hid hD; have HF := Lib.hid hF; have HB1 := Lib.hid hb1; clear hD hF hb1)
    | (go_at_call 20; (with_reducible refine (bCut_any HD.out).mono ?_); rintro e w2 ⟨rfl, hD2, hf2⟩; have HD2 := Lib.hid hD2; have HF2 := Lib.hid hf2; clear hD2 hf2))
  have HC0 : Hid (CutI w mx 0 0 w2 g) := Lib.hid ⟨_, F, HD2.out, HF.out, List.length_replicate, rfl, rfl, by show max n 0 = _; rw [HMX.out]; omega, by simp [Bd.cutAt, Bd.new], by omega, HB1.out.trans (HF2.out.below HB1.out.size (fun x hx => by cases hx; exact HF.out _ (by obtain ⟨gb, c, mb, _, hR⟩ := HD.out.ex; exact hR.own)))⟩
  clear d0 d1 d2 e2 HD HF HB1 HD2 HF2
  go_loopw [7, 8, 9] (fun ov dv iv wr => ∃ i : Nat, i ≤ n1 ∧ iv = .int .i64 i ∧ ov = .int .i64 i ∧ ∃ did : Nat, dv = .int .i64 did ∧ CutI w mx i did wr g) (fun _ _ iv _ => n1 - (intOf iv).toNat)
  case atStart => exact ⟨0, Nat.zero_le _, rfl, rfl, 0, rfl, HC0.out⟩
  case round =>
    obtain ⟨i, hi, rfl, rfl, did, rfl, hC⟩ := hrel
    obtain ⟨D, F, hD, hFB, hDl, hDc, hDo, hDle, hDof, hDd, hbw⟩ := hC.ex
    have HD := Lib.hid hD; have HDL := Lib.hid hDl; have HDC := Lib.hid hDc; have HDP := Lib.hid hDo; have HDLE := Lib.hid hDle; have HDOF := Lib.hid hDof; have HDID := Lib.hid hDd; have HBW := Lib.hid hbw
    have HDO : Hid (D.ops < 1000000) := Lib.hid (by rw [hDo]; omega)
    have HDF : Hid (D.left ≤ 9223372036854775807) := Lib.hid (by rw [hDle]; omega)
    have hi8 : (i : Int) ≤ 80 := by omega
    have hi0 : (0 : Int) ≤ (i : Int) := by omega
    have hd8 : (did : Int) ≤ 100 := by omega
    have hd0 : (0 : Int) ≤ (did : Int) := by omega
    have hiw : IntKind.i64.wrap ((i : Int) + 1) = ((i + 1 : Nat) : Int) := by rw [IntKind.wrap_i64]; omega
    have hdw : IntKind.i64.wrap ((did : Int) + 1) = ((did + 1 : Nat) : Int) := by rw [IntKind.wrap_i64]; omega
    by_cases hlt : i < n1
    · have hi1 : (i : Int) < (n1 : Int) := by omega
      obtain ⟨s, hs⟩ : ∃ s, l[i]? = some s := ⟨_, List.getElem?_eq_getElem (by rw [HS.out.hlen]; exact hlt)⟩
      obtain ⟨b, o, rfl, hrg⟩ := (HS.out.below HBW.out).get i s hs
      obtain ⟨hr0, hr1, hr2⟩ := rng_cell hrg
      have hbo : True := trivial
      obtain ⟨kk, hkk⟩ : ∃ kk : Nat, s.2.1 % 6 = (kk : Int) := ⟨(s.2.1 % 6).toNat, by omega⟩
      have HKK := Lib.hid hkk
      have HKL : Hid (kk < 6) := Lib.hid (by omega)
      have hba : ∀ w, Calls Try.prog 10 #[.int .i64 64, .int .i64 s.2.2] w fun e w' => ∃ q, e = .returned (.slice (some ⟨q, 0, none⟩) 64 64) ∧ w.heap.size ≤ q ∧ Blk w' q ((alB 64 s.2.2).map bV) 5 ∧ Below w.heap.size w w' := fun w => alBlock_any (n := 64) (k := s.2.2) (by omega)
      have HBA := Lib.hid hba
      have HLT := Lib.hid hlt
      have hoffN := cut_offN hDc hDle hDof hDd
      have HCN : Hid (¬ ((kk : Int) < 0 ∨ (D.good.length : Int) ≤ (kk : Int) ∨ (alB 64 s.2.2).length ≠ 64)) := Lib.hid (by rw [hDl, alB_len]; omega)
      have hc2 : (i : Int) < 0 → False := by omega
      clear hba hD hDl hDc hDo hDle hDof hbw hC hkk hlt hc2
      by_cases hm : mx ≤ i
      · have HOFF : Hid (D.offN = true) := Lib.hid (by rw [hoffN]; exact decide_eq_true hm)
        have HDN : Hid ((Value.int .i64 (did : Int)) = .int .i64 ((min (i + 1) mx : Nat) : Int)) := Lib.hid (by rw [show min (i + 1) mx = did by omega])
        have hdm : decide ((did : Int) < (mx : Int)) = false := decide_eq_false (by omega)
        have hdm2 : decide (did < mx) = false := decide_eq_false (by omega)
        clear hoffN hm hDd hi hmx2
        by_cases hk2 : s.1 = 2
        · have z1 : (s.1 == 2) = true := by rw [hk2]; rfl
          have HCODE : Hid (D.flushC = 10) := Lib.hid (by unfold Bd.flushC; rw [if_pos HOFF.out])
          clear hk2
          go_wp2_with (first
            | (go_at_call 11; (with_reducible refine (alRound_any (n := 6) (by omega) (by omega)).mono ?_); rintro e wz ⟨rfl, rfl⟩; rw [HKK.out])
            | (go_at_call 10; (with_reducible refine (HBA.out _).mono ?_); rintro e w3 ⟨q, rfl, hq, hB, hbl⟩; have HB3 := Lib.hid hbl; have HBW3 : Hid (Below w.heap.size w w3) := Lib.hid (HBW.out.trans (hbl.mono HBW.out.size)); have y3 : w3.cell? ⟨b, o + i * 3, none⟩ = some (.int .i64 s.1) := (rng_cell (HS.out.below HBW3.out |>.at hs hbo)).1; clear hq hB hbl)
            | (go_at_call 21; (with_reducible refine (bFlush_any (HD.out.later HB3.out) (by rw [HDL.out]; omega) (by rw [HDL.out]; omega) HDO.out HDF.out).mono ?_); rintro e w4 ⟨rfl, F4, hD4, hf4, hF4⟩; rw [HCODE.out]; have HD4 := Lib.hid hD4; have HC4 := Lib.hid (cut_flush hFB HDL.out HDC.out HDP.out HDLE.out HDOF.out HDID.out HBW3.out hD4 hf4 hF4); have HB4 : Hid (Below w.heap.size w w4) := Lib.hid (HBW3.out.trans (hf4.below HBW3.out.size hFB)); clear hD4 hf4 hF4))
          go_roundw
          case rel => first | exact ⟨i + 1, by have := HLT.out; omega, by go_num, by go_num, _, HDN.out, HC4.out⟩ | ((repeat apply Exists.intro); exact ⟨⟨i + 1, by have := HLT.out; omega, by go_num, by go_num, _, HDN.out, HC4.out⟩, rfl⟩)
          case measure => have := HLT.out; simp [intOf]; omega
        · have z1 : (s.1 == 2) = false := by simpa using hk2
          have HCODE : Hid (D.writeC (kk : Int) (alB 64 s.2.2) = 10) := Lib.hid (by unfold Bd.writeC; rw [if_neg HCN.out, if_pos HOFF.out])
          clear hk2
          go_wp2_with (first
            | (go_at_call 11; (with_reducible refine (alRound_any (n := 6) (by omega) (by omega)).mono ?_); rintro e wz ⟨rfl, rfl⟩; rw [HKK.out])
            | (go_at_call 10; (with_reducible refine (HBA.out _).mono ?_); rintro e w3 ⟨q, rfl, hq, hB, hbl⟩; have HB3 := Lib.hid hbl; have HBW3 : Hid (Below w.heap.size w w3) := Lib.hid (HBW.out.trans (hbl.mono HBW.out.size)); have y3 : w3.cell? ⟨b, o + i * 3, none⟩ = some (.int .i64 s.1) := (rng_cell (HS.out.below HBW3.out |>.at hs hbo)).1; have HRB := Lib.hid (hB.rd (alB_len 64 s.2.2) (by unfold maxLen; omega)); have HNQ : Hid (∀ p, (some (⟨q, 0, none⟩ : Addr)) = some p → ¬ F p.block) := Lib.hid (fun p hp h => by cases hp; exact absurd (HD.out.lt _ h) (Nat.not_lt.2 hq)); clear hq hB hbl)
            | (go_at_call 12; (with_reducible refine (bWrite_any (k := (kk : Int)) (x := alB 64 s.2.2) (HD.out.later HB3.out) (by rw [HDL.out]; omega) HDO.out HDF.out HRB.out HNQ.out).mono ?_); rintro e w4 ⟨rfl, F4, hD4, hf4, hF4⟩; rw [HCODE.out]; have HD4 := Lib.hid hD4; have HC4 := Lib.hid (cut_write hFB HDL.out HDC.out HDP.out HDLE.out HDOF.out HDID.out HBW3.out HKL.out (alB_len 64 s.2.2) hD4 hf4 hF4); have HB4 : Hid (Below w.heap.size w w4) := Lib.hid (HBW3.out.trans (hf4.below HBW3.out.size hFB)); have HR4 := Lib.hid (hf4.rd HRB.out HNQ.out); clear hD4 hf4 hF4))
          go_roundw
          case rel => first | exact ⟨i + 1, by have := HLT.out; omega, by go_num, by go_num, _, HDN.out, HC4.out⟩ | ((repeat apply Exists.intro); exact ⟨⟨i + 1, by have := HLT.out; omega, by go_num, by go_num, _, HDN.out, HC4.out⟩, rfl⟩)
          case measure => have := HLT.out; simp [intOf]; omega
      · have HOFF : Hid (D.offN = false) := Lib.hid (by rw [hoffN]; exact decide_eq_false hm)
        have HDN : Hid ((Value.int .i64 ((did : Int) + 1)) = .int .i64 ((min (i + 1) mx : Nat) : Int)) := Lib.hid (by rw [show min (i + 1) mx = did + 1 by omega]; rfl)
        have hdm : decide ((did : Int) < (mx : Int)) = true := decide_eq_true (by omega)
        have hdm2 : decide (did < mx) = true := decide_eq_true (by omega)
        clear hoffN hm hDd hi hmx2
        by_cases hk2 : s.1 = 2
        · have z1 : (s.1 == 2) = true := by rw [hk2]; rfl
          have z2 : (s.1 != 2) = false := by rw [hk2]; rfl
          have HCODE : Hid (D.flushC = 0) := Lib.hid (by unfold Bd.flushC; rw [HOFF.out]; rfl)
          clear hk2
          go_wp2_with (first
            | (go_at_call 11; (with_reducible refine (alRound_any (n := 6) (by omega) (by omega)).mono ?_); rintro e wz ⟨rfl, rfl⟩; rw [HKK.out])
            | (go_at_call 10; (with_reducible refine (HBA.out _).mono ?_); rintro e w3 ⟨q, rfl, hq, hB, hbl⟩; have HB3 := Lib.hid hbl; have HBW3 : Hid (Below w.heap.size w w3) := Lib.hid (HBW.out.trans (hbl.mono HBW.out.size)); have y3 : w3.cell? ⟨b, o + i * 3, none⟩ = some (.int .i64 s.1) := (rng_cell (HS.out.below HBW3.out |>.at hs hbo)).1; clear hq hB hbl)
            | (go_at_call 21; (with_reducible refine (bFlush_any (HD.out.later HB3.out) (by rw [HDL.out]; omega) (by rw [HDL.out]; omega) HDO.out HDF.out).mono ?_); rintro e w4 ⟨rfl, F4, hD4, hf4, hF4⟩; rw [HCODE.out]; have HD4 := Lib.hid hD4; have HC4 := Lib.hid (cut_flush hFB HDL.out HDC.out HDP.out HDLE.out HDOF.out HDID.out HBW3.out hD4 hf4 hF4); have HB4 : Hid (Below w.heap.size w w4) := Lib.hid (HBW3.out.trans (hf4.below HBW3.out.size hFB)); clear hD4 hf4 hF4)
            | (go_at_call 14; (with_reducible refine (bRead_any (k := kk) HD4.out (by rw [Bd.flush_len, HDL.out]; exact HKL.out) (by rw [Bd.flush_len, HDL.out]; omega)).mono ?_); rintro e w5 ⟨q5, rfl, hq5, hR5, hb5⟩; have y5 : w5.cell? ⟨b, o + i * 3, none⟩ = some (.int .i64 s.1) := (rng_cell (HS.out.below (Below.call HB4.out hb5) |>.at hs hbo)).1; have HB5 := Lib.hid hb5; clear hR5 hb5))
          go_roundw
          case rel => first | exact ⟨i + 1, by have := HLT.out; omega, by go_num, by go_num, _, HDN.out, HC4.out.later HB5.out⟩ | ((repeat apply Exists.intro); exact ⟨⟨i + 1, by have := HLT.out; omega, by go_num, by go_num, _, HDN.out, HC4.out.later HB5.out⟩, rfl⟩)
          case measure => have := HLT.out; simp [intOf]; omega
        · have z1 : (s.1 == 2) = false := by simpa using hk2
          have z2 : (s.1 != 2) = true := by simpa using hk2
          have HCODE : Hid (D.writeC (kk : Int) (alB 64 s.2.2) = 0) := Lib.hid (by unfold Bd.writeC; rw [if_neg HCN.out, HOFF.out]; rfl)
          have yb : (bs (alB 64 s.2.2) == bs (alB 64 s.2.2)) = true := by rw [bs_beq]; simp
          clear hk2
          go_wp2_with (first
            | (go_at_call 11; (with_reducible refine (alRound_any (n := 6) (by omega) (by omega)).mono ?_); rintro e wz ⟨rfl, rfl⟩; rw [HKK.out])
            | (go_at_call 10; (with_reducible refine (HBA.out _).mono ?_); rintro e w3 ⟨q, rfl, hq, hB, hbl⟩; have HB3 := Lib.hid hbl; have HBW3 : Hid (Below w.heap.size w w3) := Lib.hid (HBW.out.trans (hbl.mono HBW.out.size)); have y3 : w3.cell? ⟨b, o + i * 3, none⟩ = some (.int .i64 s.1) := (rng_cell (HS.out.below HBW3.out |>.at hs hbo)).1; have HRB := Lib.hid (hB.rd (alB_len 64 s.2.2) (by unfold maxLen; omega)); have HNQ : Hid (∀ p, (some (⟨q, 0, none⟩ : Addr)) = some p → ¬ F p.block) := Lib.hid (fun p hp h => by cases hp; exact absurd (HD.out.lt _ h) (Nat.not_lt.2 hq)); clear hq hB hbl)
            | (go_at_call 12; (with_reducible refine (bWrite_any (k := (kk : Int)) (x := alB 64 s.2.2) (HD.out.later HB3.out) (by rw [HDL.out]; omega) HDO.out HDF.out HRB.out HNQ.out).mono ?_); rintro e w4 ⟨rfl, F4, hD4, hf4, hF4⟩; rw [HCODE.out]; have HD4 := Lib.hid hD4; have HC4 := Lib.hid (cut_write hFB HDL.out HDC.out HDP.out HDLE.out HDOF.out HDID.out HBW3.out HKL.out (alB_len 64 s.2.2) hD4 hf4 hF4); have HB4 : Hid (Below w.heap.size w w4) := Lib.hid (HBW3.out.trans (hf4.below HBW3.out.size hFB)); have HR4 := Lib.hid (hf4.rd HRB.out HNQ.out); clear hD4 hf4 hF4)
            | (go_at_call 14; (with_reducible refine (bRead_any (k := kk) HD4.out (by rw [Bd.write_len, HDL.out]; exact HKL.out) (by rw [Bd.write_len, HDL.out]; omega)).mono ?_); rintro e w5 ⟨q5, rfl, hq5, hR5, hb5⟩; have y5 : w5.cell? ⟨b, o + i * 3, none⟩ = some (.int .i64 s.1) := (rng_cell (HS.out.below (Below.call HB4.out hb5) |>.at hs hbo)).1; rw [write_last (by rw [HDL.out]; exact HKL.out) (alB_len 64 s.2.2) HOFF.out] at hR5; have x5 := conv_any hR5; have x6 := conv_any (HR4.out.below hb5); have HB5 := Lib.hid hb5; clear hR5 hb5))
          go_roundw
          case rel => first | exact ⟨i + 1, by have := HLT.out; omega, by go_num, by go_num, _, HDN.out, HC4.out.later HB5.out⟩ | ((repeat apply Exists.intro); exact ⟨⟨i + 1, by have := HLT.out; omega, by go_num, by go_num, _, HDN.out, HC4.out.later HB5.out⟩, rfl⟩)
          case measure => have := HLT.out; simp [intOf]; omega
    · obtain rfl : i = n1 := by omega
      have HOP : Hid (Below w.heap.size w wr) := HBW
      have hcc : (decide (mx < i)) = decide ((mx : Int) < (i : Int)) := by simp only [decide_eq_decide]; omega
      have HOFV : Hid (D.off = decide ((mx : Int) < (i : Int))) := Lib.hid (by rw [hDof, hcc])
      have hmm : (decide ((mx : Int) < (i : Int)) == decide ((mx : Int) < (i : Int))) = true := by simp
      clear hD hDl hDc hDo hDle hDof hbw hC hlt hi hcc
      go_wp2_with (first
        | (go_at_call 22; (with_reducible refine (bOps_any HD.out).mono ?_); rintro e wz ⟨rfl, rfl⟩; rw [HDP.out])
        | (go_at_call 23; (with_reducible refine (bOff_any HD.out (by rw [HDL.out]; omega)).mono ?_); rintro e wz ⟨rfl, rfl⟩; rw [HOFV.out])
        | (go_at_call 15; (with_reducible refine (bAwake_any _).mono ?_); rintro e w11 ⟨rfl, hb11⟩))
      go_ret
      exact ⟨rfl, Below.call HBW.out hb11⟩
set_option maxRecDepth 100000 in
set_option maxHeartbeats 1000000 in
theorem cuts_big {n : Int} {n1 cap1 : Nat} {a1 : Option Addr} (w : World) (h : n < -5 ∨ 100 < n ∨ 80 < n1) :
    Calls Try.prog 7 #[.int .i64 n, .slice a1 n1 cap1] w fun e w' => e = .returned (.bool true) ∧ Below w.heap.size w w' := by
  by_cases h1 : n < -5
  · have d0 : decide (n < -5) = true := decide_eq_true h1
    clear h h1
    go_enter Try.func7, Try.ntmps7
    go_wp2_with (go_at_call 15; (with_reducible refine (bAwake_any _).mono ?_); rintro e w1 ⟨rfl, hb⟩)
    go_ret
    exact ⟨rfl, hb⟩
  · have d0 : decide (n < -5) = false := decide_eq_false h1
    by_cases h2 : 100 < n
    · have d1 : decide (100 < n) = true := decide_eq_true h2
      clear h h1 h2
      go_enter Try.func7, Try.ntmps7
      go_wp2_with (go_at_call 15; (with_reducible refine (bAwake_any _).mono ?_); rintro e w1 ⟨rfl, hb⟩)
      go_ret
      exact ⟨rfl, hb⟩
    · have d1 : decide (100 < n) = false := decide_eq_false h2
      have d2 : decide ((80 : Int) < (n1 : Int)) = true := decide_eq_true (by omega)
      have e2 : decide (80 < n1) = true := decide_eq_true (by omega)
      clear h h1 h2
      go_enter Try.func7, Try.ntmps7
      go_wp2_with (go_at_call 15; (with_reducible refine (bAwake_any _).mono ?_); rintro e w1 ⟨rfl, hb⟩)
      go_ret
      exact ⟨rfl, hb⟩
theorem blockCuts_any {n : Int} {n1 cap1 : Nat} {a1 : Option Addr} {l : List (Int × Int × Int)} (w : World) (_hn : (Lit.int .i64 n).wf = true) (hs : RdSt w a1 n1 cap1 l) :
    Calls Try.prog 7 #[.int .i64 n, .slice a1 n1 cap1] w fun e w' => e = .returned (.bool true) ∧ Below w.heap.size w w' := by
  by_cases h : n < -5 ∨ 100 < n ∨ 80 < n1
  · exact cuts_big w h
  · exact cuts_main w (by omega) (by omega) hs (by omega)
namespace blockCutsDone
theorem own : ownKnob Try.prog.godebug = none := by kernel_rfl
theorem laidOut : laidOutB Try.prog = true := by kernel_rfl
set_option maxRecDepth 100000 in
theorem lifted (os : Os) (started : os.Started) (H : Type) (enc : TypeId × Value → H) :
    ReturnsInHanded {} Try.checked os 7 .any (Rows.blockCutsSpec.pre6 enc Try.prog Try.f7 Rows.blockCutsRow.domain false) (Rows.blockCutsSpec.post enc Try.prog Try.f7 false true false false) := by
  refine returnsInHanded_of_change (C := Try.checked) own started (by kernel_rfl) Try.func7
    (ChangeSpec.witness6 (enc := enc) (C := Try.checked) false ⟨#[], #[.int .i64 0, .slice none 0 0], []⟩ 8 (by kernel_rfl) (by kernel_rfl) (by kernel_rfl) (by kernel_rfl)) ?_
  intro W base args ds gs before hval0 hW hcnd _
  have hval : ∀ (j : Nat) t v, Try.f7.params[j]? = some t → args[j]? = some v → Value.okWide Try.prog W .any base t v := hval0
  have hW' := hW
  obtain ⟨p, q, hA0, hV, rfl, hfz, hnd⟩ := hW
  have hA : DataW.TrodAll enc Try.prog W 0 (fun _ => true) true Try.f7.params.toList args.toList ds p := hA0
  rw [Try.params7] at hA hval
  obtain ⟨v0, vs0, d0, ds0, p0, q0, hargs, rfl, rfl, h0, r0⟩ := trodAll_cons hA
  obtain ⟨v1, vs1, d1, ds1, p1, q1, rfl, rfl, rfl, h1, r1⟩ := trodAll_cons r0
  obtain ⟨rfl, rfl, rfl⟩ := trodAll_nil r1
  obtain rfl : args = #[v0, v1] := by cases args; simp_all
  obtain ⟨rfl, rfl⟩ := trodVars_none hV
  obtain ⟨a0, rfl, rfl, rfl, w0⟩ := open_int Try.underlying3 (hval 0 3 v0 rfl rfl) h0
  obtain ⟨a1, len1, cap1, rfl⟩ := okWide_slice Try.underlying36 (hval 1 36 v1 rfl rfl)
  have k1 := h1
  have lt1 : ∀ x ∈ p1, x.block < W.heap.size := by obtain ⟨m, hm⟩ := k1; exact DataW.trod_lt m _ _ _ hm
  obtain ⟨l1, w1⟩ : ∃ l, RdSt W a1 len1 cap1 l := by
    obtain ⟨fuel, hf⟩ := h1
    exact open_steps hf
  clear hA0 hval0
  refine (blockCuts_any W w0 w1).mono fun e W' ⟨he, bel⟩ => ?_
  subst he
  exact ⟨_, rfl, _, _, _, [], _, [], hW', trodAll_mk1 (shut_bool Try.underlying4 _), (trodAll_cons_mk (shut_int Try.underlying3 w0) (trodAll_cons_mk (Below.trod laidOut (by kernel_rfl) (of_decide_eq_true (by kernel_rfl)) k1 bel lt1) trodAll_mk0)), rfl, bel.frame _, fun h => by cases h⟩
theorem over : Rows.blockCutsRow.holds Try.pinned (OpenSpec.ofChange Rows.blockCutsSpec) :=
  OpenClaim.holds_of_wide 7 Try.f7 rfl rfl rfl rfl rfl rfl rfl ⟨rfl, rfl, rfl, rfl, rfl⟩ rfl rfl rfl rfl rfl (by kernel_rfl) Try.func7 (by kernel_rfl)
    (of_decide_eq_true (by kernel_rfl)) (by unfold Func.isWrapper; first | (rw [if_pos (by decide +kernel)]; kernel_rfl) | (rw [if_neg (by decide +kernel)]; exact ⟨rfl, rfl⟩))
    (fun os started H enc _ => lifted os started H enc)
theorem proved : Rows.BlockCutsSaid := over
#print axioms proved
end blockCutsDone

end Go.Proofs.Ytgehbchaamilhaa
