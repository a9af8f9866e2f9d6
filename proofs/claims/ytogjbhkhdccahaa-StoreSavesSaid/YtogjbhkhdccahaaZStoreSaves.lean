/- Of chapter 16, StoreSaves: for every input the law returns true, and each argument reads behind the call as it read before. No condition. -/
import Derived.Test.YtogjbhkhdccahaaZSOB
import Derived.ProofKit
import Derived.ShutString
import Derived.ChangeOld
namespace Go.Proofs.Ytogjbhkhdccahaa
open Go Go.ChangeShapes Go.WideShapes Go.ChangeAt Go.RowKit Go.Maps

set_option maxRecDepth 100000 in
set_option maxHeartbeats 4000000 in
theorem saves_main {n1 cap1 n2 cap2 : Nat} {a1 a2 : Option Addr} {l picks : List Int} (w : World) (hp : RdI w a1 n1 cap1 l) (h30 : n1 ≤ 30) (hq : RdI w a2 n2 cap2 picks) (h20 : n2 ≤ 20) :
    Calls Try.prog 5 #[.slice a1 n1 cap1, .slice a2 n2 cap2] w fun e w' => e = .returned (.bool true) ∧ Below w.heap.size w w' := by
  have HP := Lib.hid hp; have HQ := Lib.hid hq; have H30 := Lib.hid h30; have HR0 := Lib.hid run0
  have d_n1 : decide ((30 : Int) < (n1 : Int)) = false := decide_eq_false (by omega)
  have e_n1 : decide (30 < n1) = false := decide_eq_false (by omega)
  have d_n2 : decide ((20 : Int) < (n2 : Int)) = false := decide_eq_false (by omega)
  have e_n2 : decide (20 < n2) = false := decide_eq_false (by omega)
  have hn63 : (n1 : Int) ≤ 30 := by omega
  clear hp hq h30 h20
  go_enter Try.func5, Try.ntmps5
  go_wp2_with (go_at_call 10; (with_reducible refine (stFresh_any _).mono ?_); rintro e w1 ⟨g, s, rfl, hS, hb⟩; have HS := Lib.hid hS; have HB := Lib.hid hb; clear hS hb)
  clear d_n1 e_n1 d_n2 e_n2
  go_loopw [8, 9, 10] (fun lv nv iv wr => ∃ (i n lc : Nat) (la : Option Addr) (d : Bd) (st : Bs), i ≤ n1 ∧ iv = .int .i64 i ∧ nv = .int .i64 n ∧ lv = .slice la st.data.length lc ∧ SxN w.heap.size (atK la) wr g s d st ∧ RdB wr la st.data.length lc st.data ∧ Run (100 * i + 1) d st ∧ On d ∧ st.cnt = n ∧ n ≤ i ∧ Below w.heap.size w wr) (fun _ _ iv _ => n1 - (intOf iv).toNat)
  case atStart => exact ⟨0, 0, 0, none, d0, st0, Nat.zero_le _, rfl, rfl, rfl, HS.out.keep (K' := atK none) (Below.refl _ _) (fun x hx => by obtain ⟨p, hp, _⟩ := hx; cases hp), RdB.nil _, HR0.out.1, HR0.out.2, rfl, Nat.le_refl _, HB.out⟩
  case round =>
    obtain ⟨i, n, lc, la, d, st, hi, rfl, rfl, rfl, hS1, hla, hR1, hO1, hC1, hni, hbw⟩ := hrel
    have HS1 := Lib.hid hS1; have HR1 := Lib.hid hR1; have HO1 := Lib.hid hO1; have HC1 := Lib.hid hC1; have HBW := Lib.hid hbw; have HLA := Lib.hid hla; have HNI := Lib.hid hni
    have hi8 : (i : Int) ≤ 30 := by omega
    have hi0 : (0 : Int) ≤ (i : Int) := by omega
    have hiw : IntKind.i64.wrap ((i : Int) + 1) = ((i + 1 : Nat) : Int) := by rw [IntKind.wrap_i64]; omega
    have hnw : IntKind.i64.wrap ((n : Int) + 1) = ((n + 1 : Nat) : Int) := by rw [IntKind.wrap_i64]; omega
    have HPD : Hid (64 ≤ d.good.length ∧ d.good.length ≤ 1000 ∧ d.ops + 1000 < 1000000 ∧ d.left ≤ 9223372036854775807 ∧ st.cnt + 1 < 1000000) := Lib.hid ⟨by rw [hR1.len]; omega, by rw [hR1.len]; omega, by have := hR1.ops; omega, hR1.left, by omega⟩
    have HHO : Hid (holdsP st st.data n = true) := Lib.hid (by unfold holdsP; split <;> simp [hC1]; omega)
    obtain ⟨sd, hsd⟩ : ∃ sd, sd = st.data := ⟨_, rfl⟩
    rw [← hsd] at HLA HHO
    have HSD := Lib.hid hsd
    obtain ⟨sl, hsl⟩ : ∃ sl : Nat, sl = st.data.length := ⟨_, rfl⟩
    have HSL : Hid (sd.length = sl) := Lib.hid (by rw [hsd, hsl])
    have HLA : Hid (RdB wr la sl lc sd) := Lib.hid (by rw [← HSL.out]; exact HLA.out)
    rw [← hsl]
    clear hsd hsl
    by_cases hlt : i < n1
    · have hi1 : (i : Int) < (n1 : Int) := by omega
      obtain ⟨b, o, rfl, hc⟩ := (HP.out.below hbw).get i (by rw [HP.out.hlen]; exact hlt)
      generalize l[i]'(by rw [HP.out.hlen]; exact hlt) = zi at hc
      obtain ⟨nb, hnb⟩ : ∃ nb : Nat, zi % 5300 = (nb : Int) := ⟨_, (Int.toNat_of_nonneg (Int.emod_nonneg _ (by omega))).symm⟩
      have HNB := Lib.hid hnb
      have hnb2 : nb < 5300 := by have := Int.emod_lt_of_pos zi (show (0 : Int) < 5300 by omega); omega
      have HN2 := Lib.hid hnb2
      have HLT := Lib.hid hlt
      by_cases hbig : 5120 < nb
      · have q1 : decide ((5120 : Int) < (nb : Int)) = true := decide_eq_true (by omega)
        have q2 : decide (5120 < nb) = true := decide_eq_true hbig
        have HSP : Hid (saveP d st (alB nb i) = (d, st, 11)) := Lib.hid (by unfold saveP; rw [if_pos (by rw [alB_len, hR1.len]; omega)])
        clear hS1 hR1 hO1 hC1 hbw hlt hi hnb hnb2 hla hni hbig
        go_wp2_with (first
          | (go_at_call 12; (with_reducible refine (alRound_any (by omega) (by omega)).mono ?_); rintro e wz ⟨rfl, rfl⟩; rw [HNB.out])
          | (go_at_call 11; (with_reducible refine (alBlock_any (by have := HN2.out; omega)).mono ?_); rintro e w2 ⟨q, rfl, hq, hB, hb⟩; have HBQ := Lib.hid hb; have HB2 := Lib.hid (Below.call HBW.out hb); have HRB := Lib.hid (RdB.blk (n := nb) (cap := nb) (l := alB nb i) [] (by rw [List.append_nil]; exact hB) (alB_len _ _) (Nat.le_refl _) (by have := HN2.out; unfold maxLen; omega)); have HS2 := Lib.hid (HS1.out.keep (K' := fun x => atK la x ∨ x = q) hb (fun x hx => by rcases hx with h | h; exact .inl h; exact .inr (by cases h; exact ⟨hq, hB.lt⟩))); clear hB hb hq)
          | (go_at_call 13; go_must (refine (stSave_new HS2.out HRB.out (fun p hp => .inr (by cases hp; rfl)) HPD.out.1 HPD.out.2.1 HPD.out.2.2.1 HPD.out.2.2.2.1 HPD.out.2.2.2.2).mono ?_; rw [HSP.out]; rintro e w3 ⟨rfl, hS, hO⟩; have HS3 := Lib.hid hS; have HRB3 := Lib.hid (hO.rd HRB.out (fun p hp => .inr (by cases hp; rfl))); have HLA3 := Lib.hid (hO.rd (HLA.out.below HBQ.out) (fun p hp => .inl ⟨p, hp, rfl⟩)); have HB3 := Lib.hid (HB2.out.trans (hO.below HB2.out.size)); clear hS hO))
          | (go_at_call 18; (with_reducible refine (stRoom_256 _).mono ?_); rintro e wz ⟨rfl, rfl⟩)
          | (go_at_call 15; go_must (refine (stHolds_S n _ rfl true HHO.out HS3.out HLA3.out).mono ?_; rintro e w5 ⟨rfl, hb⟩; have HS5 := Lib.hid (HS3.out.keep (K' := atK la) hb (fun x hx => .inl (.inl hx))); have HLA5 := Lib.hid (HLA3.out.below hb); have HB5 := Lib.hid (HB3.out.trans (hb.mono HB3.out.size)); clear hb)))
        go_roundw
        case rel => exact ⟨i + 1, n, lc, la, d, st, HLT.out, by go_num, rfl, by rw [← HSD.out, HSL.out], HS5.out, by rw [← HSD.out, HSL.out]; exact HLA5.out, ⟨HR1.out.ok, HR1.out.gs, HR1.out.len, by have := HR1.out.ops; omega, HR1.out.left, HR1.out.off⟩, HO1.out, HC1.out, by have := HNI.out; omega, HB5.out⟩
        case measure => have := HLT.out; simp [intOf]; omega
      · have q1 : decide ((5120 : Int) < (nb : Int)) = false := decide_eq_false (by omega)
        have q2 : decide (5120 < nb) = false := decide_eq_false hbig
        have HRS := Lib.hid (hR1.save (l := alB nb i) hO1 (by rw [alB_len]; omega) (by omega))
        obtain ⟨dA, hdA⟩ : ∃ dA, dA = (saveP d st (alB nb i)).1 := ⟨_, rfl⟩
        have HDA := Lib.hid hdA
        have HRA : Hid (Run (100 * i + 1 + 100) dA ⟨1 - st.inn, st.cnt + 1, alB nb i, false⟩ ∧ On dA) := Lib.hid (by rw [hdA]; exact HRS.out.2.2)
        have HHP : Hid (holdsP ⟨1 - st.inn, st.cnt + 1, alB nb i, false⟩ (alB nb i) (n + 1) = true) := Lib.hid (by unfold holdsP; rw [if_neg (by omega)]; simp [hC1])
        clear hS1 hR1 hO1 hC1 hbw hlt hi hnb hnb2 hla hni hbig hdA
        go_wp2_with (first
          | (go_at_call 12; (with_reducible refine (alRound_any (by omega) (by omega)).mono ?_); rintro e wz ⟨rfl, rfl⟩; rw [HNB.out])
          | (go_at_call 11; (with_reducible refine (alBlock_any (by have := HN2.out; omega)).mono ?_); rintro e w2 ⟨q, rfl, hq, hB, hb⟩; have HBQ := Lib.hid hb; have HB2 := Lib.hid (Below.call HBW.out hb); have HRB := Lib.hid (RdB.blk (n := nb) (cap := nb) (l := alB nb i) [] (by rw [List.append_nil]; exact hB) (alB_len _ _) (Nat.le_refl _) (by have := HN2.out; unfold maxLen; omega)); have HS2 := Lib.hid (HS1.out.keep (K' := fun x => atK la x ∨ x = q) hb (fun x hx => by rcases hx with h | h; exact .inl h; exact .inr (by cases h; exact ⟨hq, hB.lt⟩))); clear hB hb hq)
          | (go_at_call 13; go_must (refine (stSave_new HS2.out HRB.out (fun p hp => .inr (by cases hp; rfl)) HPD.out.1 HPD.out.2.1 HPD.out.2.2.1 HPD.out.2.2.2.1 HPD.out.2.2.2.2).mono ?_; rw [HRS.out.1, HRS.out.2.1, ← HDA.out]; rintro e w3 ⟨rfl, hS, hO⟩; have HS3 := Lib.hid hS; have HRB3 := Lib.hid (hO.rd HRB.out (fun p hp => .inr (by cases hp; rfl))); have HLA3 := Lib.hid (hO.rd (HLA.out.below HBQ.out) (fun p hp => .inl ⟨p, hp, rfl⟩)); have HB3 := Lib.hid (HB2.out.trans (hO.below HB2.out.size)); clear hS hO))
          | (go_at_call 18; (with_reducible refine (stRoom_256 _).mono ?_); rintro e wz ⟨rfl, rfl⟩)
          | (go_at_call 15; go_must (refine (stHolds_S (n + 1) _ (by first | rfl | simp) true HHP.out HS3.out HRB3.out).mono ?_; rintro e w5 ⟨rfl, hb⟩; have HS5 := Lib.hid (HS3.out.keep (K' := atK (some ⟨q, 0, none⟩)) hb (fun x hx => by obtain ⟨p, hp, rfl⟩ := hx; cases hp; exact .inl (.inr rfl))); have HRB5 := Lib.hid (HRB3.out.below hb); have HB5 := Lib.hid (HB3.out.trans (hb.mono HB3.out.size)); clear hb)))
        go_roundw
        case rel => exact ⟨i + 1, n + 1, nb, some ⟨q, 0, none⟩, dA, ⟨1 - st.inn, st.cnt + 1, alB nb i, false⟩, HLT.out, by go_num, by go_num, by rw [show (alB nb i).length = nb from alB_len _ _], HS5.out, by show RdB _ _ (alB nb i).length _ _; rw [alB_len]; exact HRB5.out, by have h := HRA.out.1; exact ⟨h.ok, h.gs, h.len, by have := h.ops; omega, h.left, h.off⟩, HRA.out.2, by show st.cnt + 1 = n + 1; rw [HC1.out], by have := HNI.out; omega, HB5.out⟩
        case measure => have := HLT.out; simp [intOf]; omega
    · obtain rfl : i = n1 := by omega
      have HOFF : Hid (st.off = false) := Lib.hid hR1.off
      have hoff := hR1.off
      obtain ⟨dC, hdC⟩ : ∃ dC, dC = d.crash picks := ⟨_, rfl⟩
      have HDC := Lib.hid hdC
      have HGC : Hid (Gs dC st.inn st.cnt sd ∧ dC.good.length ≤ 1000 ∧ dC.ops < 1000000 ∧ dC.left ≤ 9223372036854775807 ∧ dC.flushC = 0) := Lib.hid (by rw [hdC, HSD.out]; exact ⟨hR1.gs.crash _, by rw [Bd.crash_len, hR1.len]; omega, by show (0 : Nat) < 1000000; omega, by show (0 : Int) ≤ 9223372036854775807; omega, (crash_on _ _).flushC⟩)
      have HHO2 : Hid (holdsP ⟨st.inn, st.cnt, sd, false⟩ sd n = true) := Lib.hid (by unfold holdsP; split <;> simp [hC1]; omega)
      have HDP : Hid (0 < d.good.length ∧ d.ops < 1000000) := Lib.hid ⟨by rw [hR1.len]; omega, by have := hR1.ops; omega⟩
      clear hS1 hR1 hO1 hC1 hbw hlt hi hla hni hdC
      go_wp2_with (first
        | (go_at_call 17; go_must (refine (bCrash_fresh HS1.out.dx HDP.out.1 HPD.out.2.1 HDP.out.2 (HQ.out.below HBW.out)).mono ?_; rw [← HDC.out]; rintro e w2 ⟨g2, rfl, hD, hb⟩; have HD2 := Lib.hid hD; have HB2 := Lib.hid hb; clear hD hb))
        | (go_at_call 14; go_must (refine (stOpen_new HD2.out HGC.out.1 HGC.out.2.1 HGC.out.2.2.1 HGC.out.2.2.2.1 HGC.out.2.2.2.2).mono ?_; rintro e w3 ⟨s3, rfl, hS, hO⟩; have HS3 := Lib.hid hS; have HB3 := Lib.hid (HB2.out.trans (hO.below HB2.out.size)); clear hS hO))
        | (go_at_call 15; go_must (refine (stHolds_S n _ rfl true HHO2.out HS3.out (HLA.out.below HB3.out)).mono ?_; rintro e w5 ⟨rfl, hb⟩; have HB5 := Lib.hid (HB3.out.trans (hb.mono HB3.out.size)); clear hb))
        | (go_at_call 18; (with_reducible refine (stRoom_256 _).mono ?_); rintro e wz ⟨rfl, rfl⟩)
        | (go_at_call 19; (with_reducible refine (stDead_S (HS1.out.later HB5.out)).mono ?_); rintro e wz ⟨rfl, rfl⟩)
        | (go_at_call 9; (with_reducible refine (stAwake_any _).mono ?_); rintro e w8 ⟨rfl, hb⟩; have HB8 := Lib.hid (Below.call HB5.out hb); clear hb))
      go_ret
      exact ⟨rfl, Below.call HBW.out HB8.out⟩
set_option maxRecDepth 100000 in
set_option maxHeartbeats 1000000 in
theorem saves_big {n1 cap1 n2 cap2 : Nat} {a1 a2 : Option Addr} (w : World) (h : 30 < n1 ∨ 20 < n2) :
    Calls Try.prog 5 #[.slice a1 n1 cap1, .slice a2 n2 cap2] w fun e w' => e = .returned (.bool true) ∧ Below w.heap.size w w' := by
  by_cases h0 : 30 < n1
  · have d_n1 : decide ((30 : Int) < (n1 : Int)) = true := decide_eq_true (by omega)
    have e_n1 : decide (30 < n1) = true := decide_eq_true (by omega)
    clear h h0
    go_enter Try.func5, Try.ntmps5
    go_wp2_with (go_at_call 9; (with_reducible refine (stAwake_any _).mono ?_); rintro e w1 ⟨rfl, hb⟩)
    go_ret
    exact ⟨rfl, hb⟩
  have d_n1 : decide ((30 : Int) < (n1 : Int)) = false := decide_eq_false (by omega)
  have e_n1 : decide (30 < n1) = false := decide_eq_false (by omega)
  replace h : 20 < n2 := by omega
  clear h0
  have d_n2 : decide ((20 : Int) < (n2 : Int)) = true := decide_eq_true (by omega)
  have e_n2 : decide (20 < n2) = true := decide_eq_true (by omega)
  clear h
  go_enter Try.func5, Try.ntmps5
  go_wp2_with (go_at_call 9; (with_reducible refine (stAwake_any _).mono ?_); rintro e w1 ⟨rfl, hb⟩)
  go_ret
  exact ⟨rfl, hb⟩
theorem storeSaves_any {n1 cap1 n2 cap2 : Nat} {a1 a2 : Option Addr} {l picks : List Int} (w : World) (hp : RdI w a1 n1 cap1 l) (hq : RdI w a2 n2 cap2 picks) :
    Calls Try.prog 5 #[.slice a1 n1 cap1, .slice a2 n2 cap2] w fun e w' => e = .returned (.bool true) ∧ Below w.heap.size w w' := by
  by_cases h : 30 < n1 ∨ 20 < n2
  · exact saves_big w h
  · exact saves_main w hp (by omega) hq (by omega)
namespace storeSavesDone
theorem own : ownKnob Try.prog.godebug = none := by kernel_rfl
theorem laidOut : laidOutB Try.prog = true := by kernel_rfl
set_option maxRecDepth 100000 in
theorem lifted (os : Os) (started : os.Started) (H : Type) (enc : TypeId × Value → H) :
    ReturnsInHanded {} Try.checked os 5 .any (Rows.storeSavesSpec.pre6 enc Try.prog Try.f5 Rows.storeSavesRow.domain false) (Rows.storeSavesSpec.post enc Try.prog Try.f5 false true false false) := by
  refine returnsInHanded_of_change (C := Try.checked) own started (by kernel_rfl) Try.func5
    (ChangeSpec.witness6 (enc := enc) (C := Try.checked) false ⟨#[], #[.slice none 0 0, .slice none 0 0], []⟩ 8 (by kernel_rfl) (by kernel_rfl) (by kernel_rfl) (by kernel_rfl)) ?_
  intro W base args ds gs before hval0 hW hcnd _
  have hval : ∀ (j : Nat) t v, Try.f5.params[j]? = some t → args[j]? = some v → Value.okWide Try.prog W .any base t v := hval0
  have hW' := hW
  obtain ⟨p, q, hA0, hV, rfl, hfz, hnd⟩ := hW
  have hA : DataW.TrodAll enc Try.prog W 0 (fun _ => true) true Try.f5.params.toList args.toList ds p := hA0
  rw [Try.params5] at hA hval
  obtain ⟨v0, vs0, d0, ds0, p0, q0, hargs, rfl, rfl, h0, r0⟩ := trodAll_cons hA
  obtain ⟨v1, vs1, d1, ds1, p1, q1, rfl, rfl, rfl, h1, r1⟩ := trodAll_cons r0
  obtain ⟨rfl, rfl, rfl⟩ := trodAll_nil r1
  obtain rfl : args = #[v0, v1] := by cases args; simp_all
  obtain ⟨rfl, rfl⟩ := trodVars_none hV
  obtain ⟨a0, len0, cap0, rfl⟩ := okWide_slice Try.underlying22 (hval 0 22 v0 rfl rfl)
  have k0 := h0
  have lt0 : ∀ x ∈ p0, x.block < W.heap.size := by obtain ⟨m, hm⟩ := k0; exact DataW.trod_lt m _ _ _ hm
  obtain ⟨l0, w0⟩ : ∃ l, RdI W a0 len0 cap0 l := by
    obtain ⟨fuel, hf⟩ := h0
    rcases open_ints Try.underlying22 Try.underlying3 (by kernel_rfl) hf with ⟨hcs, _⟩ | ⟨x, l, c, zs, hcs, _, hl, hm, hz, _, hcell, hwz⟩
    · simp [Value.cells] at hcs
      obtain ⟨rfl, rfl, rfl⟩ := hcs
      exact ⟨[], RdI.nil _⟩
    · simp [Value.cells] at hcs
      obtain ⟨rfl, rfl, rfl⟩ := hcs
      exact RdI.of_ints (.inr ⟨_, rfl, hl, hm, by simpa using hz, hcell, hwz⟩)
  obtain ⟨a1, len1, cap1, rfl⟩ := okWide_slice Try.underlying22 (hval 1 22 v1 rfl rfl)
  have k1 := h1
  have lt1 : ∀ x ∈ p1, x.block < W.heap.size := by obtain ⟨m, hm⟩ := k1; exact DataW.trod_lt m _ _ _ hm
  obtain ⟨l1, w1⟩ : ∃ l, RdI W a1 len1 cap1 l := by
    obtain ⟨fuel, hf⟩ := h1
    rcases open_ints Try.underlying22 Try.underlying3 (by kernel_rfl) hf with ⟨hcs, _⟩ | ⟨x, l, c, zs, hcs, _, hl, hm, hz, _, hcell, hwz⟩
    · simp [Value.cells] at hcs
      obtain ⟨rfl, rfl, rfl⟩ := hcs
      exact ⟨[], RdI.nil _⟩
    · simp [Value.cells] at hcs
      obtain ⟨rfl, rfl, rfl⟩ := hcs
      exact RdI.of_ints (.inr ⟨_, rfl, hl, hm, by simpa using hz, hcell, hwz⟩)
  clear hA0 hval0
  refine (storeSaves_any W w0 w1).mono fun e W' ⟨he, bel⟩ => ?_
  subst he
  exact ⟨_, rfl, _, _, _, [], _, [], hW', trodAll_mk1 (shut_bool Try.underlying4 _), (trodAll_cons_mk (Below.trod laidOut (by kernel_rfl) (of_decide_eq_true (by kernel_rfl)) k0 bel lt0) (trodAll_cons_mk (Below.trod laidOut (by kernel_rfl) (of_decide_eq_true (by kernel_rfl)) k1 bel lt1) trodAll_mk0)), rfl, bel.frame _, fun h => by cases h⟩
theorem over : Rows.storeSavesRow.holds Try.pinned (OpenSpec.ofChange Rows.storeSavesSpec) :=
  OpenClaim.holds_of_wide 5 Try.f5 rfl rfl rfl rfl rfl rfl rfl ⟨rfl, rfl, rfl, rfl, rfl⟩ rfl rfl rfl rfl rfl (by kernel_rfl) Try.func5 (by kernel_rfl)
    (of_decide_eq_true (by kernel_rfl)) (by unfold Func.isWrapper; first | (rw [if_pos (by decide +kernel)]; kernel_rfl) | (rw [if_neg (by decide +kernel)]; exact ⟨rfl, rfl⟩))
    (fun os started H enc _ => lifted os started H enc)
theorem proved : Rows.StoreSavesSaid := over
#print axioms proved
end storeSavesDone

end Go.Proofs.Ytogjbhkhdccahaa
