/- Of chapter 16, StoreReopens: for every input the law returns true, and each argument reads behind the call as it read before. No condition. -/
import Derived.Test.YtogjbhkhdccahaaZSOB
import Derived.ProofKit
import Derived.ShutString
import Derived.ChangeOld
namespace Go.Proofs.Ytogjbhkhdccahaa
open Go Go.ChangeShapes Go.WideShapes Go.ChangeAt Go.RowKit Go.Maps

set_option maxRecDepth 100000 in
set_option maxHeartbeats 4000000 in
theorem reopens_main {n1 cap1 : Nat} {a1 : Option Addr} {l : List Int} (w : World) (hp : RdI w a1 n1 cap1 l) (h15 : n1 ≤ 15) :
    Calls Try.prog 3 #[.slice a1 n1 cap1] w fun e w' => e = .returned (.bool true) ∧ Below w.heap.size w w' := by
  have HP := Lib.hid hp; have H15 := Lib.hid h15; have HR0 := Lib.hid run0
  have d_n1 : decide ((15 : Int) < (n1 : Int)) = false := decide_eq_false (by omega)
  have e_n1 : decide (15 < n1) = false := decide_eq_false (by omega)
  have hn63 : (n1 : Int) ≤ 15 := by omega
  clear hp h15
  go_enter Try.func3, Try.ntmps3
  go_wp2_with (go_at_call 10; (with_reducible refine (stFresh_any _).mono ?_); rintro e w1 ⟨g, s, rfl, hS, hb⟩; have HS := Lib.hid hS; have HB := Lib.hid hb; clear hS hb)
  clear d_n1 e_n1
  go_loopw [4, 6] (fun sv iv wr => ∃ (i s1 : Nat) (d : Bd) (st : Bs), i ≤ n1 ∧ iv = .int .i64 i ∧ sv = .pointer (some ⟨s1, 0, none⟩) ∧ SxN w.heap.size noK wr g s1 d st ∧ Run (200 * i + 1) d st ∧ On d ∧ st.cnt = i ∧ Below w.heap.size w wr) (fun _ iv _ => n1 - (intOf iv).toNat)
  case atStart => exact ⟨0, s, d0, st0, Nat.zero_le _, rfl, rfl, HS.out, HR0.out.1, HR0.out.2, rfl, HB.out⟩
  case round =>
    obtain ⟨i, s1, d, st, hi, rfl, rfl, hS1, hR1, hO1, hC1, hbw⟩ := hrel
    have HS1 := Lib.hid hS1; have HR1 := Lib.hid hR1; have HO1 := Lib.hid hO1; have HC1 := Lib.hid hC1; have HBW := Lib.hid hbw
    have hi8 : (i : Int) ≤ 15 := by omega
    have hi0 : (0 : Int) ≤ (i : Int) := by omega
    have hiw : IntKind.i64.wrap ((i : Int) + 1) = ((i + 1 : Nat) : Int) := by rw [IntKind.wrap_i64]; omega
    by_cases hlt : i < n1
    · have hi1 : (i : Int) < (n1 : Int) := by omega
      obtain ⟨b, o, rfl, hc⟩ := (HP.out.below hbw).get i (by rw [HP.out.hlen]; exact hlt)
      generalize l[i]'(by rw [HP.out.hlen]; exact hlt) = zi at hc
      obtain ⟨nb, hnb⟩ : ∃ nb : Nat, zi % 2000 = (nb : Int) := ⟨_, (Int.toNat_of_nonneg (Int.emod_nonneg _ (by omega))).symm⟩
      have HNB := Lib.hid hnb
      have hnb2 : nb < 2000 := by have := Int.emod_lt_of_pos zi (show (0 : Int) < 2000 by omega); omega
      have HN2 := Lib.hid hnb2
      have HRS := Lib.hid (hR1.save (l := alB nb i) hO1 (by rw [alB_len]; omega) (by omega))
      obtain ⟨dA, hdA⟩ : ∃ dA, dA = (saveP d st (alB nb i)).1 := ⟨_, rfl⟩
      have HDA := Lib.hid hdA
      have HRA : Hid (Run (200 * i + 1 + 100) dA ⟨1 - st.inn, st.cnt + 1, alB nb i, false⟩ ∧ On dA) := Lib.hid (by rw [hdA]; exact HRS.out.2.2)
      have HPD : Hid (64 ≤ d.good.length ∧ d.good.length ≤ 1000 ∧ d.ops + 1000 < 1000000 ∧ d.left ≤ 9223372036854775807 ∧ st.cnt + 1 < 1000000) := Lib.hid ⟨by rw [hR1.len]; omega, by rw [hR1.len]; omega, by have := hR1.ops; omega, hR1.left, by omega⟩
      have HPA : Hid (dA.good.length ≤ 1000 ∧ dA.ops < 1000000 ∧ dA.left ≤ 9223372036854775807 ∧ dA.flushC = 0) := Lib.hid ⟨by rw [HRA.out.1.len]; omega, by have := HRA.out.1.ops; omega, HRA.out.1.left, HRA.out.2.flushC⟩
      have HHP : Hid (holdsP ⟨1 - st.inn, st.cnt + 1, alB nb i, false⟩ (alB nb i) (i + 1) = true) := Lib.hid (by unfold holdsP; rw [if_neg (by omega)]; simp [hC1])
      have HLT := Lib.hid hlt
      clear hS1 hR1 hO1 hC1 hbw hlt hi hnb hnb2 hdA
      go_wp2_with (first
        | (go_at_call 12; (with_reducible refine (alRound_any (by omega) (by omega)).mono ?_); rintro e wz ⟨rfl, rfl⟩; rw [HNB.out])
        | (go_at_call 11; (with_reducible refine (alBlock_any (by have := HN2.out; omega)).mono ?_); rintro e w2 ⟨q, rfl, hq, hB, hb⟩; have HB2 := Lib.hid (Below.call HBW.out hb); have HRB := Lib.hid (RdB.blk (n := nb) (cap := nb) (l := alB nb i) [] (by rw [List.append_nil]; exact hB) (alB_len _ _) (Nat.le_refl _) (by have := HN2.out; unfold maxLen; omega)); have HS2 := Lib.hid (HS1.out.keep (K' := onlyK q) hb (fun x hx => .inr (by cases hx; exact ⟨hq, hB.lt⟩))); clear hB hb hq)
        | (go_at_call 13; go_must (refine (stSave_new HS2.out HRB.out (fun p hp => by cases hp; rfl) HPD.out.1 HPD.out.2.1 HPD.out.2.2.1 HPD.out.2.2.2.1 HPD.out.2.2.2.2).mono ?_; rw [HRS.out.1, HRS.out.2.1, ← HDA.out]; rintro e w3 ⟨rfl, hS, hO⟩; have HS3 := Lib.hid hS; have HRB3 := Lib.hid (hO.rd HRB.out (fun p hp => by cases hp; rfl)); have HB3 := Lib.hid (HB2.out.trans (hO.below HB2.out.size)); clear hS hO))
        | (go_at_call 14; go_must (refine (stOpen_new HS3.out.dx HRA.out.1.gs HPA.out.1 HPA.out.2.1 HPA.out.2.2.1 HPA.out.2.2.2).mono ?_; rintro e w4 ⟨s4, rfl, hS, hO⟩; have HS4 := Lib.hid hS; have HRB4 := Lib.hid (hO.rd HRB3.out (fun p hp => by cases hp; rfl)); have HB4 := Lib.hid (HB3.out.trans (hO.below HB3.out.size)); clear hS hO))
        | (go_at_call 15; go_must (refine (stHolds_S (i + 1) _ (by first | rfl | simp) true HHP.out HS4.out HRB4.out).mono ?_; rintro e w5 ⟨rfl, hb⟩; have HS5 := Lib.hid (HS4.out.keep (K' := noK) hb (fun x hx => hx.elim)); have HB5 := Lib.hid (HB4.out.trans (hb.mono HB4.out.size)); clear hb)))
      go_roundw
      case rel => exact ⟨i + 1, s4, dA.flush, ⟨1 - st.inn, st.cnt + 1, alB nb i, false⟩, HLT.out, by go_num, rfl, HS5.out, by have h := Run.open HRA.out.1.ok HRA.out.1.gs HRA.out.1.len HRA.out.1.ops HRA.out.1.left; exact ⟨h.ok, h.gs, h.len, by have := h.ops; omega, h.left, h.off⟩, HRA.out.2.flush, by show st.cnt + 1 = i + 1; rw [HC1.out], HB5.out⟩
      case measure => have := HLT.out; simp [intOf]; omega
    · obtain rfl : i = n1 := by omega
      clear hS1 hR1 hO1 hC1 hbw hlt hi
      go_wp2_with (go_at_call 9; (with_reducible refine (stAwake_any _).mono ?_); rintro e w8 ⟨rfl, hb⟩; have HB8 := Lib.hid (Below.call HBW.out hb); clear hb)
      go_ret
      exact ⟨rfl, HB8.out⟩
set_option maxRecDepth 100000 in
set_option maxHeartbeats 1000000 in
theorem reopens_big {n1 cap1 : Nat} {a1 : Option Addr} (w : World) (h : 15 < n1) :
    Calls Try.prog 3 #[.slice a1 n1 cap1] w fun e w' => e = .returned (.bool true) ∧ Below w.heap.size w w' := by
  have d_n1 : decide ((15 : Int) < (n1 : Int)) = true := decide_eq_true (by omega)
  have e_n1 : decide (15 < n1) = true := decide_eq_true (by omega)
  clear h
  go_enter Try.func3, Try.ntmps3
  go_wp2_with (go_at_call 9; (with_reducible refine (stAwake_any _).mono ?_); rintro e w1 ⟨rfl, hb⟩)
  go_ret
  exact ⟨rfl, hb⟩
theorem storeReopens_any {n1 cap1 : Nat} {a1 : Option Addr} {l : List Int} (w : World) (hp : RdI w a1 n1 cap1 l) :
    Calls Try.prog 3 #[.slice a1 n1 cap1] w fun e w' => e = .returned (.bool true) ∧ Below w.heap.size w w' := by
  by_cases h : 15 < n1
  · exact reopens_big w h
  · exact reopens_main w hp (by omega)
namespace storeReopensDone
theorem own : ownKnob Try.prog.godebug = none := by kernel_rfl
theorem laidOut : laidOutB Try.prog = true := by kernel_rfl
set_option maxRecDepth 100000 in
theorem lifted (os : Os) (started : os.Started) (H : Type) (enc : TypeId × Value → H) :
    ReturnsInHanded {} Try.checked os 3 .any (Rows.storeReopensSpec.pre6 enc Try.prog Try.f3 Rows.storeReopensRow.domain false) (Rows.storeReopensSpec.post enc Try.prog Try.f3 false true false false) := by
  refine returnsInHanded_of_change (C := Try.checked) own started (by kernel_rfl) Try.func3
    (ChangeSpec.witness6 (enc := enc) (C := Try.checked) false ⟨#[], #[.slice none 0 0], []⟩ 8 (by kernel_rfl) (by kernel_rfl) (by kernel_rfl) (by kernel_rfl)) ?_
  intro W base args ds gs before hval0 hW hcnd _
  have hval : ∀ (j : Nat) t v, Try.f3.params[j]? = some t → args[j]? = some v → Value.okWide Try.prog W .any base t v := hval0
  have hW' := hW
  obtain ⟨p, q, hA0, hV, rfl, hfz, hnd⟩ := hW
  have hA : DataW.TrodAll enc Try.prog W 0 (fun _ => true) true Try.f3.params.toList args.toList ds p := hA0
  rw [Try.params3] at hA hval
  obtain ⟨v0, vs0, d0, ds0, p0, q0, hargs, rfl, rfl, h0, r0⟩ := trodAll_cons hA
  obtain ⟨rfl, rfl, rfl⟩ := trodAll_nil r0
  obtain rfl : args = #[v0] := by cases args; simp_all
  obtain ⟨rfl, rfl⟩ := trodVars_none hV
  obtain ⟨a0, len0, cap0, rfl⟩ := okWide_slice Try.underlying22 (hval 0 22 v0 rfl rfl)
  have k0 := h0
  have lt0 : ∀ x ∈ p0, x.block < W.heap.size := by obtain ⟨m, hm⟩ := k0; exact DataW.trod_lt m _ _ _ hm
  obtain ⟨l0, w0⟩ : ∃ l, RdI W a0 len0 cap0 l := by
    obtain ⟨fuel, hf⟩ := h0
    rcases open_ints Try.underlying22 Try.underlying3 (by kernel_rfl) hf with ⟨hcs, _⟩ | ⟨x, l, c, zs, hcs, _, hl, hm, hz, _, hcell, hwz⟩
    · simp [Value.cells] at hcs
      obtain ⟨rfl, rfl, rfl⟩ := hcs
      exact ⟨[], RdI.nil _⟩
    · simp [Value.cells] at hcs
      obtain ⟨rfl, rfl, rfl⟩ := hcs
      exact RdI.of_ints (.inr ⟨_, rfl, hl, hm, by simpa using hz, hcell, hwz⟩)
  clear hA0 hval0
  refine (storeReopens_any W w0).mono fun e W' ⟨he, bel⟩ => ?_
  subst he
  exact ⟨_, rfl, _, _, _, [], _, [], hW', trodAll_mk1 (shut_bool Try.underlying4 _), (trodAll_cons_mk (Below.trod laidOut (by kernel_rfl) (of_decide_eq_true (by kernel_rfl)) k0 bel lt0) trodAll_mk0), rfl, bel.frame _, fun h => by cases h⟩
theorem over : Rows.storeReopensRow.holds Try.pinned (OpenSpec.ofChange Rows.storeReopensSpec) :=
  OpenClaim.holds_of_wide 3 Try.f3 rfl rfl rfl rfl rfl rfl rfl ⟨rfl, rfl, rfl, rfl, rfl⟩ rfl rfl rfl rfl rfl (by kernel_rfl) Try.func3 (by kernel_rfl)
    (of_decide_eq_true (by kernel_rfl)) (by unfold Func.isWrapper; first | (rw [if_pos (by decide +kernel)]; kernel_rfl) | (rw [if_neg (by decide +kernel)]; exact ⟨rfl, rfl⟩))
    (fun os started H enc _ => lifted os started H enc)
theorem proved : Rows.StoreReopensSaid := over
#print axioms proved
end storeReopensDone

end Go.Proofs.Ytogjbhkhdccahaa
