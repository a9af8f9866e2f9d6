/- Of chapter 6, XAgree: for every input the law returns true, and each argument reads behind the call as it read before. No condition. -/
import Derived.Test.YtmoggjbnlimepaaXag
import Derived.ProofKit
import Derived.ShutString
import Derived.ChangeOld
namespace Go.Proofs.Ytmoggjbnlimepaa
open Go.ChangeShapes Go.WideShapes Go.ChangeAt Go.RowKit
open Go.ChangeMaps (open_string shut_string)

theorem shared_new {a b : Option Addr} {n cap m cap' c : Nat} {l p q : List UInt8} {w : World} (hc : shC l p = 0) (hb : shB l p = q) (hq : q.length = 32) (hsec : RdB w a n cap l) (hpub : RdB w b m cap' p) (_ : c = 0) :
    Calls Try.prog 10 #[.slice a n cap, .slice b m cap'] w fun e w' => ∃ a' cap'', e = .returned (.tuple #[.slice a' 32 cap'', .int .i64 0]) ∧ RdB w' a' 32 cap'' q ∧ Below w.heap.size w w' := by
  refine (sharedB hsec hpub).mono ?_
  rintro e w' ⟨a', n', cap'', rfl, hR, hbel⟩
  rw [hc]
  rw [hb] at hR
  have hl := hR.hlen
  rw [hq] at hl
  subst hl
  exact ⟨a', cap'', rfl, hR, hbel⟩
set_option maxHeartbeats 2000000 in
theorem xAgree_32 {a b : Option Addr} {capa capb : Nat} {la lb : List UInt8} (w : World) (ha : RdB w a 32 capa la) (hb : RdB w b 32 capb lb) :
    Calls Try.prog 6 #[.slice a 32 capa, .slice b 32 capb] w fun e w' => e = .returned (.bool true) ∧ Below w.heap.size w w' := by
  obtain ⟨p1, p2, p3⟩ := sh_agree (a := la) (b := lb) ha.hlen
  obtain ⟨q1, q2, _⟩ := sh_agree (a := lb) (b := la) hb.hlen
  rw [p3] at q2
  have hS : (xB la (xB lb [9])).length = 32 := xB_len _ _
  have P1 := Lib.hid p1; have P2 := Lib.hid p2; have Q1 := Lib.hid q1; have Q2 := Lib.hid q2
  have HBA := Lib.hid (xB_len la [9]); have HBB := Lib.hid (xB_len lb [9])
  have HCA : Hid (∀ w, ∀ {a : Option Addr} {n cap : Nat}, RdB w a n cap la → Calls Try.prog 17 #[.slice a n cap] w (NewB w (xB la [9]))) := Lib.hid (fun _ _ _ _ h => baseB h)
  have HCB : Hid (∀ w, ∀ {a : Option Addr} {n cap : Nat}, RdB w a n cap lb → Calls Try.prog 17 #[.slice a n cap] w (NewB w (xB lb [9]))) := Lib.hid (fun _ _ _ _ h => baseB h)
  generalize xB la (xB lb [9]) = S at *
  generalize xB lb [9] = B9 at *
  generalize xB la [9] = A9 at *
  have HS := Lib.hid hS
  clear p1 p2 p3 q1 q2 hS
  go_enter Try.func6, Try.ntmps6
  go_upto_region 4 with (first | (go_at_call 17; ((refine (HCB.out _ hb).mono ?_); rintro e w1 ⟨g1, n1, c1, r1, rfl, hg1, hB1, hl1, hc1, hm1, hbel1⟩; have hR1 := RdB.blk r1 hB1 hl1 hc1 hm1))     | (go_at_call 10; ((refine (shared_new (c := 0) P1.out P2.out HS.out (ha.below hbel1) hR1 rfl).mono ?_); rintro e w2 ⟨a2, c2, rfl, hR2, hb2⟩; have hbel2 := Below.call hbel1 hb2; have HR2 := Lib.hid hR2; clear hR2 hb2 hR1 hB1)))
  go_upto_region 5 with (first | (go_at_call 17; ((refine (HCA.out _ (ha.below hbel2)).mono ?_); rintro e w3 ⟨g3, n3, c3, r3, rfl, hg3, hB3, hl3, hc3, hm3, hb3⟩; have hR3 := RdB.blk r3 hB3 hl3 hc3 hm3; have hbel3 := Below.call hbel2 hb3; have HR3 := Lib.hid (HR2.out.below hb3); clear hb3))     | (go_at_call 10; ((refine (shared_new (c := 0) Q1.out Q2.out HS.out (hb.below hbel3) hR3 rfl).mono ?_); rintro e w4 ⟨a4, c4, rfl, hR4, hb4⟩; have hbel4 := Below.call hbel3 hb4; have hR5 := HR3.out.below hb4; clear hb4 hR3 hB3)))
  have hv1 := conv_any hR5
  have hv2 := conv_any hR4
  have hq : ((bs S).toList == (bs S).toList) = true := by simp
  clear hR5 hR4
  generalize bs S = s at *
  go_wp2_with (go_at_call 9; (with_reducible refine (law6awake_any _).mono ?_); rintro e w5 ⟨rfl, h5⟩)
  go_ret
  exact ⟨rfl, Below.call hbel4 h5⟩
theorem xAgree_any {a b : Option Addr} {n m capa capb : Nat} {la lb : List UInt8} (w : World) (ha : RdB w a n capa la) (hb : RdB w b m capb lb) :
    Calls Try.prog 6 #[.slice a n capa, .slice b m capb] w fun e w' => e = .returned (.bool true) ∧ Below w.heap.size w w' := by
  by_cases hn : n = 32
  · by_cases hm : m = 32
    · subst hn hm
      exact xAgree_32 w ha hb
    · subst hn
      have d1 : ((m : Int) != 32) = true := by simp; omega
      have d2 : ((m : Int) == 32) = false := by simp; omega
      clear hm ha hb
      go_enter Try.func6, Try.ntmps6
      go_wp2_with (go_at_call 9; (with_reducible refine (law6awake_any _).mono ?_); rintro e w2 ⟨rfl, h2⟩)
      go_ret
      exact ⟨rfl, h2⟩
  · have d1 : ((n : Int) != 32) = true := by simp; omega
    have d2 : ((n : Int) == 32) = false := by simp; omega
    clear hn ha hb
    go_enter Try.func6, Try.ntmps6
    go_wp2_with (go_at_call 9; (with_reducible refine (law6awake_any _).mono ?_); rintro e w2 ⟨rfl, h2⟩)
    go_ret
    exact ⟨rfl, h2⟩
namespace xAgreeDone
theorem own : ownKnob Try.prog.godebug = none := by kernel_rfl
theorem laidOut : laidOutB Try.prog = true := by kernel_rfl
set_option maxRecDepth 100000 in
theorem lifted (os : Os) (started : os.Started) (H : Type) (enc : TypeId × Value → H) :
    ReturnsInHanded {} Try.checked os 6 .any (Rows.xAgreeSpec.pre6 enc Try.prog Try.f6 Rows.xAgreeRow.domain false) (Rows.xAgreeSpec.post enc Try.prog Try.f6 false true false false) := by
  refine returnsInHanded_of_change (C := Try.checked) own started (by kernel_rfl) Try.func6
    (ChangeSpec.witness6 (enc := enc) (C := Try.checked) false ⟨#[], #[.slice none 0 0, .slice none 0 0], []⟩ 8 (by kernel_rfl) (by kernel_rfl) (by kernel_rfl) (by kernel_rfl)) ?_
  intro W base args ds gs before hval0 hW hcnd _
  have hval : ∀ (j : Nat) t v, Try.f6.params[j]? = some t → args[j]? = some v → Value.okWide Try.prog W .any base t v := hval0
  have hW' := hW
  obtain ⟨p, q, hA0, hV, rfl, hfz, hnd⟩ := hW
  have hA : DataW.TrodAll enc Try.prog W 0 (fun _ => true) true Try.f6.params.toList args.toList ds p := hA0
  rw [Try.params6] at hA hval
  obtain ⟨v0, vs0, d0, ds0, p0, q0, hargs, rfl, rfl, h0, r0⟩ := trodAll_cons hA
  obtain ⟨v1, vs1, d1, ds1, p1, q1, rfl, rfl, rfl, h1, r1⟩ := trodAll_cons r0
  obtain ⟨rfl, rfl, rfl⟩ := trodAll_nil r1
  obtain rfl : args = #[v0, v1] := by cases args; simp_all
  obtain ⟨rfl, rfl⟩ := trodVars_none hV
  obtain ⟨a0, len0, cap0, rfl⟩ := okWide_slice Try.underlying22 (hval 0 22 v0 rfl rfl)
  have k0 := h0
  have lt0 : ∀ x ∈ p0, x.block < W.heap.size := by obtain ⟨m, hm⟩ := k0; exact DataW.trod_lt m _ _ _ hm
  obtain ⟨l0, w0⟩ : ∃ l, RdB W a0 len0 cap0 l := by
    obtain ⟨fuel, hf⟩ := h0
    rcases open_ints Try.underlying22 Try.underlying5 (by kernel_rfl) hf with ⟨hcs, _⟩ | ⟨x, l, c, zs, hcs, _, hl, hm, hz, _, hcell, hwz⟩
    · simp [Value.cells] at hcs
      obtain ⟨rfl, rfl, rfl⟩ := hcs
      exact ⟨[], RdB.nil _⟩
    · simp [Value.cells] at hcs
      obtain ⟨rfl, rfl, rfl⟩ := hcs
      exact RdB.of_ints (.inr ⟨_, rfl, hl, hm, by simpa using hz, hcell, hwz⟩)
  obtain ⟨a1, len1, cap1, rfl⟩ := okWide_slice Try.underlying22 (hval 1 22 v1 rfl rfl)
  have k1 := h1
  have lt1 : ∀ x ∈ p1, x.block < W.heap.size := by obtain ⟨m, hm⟩ := k1; exact DataW.trod_lt m _ _ _ hm
  obtain ⟨l1, w1⟩ : ∃ l, RdB W a1 len1 cap1 l := by
    obtain ⟨fuel, hf⟩ := h1
    rcases open_ints Try.underlying22 Try.underlying5 (by kernel_rfl) hf with ⟨hcs, _⟩ | ⟨x, l, c, zs, hcs, _, hl, hm, hz, _, hcell, hwz⟩
    · simp [Value.cells] at hcs
      obtain ⟨rfl, rfl, rfl⟩ := hcs
      exact ⟨[], RdB.nil _⟩
    · simp [Value.cells] at hcs
      obtain ⟨rfl, rfl, rfl⟩ := hcs
      exact RdB.of_ints (.inr ⟨_, rfl, hl, hm, by simpa using hz, hcell, hwz⟩)
  clear hA0 hval0
  refine (xAgree_any W w0 w1).mono fun e W' ⟨he, bel⟩ => ?_
  subst he
  exact ⟨_, rfl, _, _, _, [], _, [], hW', trodAll_mk1 (shut_bool Try.underlying4 _), (trodAll_cons_mk (Below.trod laidOut (by kernel_rfl) (of_decide_eq_true (by kernel_rfl)) k0 bel lt0) (trodAll_cons_mk (Below.trod laidOut (by kernel_rfl) (of_decide_eq_true (by kernel_rfl)) k1 bel lt1) trodAll_mk0)), rfl, bel.frame _, fun h => by cases h⟩
theorem over : Rows.xAgreeRow.holds Try.pinned (OpenSpec.ofChange Rows.xAgreeSpec) :=
  OpenClaim.holds_of_wide 6 Try.f6 rfl rfl rfl rfl rfl rfl rfl ⟨rfl, rfl, rfl, rfl, rfl⟩ rfl rfl rfl rfl rfl (by kernel_rfl) Try.func6 (by kernel_rfl)
    (of_decide_eq_true (by kernel_rfl)) (by unfold Func.isWrapper; first | (rw [if_pos (by decide +kernel)]; kernel_rfl) | (rw [if_neg (by decide +kernel)]; exact ⟨rfl, rfl⟩))
    (fun os started H enc _ => lifted os started H enc)
theorem proved : Rows.XAgreeSaid := over
#print axioms proved
end xAgreeDone

end Go.Proofs.Ytmoggjbnlimepaa
