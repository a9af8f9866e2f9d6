/- Of chapter 6, XShares: for every input the law returns true, and each argument reads behind the call as it read before. No condition. -/
import Derived.Test.YtmoggjbnlimepaaXaw
import Derived.ProofKit
import Derived.ShutString
import Derived.ChangeOld
namespace Go.Proofs.Ytmoggjbnlimepaa
open Go Go.ChangeShapes Go.WideShapes Go.ChangeAt Go.RowKit
open Go.ChangeMaps (open_string shut_string)

set_option maxHeartbeats 4000000 in
theorem xShares_few {a b : Option Addr} {n m capa capb : Nat} {la lb : List UInt8} (w : World) (ha : RdB w a n capa la) (hb' : RdB w b m capb lb) (hn : n ≤ 100) (hm : m ≤ 100) :
    Calls Try.prog 3 #[.slice a n capa, .slice b m capb] w fun e w' => e = .returned (.bool true) ∧ Below w.heap.size w w' := by
  have d1 : decide ((100 : Int) < (n : Int)) = false := by simp; omega
  have d2 : decide ((100 : Int) < (m : Int)) = false := by simp; omega
  clear hn hm
  go_enter Try.func3, Try.ntmps3
  go_upto_region 4 with (go_at_call 10; (refine (sharedB ha hb').mono ?_; rintro e w1 ⟨a1, n1, c1, rfl, hR1, hbel1⟩))
  go_upto_region 5 with (go_at_call 11; (refine (rsharedB (ha.below hbel1) (hb'.below hbel1)).mono ?_; rintro e w2 ⟨a2, n2, c2, rfl, hR2, hb2⟩; have hS1 := hR1.below hb2; have hbel2 := Below.call hbel1 hb2; clear hb2 hR1))
  have hv1 := conv_any hS1
  have hv2 := conv_any hR2
  have hq : ((bs (shB la lb)).toList == (bs (shB la lb)).toList) = true := by simp
  have hq2 : ((shC la lb) == (shC la lb)) = true := by simp
  clear hS1 hR2 hbel1
  generalize shC la lb = c at *
  generalize bs (shB la lb) = s at *
  go_wp2_with (go_at_call 9; (with_reducible refine (law6awake_any _).mono ?_); rintro e w3 ⟨rfl, h3⟩)
  go_ret
  exact ⟨rfl, Below.call hbel2 h3⟩
theorem xShares_any {a b : Option Addr} {n m capa capb : Nat} {la lb : List UInt8} (w : World) (ha : RdB w a n capa la) (hb : RdB w b m capb lb) :
    Calls Try.prog 3 #[.slice a n capa, .slice b m capb] w fun e w' => e = .returned (.bool true) ∧ Below w.heap.size w w' := by
  by_cases hn : n ≤ 100
  · by_cases hm : m ≤ 100
    · exact xShares_few w ha hb hn hm
    · have d1 : decide ((100 : Int) < (n : Int)) = false := by simp; omega
      have d2 : decide ((100 : Int) < (m : Int)) = true := by simp; omega
      clear hn hm
      go_enter Try.func3, Try.ntmps3
      go_wp2_with (go_at_call 9; (with_reducible refine (law6awake_any _).mono ?_); rintro e w2 ⟨rfl, h2⟩)
      go_ret
      exact ⟨rfl, h2⟩
  · have d1 : decide ((100 : Int) < (n : Int)) = true := by simp; omega
    clear hn
    go_enter Try.func3, Try.ntmps3
    go_wp2_with (go_at_call 9; (with_reducible refine (law6awake_any _).mono ?_); rintro e w2 ⟨rfl, h2⟩)
    go_ret
    exact ⟨rfl, h2⟩
namespace xSharesDone
theorem own : ownKnob Try.prog.godebug = none := by kernel_rfl
theorem laidOut : laidOutB Try.prog = true := by kernel_rfl
set_option maxRecDepth 100000 in
theorem lifted (os : Os) (started : os.Started) (H : Type) (enc : TypeId × Value → H) :
    ReturnsInHanded {} Try.checked os 3 .any (Rows.xSharesSpec.pre6 enc Try.prog Try.f3 Rows.xSharesRow.domain false) (Rows.xSharesSpec.post enc Try.prog Try.f3 false true false false) := by
  refine returnsInHanded_of_change (C := Try.checked) own started (by kernel_rfl) Try.func3
    (ChangeSpec.witness6 (enc := enc) (C := Try.checked) false ⟨#[], #[.slice none 0 0, .slice none 0 0], []⟩ 8 (by kernel_rfl) (by kernel_rfl) (by kernel_rfl) (by kernel_rfl)) ?_
  intro W base args ds gs before hval0 hW hcnd _
  have hval : ∀ (j : Nat) t v, Try.f3.params[j]? = some t → args[j]? = some v → Value.okWide Try.prog W .any base t v := hval0
  have hW' := hW
  obtain ⟨p, q, hA0, hV, rfl, hfz, hnd⟩ := hW
  have hA : DataW.TrodAll enc Try.prog W 0 (fun _ => true) true Try.f3.params.toList args.toList ds p := hA0
  rw [Try.params3] at hA hval
  obtain ⟨v0, vs0, d0, ds0, p0, q0, hargs, rfl, rfl, h0, r0⟩ := trodAll_cons hA
  obtain ⟨v1, vs1, d1, ds1, p1, q1, rfl, rfl, rfl, h1, r1⟩ := trodAll_cons r0
  obtain ⟨rfl, rfl, rfl⟩ := trodAll_nil r1
  obtain rfl : args = #[v0, v1] := by cases args; simp_all
  obtain ⟨rfl, rfl⟩ := trodVars_none hV
  obtain ⟨a0, len0, cap0, rfl⟩ := okWide_slice Try.underlying22 (hval 0 22 v0 rfl rfl)
  have k0 := h0
  have lt0 : ∀ x ∈ p0, x.block < W.heap.size := by obtain ⟨m, hm⟩ := k0; exact DataW.trod_lt m _ _ _ hm
  obtain ⟨l0, w0⟩ : ∃ l, RdB W a0 len0 cap0 l := by
    obtain ⟨fuel, hf⟩ := h0
    rcases open_ints Try.underlying22 Try.underlying5 (by kernel_rfl) hf with ⟨hcs, _⟩ | ⟨x, l, c, zs, hcs, _, hl, hm, hz, _, hcell, hwz⟩
    · simp [Value.cells] at hcs
      obtain ⟨rfl, rfl, rfl⟩ := hcs
      exact ⟨[], RdB.nil _⟩
    · simp [Value.cells] at hcs
      obtain ⟨rfl, rfl, rfl⟩ := hcs
      exact RdB.of_ints (.inr ⟨_, rfl, hl, hm, by simpa using hz, hcell, hwz⟩)
  obtain ⟨a1, len1, cap1, rfl⟩ := okWide_slice Try.underlying22 (hval 1 22 v1 rfl rfl)
  have k1 := h1
  have lt1 : ∀ x ∈ p1, x.block < W.heap.size := by obtain ⟨m, hm⟩ := k1; exact DataW.trod_lt m _ _ _ hm
  obtain ⟨l1, w1⟩ : ∃ l, RdB W a1 len1 cap1 l := by
    obtain ⟨fuel, hf⟩ := h1
    rcases open_ints Try.underlying22 Try.underlying5 (by kernel_rfl) hf with ⟨hcs, _⟩ | ⟨x, l, c, zs, hcs, _, hl, hm, hz, _, hcell, hwz⟩
    · simp [Value.cells] at hcs
      obtain ⟨rfl, rfl, rfl⟩ := hcs
      exact ⟨[], RdB.nil _⟩
    · simp [Value.cells] at hcs
      obtain ⟨rfl, rfl, rfl⟩ := hcs
      exact RdB.of_ints (.inr ⟨_, rfl, hl, hm, by simpa using hz, hcell, hwz⟩)
  clear hA0 hval0
  refine (xShares_any W w0 w1).mono fun e W' ⟨he, bel⟩ => ?_
  subst he
  exact ⟨_, rfl, _, _, _, [], _, [], hW', trodAll_mk1 (shut_bool Try.underlying4 _), (trodAll_cons_mk (Below.trod laidOut (by kernel_rfl) (of_decide_eq_true (by kernel_rfl)) k0 bel lt0) (trodAll_cons_mk (Below.trod laidOut (by kernel_rfl) (of_decide_eq_true (by kernel_rfl)) k1 bel lt1) trodAll_mk0)), rfl, bel.frame _, fun h => by cases h⟩
theorem over : Rows.xSharesRow.holds Try.pinned (OpenSpec.ofChange Rows.xSharesSpec) :=
  OpenClaim.holds_of_wide 3 Try.f3 rfl rfl rfl rfl rfl rfl rfl ⟨rfl, rfl, rfl, rfl, rfl⟩ rfl rfl rfl rfl rfl (by kernel_rfl) Try.func3 (by kernel_rfl)
    (of_decide_eq_true (by kernel_rfl)) (by unfold Func.isWrapper; first | (rw [if_pos (by decide +kernel)]; kernel_rfl) | (rw [if_neg (by decide +kernel)]; exact ⟨rfl, rfl⟩))
    (fun os started H enc _ => lifted os started H enc)
theorem proved : Rows.XSharesSaid := over
#print axioms proved
end xSharesDone

end Go.Proofs.Ytmoggjbnlimepaa
