/- Of chapter 6, XMults: for every input the law returns true, and each argument reads behind the call as it read before. No condition. -/
import Derived.Test.YtmoggjbnlimepaaXaw
import Derived.ProofKit
import Derived.ShutString
import Derived.ChangeOld
namespace Go.Proofs.Ytmoggjbnlimepaa
open Go Go.ChangeShapes Go.WideShapes Go.ChangeAt Go.RowKit
open Go.ChangeMaps (open_string shut_string)

set_option maxHeartbeats 4000000 in
theorem xMults_few {a b : Option Addr} {n m capa capb : Nat} {la lb : List UInt8} (w : World) (ha : RdB w a n capa la) (hb' : RdB w b m capb lb) (hn : n ≤ 100) (hm : m ≤ 100) :
    Calls Try.prog 5 #[.slice a n capa, .slice b m capb] w fun e w' => e = .returned (.bool true) ∧ Below w.heap.size w w' := by
  have d1 : decide ((100 : Int) < (n : Int)) = false := by simp; omega
  have d2 : decide ((100 : Int) < (m : Int)) = false := by simp; omega
  clear hn hm
  go_enter Try.func5, Try.ntmps5
  have hbel : Below w.heap.size w w := Below.refl _ _
  have hbel0 := hbel
  go_upto_region 3 with fail
  clear d1 d2
  refine wp_region_mid (fun u => #[.slice a n capa, .slice b m capb, undef, undef, u 30, .slice a n capa, .int .i64 (n : Nat), .bool false, .bool false, .slice b m capb, .int .i64 (m : Nat), .bool false, .bool false, undef, u 0, u 1, u 2, u 3, u 4, u 5, u 6, u 7, u 8, u 9, u 10, u 11, u 12, u 13, u 14, u 15, u 16, u 17, u 18, u 19, u 20, u 21, u 22, u 23, u 24, u 25, u 26, u 27, u 28, u 29]) (Holds [.oth (fun v => v = .slice a n capa), .rd (clampB la), .oth (fun v => v = (.string (bs (clampB la)))), .oth (fun v => v = .slice a n capa), .rd (clampB la), .oth (fun v => v = (.string (bs (clampB la)))), .oth (fun v => v = .bool true), .oth (fun v => v = .bool true), .oth (fun v => v = .slice a n capa), .oth (fun v => v = .slice b m capb), .rd (xB la lb), .oth (fun v => v = (.string (bs (xB la lb)))), .oth (fun v => v = .slice a n capa), .oth (fun v => v = .slice b m capb), .rd (xB la lb), .oth (fun v => v = (.string (bs (xB la lb)))), .oth (fun v => v = .bool true), .oth (fun v => v = .bool true), .oth (fun v => v = .bool true), .oth (fun v => v = .slice a n capa), .rd (xB la [9]), .oth (fun v => v = (.string (bs (xB la [9])))), .oth (fun v => v = .slice a n capa), .rd (xB la [9]), .oth (fun v => v = (.string (bs (xB la [9])))), .oth (fun v => v = .bool true), .oth (fun v => v = .bool true), .oth (fun v => v = .bool true), .oth (fun v => v = .bool true), .oth (fun v => v = .bool true), .oth (fun v => v = .bool true)] w) (Keep [.oth (fun v => v = .slice a n capa), .rd (clampB la), .oth (fun v => v = (.string (bs (clampB la)))), .oth (fun v => v = .slice a n capa), .rd (clampB la), .oth (fun v => v = (.string (bs (clampB la)))), .oth (fun v => v = .bool true), .oth (fun v => v = .bool true), .oth (fun v => v = .slice a n capa), .oth (fun v => v = .slice b m capb), .rd (xB la lb), .oth (fun v => v = (.string (bs (xB la lb)))), .oth (fun v => v = .slice a n capa), .oth (fun v => v = .slice b m capb), .rd (xB la lb), .oth (fun v => v = (.string (bs (xB la lb)))), .oth (fun v => v = .bool true), .oth (fun v => v = .bool true), .oth (fun v => v = .bool true), .oth (fun v => v = .slice a n capa), .rd (xB la [9]), .oth (fun v => v = (.string (bs (xB la [9])))), .oth (fun v => v = .slice a n capa), .rd (xB la [9]), .oth (fun v => v = (.string (bs (xB la [9])))), .oth (fun v => v = .bool true), .oth (fun v => v = .bool true), .oth (fun v => v = .bool true), .oth (fun v => v = .bool true), .oth (fun v => v = .bool true), .oth (fun v => v = .bool true)] w) (fun k => ([undef, undef, undef, undef, undef, undef, undef, undef, undef, undef, undef, undef, undef, undef, undef, undef, undef, undef, undef, undef, undef, undef, undef, undef, undef, undef, undef, undef, undef, undef, .bool false] : List Value).getD k undef) (by kernel_rfl) (by kernel_rfl) ?_ (by rfl) Keep.drew (holds_soft (by kernel_rfl)) ?_ ?_
  · intro u i v h
    rcases i with _ | _ | _ | _ | _ | _ | _ | _ | _ | _ | _ | _ | _ | _ | _ | _ | _ | _ | _ | _ | _ | _ | _ | _ | _ | _ | _ | _ | _ | _ | _ | i
    all_goals first | (simp [Act.put, putV]; done) | (exfalso; simp at h; omega)
  · intro hs
    refine ⟨?_, ?_, ?_, ?_, ?_, ?_, ?_, ?_, ?_, ?_, ?_, ?_, ?_, ?_, ?_, ?_, ?_, ?_, ?_, ?_, ?_, ?_, ?_, ?_, ?_, ?_, ?_, ?_, ?_, ?_, ?_, trivial⟩
    · exact step_pureO hs (wants_none rfl) rfl fun L u W hG hdep => ⟨_, run_move rfl, rfl⟩
    · refine step_callB hs (wants_none rfl) rfl fun L u W hJ hG hdep K hK => ?_
      have x0 := (show u 0 = .slice a n capa from hG 0 (hdep 0 (by kernel_rfl)))
      have hRB0 := (ha.below hbel).below (hJ.all rfl)
      go_simp
      go_at_call 14
      (with_reducible refine (clampB' hRB0).mono ?_); rintro e w1 ⟨g, n, cap, r, rfl, h1, h2, h3, h4, h5, hb⟩
      have hk := hK.out _ _ _ _ _ h1 h2 h3 h4 h5 hb
      simp only [x0] at hk
      exact hk
    · exact step_conv 1 hs (wants_none rfl) rfl rfl rfl (by kernel_rfl) (fun _ => rfl)
    · exact step_pureO hs (wants_none rfl) rfl fun L u W hG hdep => ⟨_, run_move rfl, rfl⟩
    · refine step_callB hs (wants_none rfl) rfl fun L u W hJ hG hdep K hK => ?_
      have x0 := (show u 3 = .slice a n capa from hG 3 (hdep 3 (by kernel_rfl)))
      have hRB0 := (ha.below hbel).below (hJ.all rfl)
      go_simp
      go_at_call 15
      (with_reducible refine (rclampB hRB0).mono ?_); rintro e w1 ⟨g, n, cap, r, rfl, h1, h2, h3, h4, h5, hb⟩
      have hk := hK.out _ _ _ _ _ h1 h2 h3 h4 h5 hb
      simp only [x0] at hk
      exact hk
    · exact step_conv 4 hs (wants_none rfl) rfl rfl rfl (by kernel_rfl) (fun _ => rfl)
    · exact step_pureO hs (wants_none rfl) rfl fun L u W hG hdep => ⟨_, run_eqlS rfl (show u 2 = (.string (bs (clampB la))) from hG 2 (hdep 2 (by kernel_rfl))) (show u 5 = (.string (bs (clampB la))) from hG 5 (hdep 5 (by kernel_rfl))), by simp⟩
    · exact step_pureO hs (wants_none rfl) rfl fun L u W hG hdep => ⟨_, run_move rfl, (show u 6 = .bool true from hG 6 (hdep 6 (by kernel_rfl)))⟩
    · exact step_pureO hs (wants_on 7 rfl rfl (by kernel_rfl) (fun _ => rfl)) rfl fun L u W hG hdep => ⟨_, run_move rfl, rfl⟩
    · exact step_pureO hs (wants_on 7 rfl rfl (by kernel_rfl) (fun _ => rfl)) rfl fun L u W hG hdep => ⟨_, run_move rfl, rfl⟩
    · refine step_callB hs (wants_on 7 rfl rfl (by kernel_rfl) (fun _ => rfl)) rfl fun L u W hJ hG hdep K hK => ?_
      have x0 := (show u 8 = .slice a n capa from hG 8 (hdep 8 (by kernel_rfl)))
      have x1 := (show u 9 = .slice b m capb from hG 9 (hdep 9 (by kernel_rfl)))
      have hRB0 := (ha.below hbel).below (hJ.all rfl)
      have hRB1 := (hb'.below hbel).below (hJ.all rfl)
      go_simp
      go_at_call 13
      (with_reducible refine (multB hRB0 hRB1).mono ?_); rintro e w1 ⟨g, n, cap, r, rfl, h1, h2, h3, h4, h5, hb⟩
      have hk := hK.out _ _ _ _ _ h1 h2 h3 h4 h5 hb
      simp only [x0, x1] at hk
      exact hk
    · exact step_conv 10 hs (wants_on 7 rfl rfl (by kernel_rfl) (fun _ => rfl)) rfl rfl rfl (by kernel_rfl) (fun _ => rfl)
    · exact step_pureO hs (wants_on 7 rfl rfl (by kernel_rfl) (fun _ => rfl)) rfl fun L u W hG hdep => ⟨_, run_move rfl, rfl⟩
    · exact step_pureO hs (wants_on 7 rfl rfl (by kernel_rfl) (fun _ => rfl)) rfl fun L u W hG hdep => ⟨_, run_move rfl, rfl⟩
    · refine step_callB hs (wants_on 7 rfl rfl (by kernel_rfl) (fun _ => rfl)) rfl fun L u W hJ hG hdep K hK => ?_
      have x0 := (show u 12 = .slice a n capa from hG 12 (hdep 12 (by kernel_rfl)))
      have x1 := (show u 13 = .slice b m capb from hG 13 (hdep 13 (by kernel_rfl)))
      have hRB0 := (ha.below hbel).below (hJ.all rfl)
      have hRB1 := (hb'.below hbel).below (hJ.all rfl)
      go_simp
      go_at_call 16
      (with_reducible refine (rmultB hRB0 hRB1).mono ?_); rintro e w1 ⟨g, n, cap, r, rfl, h1, h2, h3, h4, h5, hb⟩
      have hk := hK.out _ _ _ _ _ h1 h2 h3 h4 h5 hb
      simp only [x0, x1] at hk
      exact hk
    · exact step_conv 14 hs (wants_on 7 rfl rfl (by kernel_rfl) (fun _ => rfl)) rfl rfl rfl (by kernel_rfl) (fun _ => rfl)
    · exact step_pureO hs (wants_on 7 rfl rfl (by kernel_rfl) (fun _ => rfl)) rfl fun L u W hG hdep => ⟨_, run_eqlS rfl (show u 11 = (.string (bs (xB la lb))) from hG 11 (hdep 11 (by kernel_rfl))) (show u 15 = (.string (bs (xB la lb))) from hG 15 (hdep 15 (by kernel_rfl))), by simp⟩
    · exact step_pick true hs (wants_none rfl) rfl rfl (fun L u W hG hdep => (show u 7 = .bool true from hG 7 (hdep 7 (by kernel_rfl)))) (fun L u W hG hdep => (show u 16 = .bool true from hG 16 (hdep 16 (by kernel_rfl))))
    · exact step_pureO hs (wants_none rfl) rfl fun L u W hG hdep => ⟨_, run_move rfl, (show u 17 = .bool true from hG 17 (hdep 17 (by kernel_rfl)))⟩
    · exact step_pureO hs (wants_on 18 rfl rfl (by kernel_rfl) (fun _ => rfl)) rfl fun L u W hG hdep => ⟨_, run_move rfl, rfl⟩
    · refine step_callB hs (wants_on 18 rfl rfl (by kernel_rfl) (fun _ => rfl)) rfl fun L u W hJ hG hdep K hK => ?_
      have x0 := (show u 19 = .slice a n capa from hG 19 (hdep 19 (by kernel_rfl)))
      have hRB0 := (ha.below hbel).below (hJ.all rfl)
      go_simp
      go_at_call 17
      (with_reducible refine (baseB hRB0).mono ?_); rintro e w1 ⟨g, n, cap, r, rfl, h1, h2, h3, h4, h5, hb⟩
      have hk := hK.out _ _ _ _ _ h1 h2 h3 h4 h5 hb
      simp only [x0] at hk
      exact hk
    · exact step_conv 20 hs (wants_on 18 rfl rfl (by kernel_rfl) (fun _ => rfl)) rfl rfl rfl (by kernel_rfl) (fun _ => rfl)
    · exact step_pureO hs (wants_on 18 rfl rfl (by kernel_rfl) (fun _ => rfl)) rfl fun L u W hG hdep => ⟨_, run_move rfl, rfl⟩
    · refine step_callB hs (wants_on 18 rfl rfl (by kernel_rfl) (fun _ => rfl)) rfl fun L u W hJ hG hdep K hK => ?_
      have x0 := (show u 22 = .slice a n capa from hG 22 (hdep 22 (by kernel_rfl)))
      have hRB0 := (ha.below hbel).below (hJ.all rfl)
      go_simp
      go_at_call 18
      (with_reducible refine (rbaseB hRB0).mono ?_); rintro e w1 ⟨g, n, cap, r, rfl, h1, h2, h3, h4, h5, hb⟩
      have hk := hK.out _ _ _ _ _ h1 h2 h3 h4 h5 hb
      simp only [x0] at hk
      exact hk
    · exact step_conv 23 hs (wants_on 18 rfl rfl (by kernel_rfl) (fun _ => rfl)) rfl rfl rfl (by kernel_rfl) (fun _ => rfl)
    · exact step_pureO hs (wants_on 18 rfl rfl (by kernel_rfl) (fun _ => rfl)) rfl fun L u W hG hdep => ⟨_, run_eqlS rfl (show u 21 = (.string (bs (xB la [9]))) from hG 21 (hdep 21 (by kernel_rfl))) (show u 24 = (.string (bs (xB la [9]))) from hG 24 (hdep 24 (by kernel_rfl))), by simp⟩
    · exact step_pick true hs (wants_none rfl) rfl rfl (fun L u W hG hdep => (show u 18 = .bool true from hG 18 (hdep 18 (by kernel_rfl)))) (fun L u W hG hdep => (show u 25 = .bool true from hG 25 (hdep 25 (by kernel_rfl))))
    · exact step_pureO hs (wants_none rfl) rfl fun L u W hG hdep => ⟨_, run_move rfl, (show u 26 = .bool true from hG 26 (hdep 26 (by kernel_rfl)))⟩
    · refine step_callO hs (wants_on 27 rfl rfl (by kernel_rfl) (fun _ => rfl)) rfl fun L u W hJ hG hdep K hK => ?_
      go_simp
      go_at_call 9
      (with_reducible refine (law6awake_any _).mono ?_); rintro e w1 ⟨rfl, hb⟩
      have hk := hK.out _ _ rfl hb
      exact hk
    · exact step_pick true hs (wants_none rfl) rfl rfl (fun L u W hG hdep => (show u 27 = .bool true from hG 27 (hdep 27 (by kernel_rfl)))) (fun L u W hG hdep => (show u 28 = .bool true from hG 28 (hdep 28 (by kernel_rfl))))
    · exact step_pureO hs (wants_none rfl) rfl fun L u W hG hdep => ⟨_, run_assign rfl, (show u 29 = .bool true from hG 29 (hdep 29 (by kernel_rfl)))⟩
  intro L3 u3 W3 hall hJ hG
  have hb := hJ.all rfl
  have hbel := Below.call hbel hb
  have HC20 := Lib.hid (show u3 6 = .bool true from hG 6 (by simp))
  have HC21 := Lib.hid (show u3 7 = .bool true from hG 7 (by simp))
  have HC30 := Lib.hid (show u3 16 = .bool true from hG 16 (by simp))
  have HC31 := Lib.hid (show u3 17 = .bool true from hG 17 (by simp))
  have HC32 := Lib.hid (show u3 18 = .bool true from hG 18 (by simp))
  have HC39 := Lib.hid (show u3 25 = .bool true from hG 25 (by simp))
  have HC40 := Lib.hid (show u3 26 = .bool true from hG 26 (by simp))
  have HC41 := Lib.hid (show u3 27 = .bool true from hG 27 (by simp))
  have HC42 := Lib.hid (show u3 28 = .bool true from hG 28 (by simp))
  have HC43 := Lib.hid (show u3 29 = .bool true from hG 29 (by simp))
  have HC4 := Lib.hid (show u3 30 = .bool true from hG 30 (by simp))
  have hbel0 := hbel
  clear hJ hG hall hb
  rw [HC4.out]
  go_wp2
  go_ret
  exact ⟨rfl, hbel⟩
theorem xMults_any {a b : Option Addr} {n m capa capb : Nat} {la lb : List UInt8} (w : World) (ha : RdB w a n capa la) (hb : RdB w b m capb lb) :
    Calls Try.prog 5 #[.slice a n capa, .slice b m capb] w fun e w' => e = .returned (.bool true) ∧ Below w.heap.size w w' := by
  by_cases hn : n ≤ 100
  · by_cases hm : m ≤ 100
    · exact xMults_few w ha hb hn hm
    · have d1 : decide ((100 : Int) < (n : Int)) = false := by simp; omega
      have d2 : decide ((100 : Int) < (m : Int)) = true := by simp; omega
      clear hn hm
      go_enter Try.func5, Try.ntmps5
      go_wp2_with (go_at_call 9; (with_reducible refine (law6awake_any _).mono ?_); rintro e w2 ⟨rfl, h2⟩)
      go_ret
      exact ⟨rfl, h2⟩
  · have d1 : decide ((100 : Int) < (n : Int)) = true := by simp; omega
    clear hn
    go_enter Try.func5, Try.ntmps5
    go_wp2_with (go_at_call 9; (with_reducible refine (law6awake_any _).mono ?_); rintro e w2 ⟨rfl, h2⟩)
    go_ret
    exact ⟨rfl, h2⟩
namespace xMultsDone
theorem own : ownKnob Try.prog.godebug = none := by kernel_rfl
theorem laidOut : laidOutB Try.prog = true := by kernel_rfl
set_option maxRecDepth 100000 in
theorem lifted (os : Os) (started : os.Started) (H : Type) (enc : TypeId × Value → H) :
    ReturnsInHanded {} Try.checked os 5 .any (Rows.xMultsSpec.pre6 enc Try.prog Try.f5 Rows.xMultsRow.domain false) (Rows.xMultsSpec.post enc Try.prog Try.f5 false true false false) := by
  refine returnsInHanded_of_change (C := Try.checked) own started (by kernel_rfl) Try.func5
    (ChangeSpec.witness6 (enc := enc) (C := Try.checked) false ⟨#[], #[.slice none 0 0, .slice none 0 0], []⟩ 8 (by kernel_rfl) (by kernel_rfl) (by kernel_rfl) (by kernel_rfl)) ?_
  intro W base args ds gs before hval0 hW hcnd _
  have hval : ∀ (j : Nat) t v, Try.f5.params[j]? = some t → args[j]? = some v → Value.okWide Try.prog W .any base t v := hval0
  have hW' := hW
  obtain ⟨p, q, hA0, hV, rfl, hfz, hnd⟩ := hW
  have hA : DataW.TrodAll enc Try.prog W 0 (fun _ => true) true Try.f5.params.toList args.toList ds p := hA0
  rw [Try.params5] at hA hval
  obtain ⟨v0, vs0, d0, ds0, p0, q0, hargs, rfl, rfl, h0, r0⟩ := trodAll_cons hA
  obtain ⟨v1, vs1, d1, ds1, p1, q1, rfl, rfl, rfl, h1, r1⟩ := trodAll_cons r0
  obtain ⟨rfl, rfl, rfl⟩ := trodAll_nil r1
  obtain rfl : args = #[v0, v1] := by cases args; simp_all
  obtain ⟨rfl, rfl⟩ := trodVars_none hV
  obtain ⟨a0, len0, cap0, rfl⟩ := okWide_slice Try.underlying22 (hval 0 22 v0 rfl rfl)
  have k0 := h0
  have lt0 : ∀ x ∈ p0, x.block < W.heap.size := by obtain ⟨m, hm⟩ := k0; exact DataW.trod_lt m _ _ _ hm
  obtain ⟨l0, w0⟩ : ∃ l, RdB W a0 len0 cap0 l := by
    obtain ⟨fuel, hf⟩ := h0
    rcases open_ints Try.underlying22 Try.underlying5 (by kernel_rfl) hf with ⟨hcs, _⟩ | ⟨x, l, c, zs, hcs, _, hl, hm, hz, _, hcell, hwz⟩
    · simp [Value.cells] at hcs
      obtain ⟨rfl, rfl, rfl⟩ := hcs
      exact ⟨[], RdB.nil _⟩
    · simp [Value.cells] at hcs
      obtain ⟨rfl, rfl, rfl⟩ := hcs
      exact RdB.of_ints (.inr ⟨_, rfl, hl, hm, by simpa using hz, hcell, hwz⟩)
  obtain ⟨a1, len1, cap1, rfl⟩ := okWide_slice Try.underlying22 (hval 1 22 v1 rfl rfl)
  have k1 := h1
  have lt1 : ∀ x ∈ p1, x.block < W.heap.size := by obtain ⟨m, hm⟩ := k1; exact DataW.trod_lt m _ _ _ hm
  obtain ⟨l1, w1⟩ : ∃ l, RdB W a1 len1 cap1 l := by
    obtain ⟨fuel, hf⟩ := h1
    rcases open_ints Try.underlying22 Try.underlying5 (by kernel_rfl) hf with ⟨hcs, _⟩ | ⟨x, l, c, zs, hcs, _, hl, hm, hz, _, hcell, hwz⟩
    · simp [Value.cells] at hcs
      obtain ⟨rfl, rfl, rfl⟩ := hcs
      exact ⟨[], RdB.nil _⟩
    · simp [Value.cells] at hcs
      obtain ⟨rfl, rfl, rfl⟩ := hcs
      exact RdB.of_ints (.inr ⟨_, rfl, hl, hm, by simpa using hz, hcell, hwz⟩)
  clear hA0 hval0
  refine (xMults_any W w0 w1).mono fun e W' ⟨he, bel⟩ => ?_
  subst he
  exact ⟨_, rfl, _, _, _, [], _, [], hW', trodAll_mk1 (shut_bool Try.underlying4 _), (trodAll_cons_mk (Below.trod laidOut (by kernel_rfl) (of_decide_eq_true (by kernel_rfl)) k0 bel lt0) (trodAll_cons_mk (Below.trod laidOut (by kernel_rfl) (of_decide_eq_true (by kernel_rfl)) k1 bel lt1) trodAll_mk0)), rfl, bel.frame _, fun h => by cases h⟩
theorem over : Rows.xMultsRow.holds Try.pinned (OpenSpec.ofChange Rows.xMultsSpec) :=
  OpenClaim.holds_of_wide 5 Try.f5 rfl rfl rfl rfl rfl rfl rfl ⟨rfl, rfl, rfl, rfl, rfl⟩ rfl rfl rfl rfl rfl (by kernel_rfl) Try.func5 (by kernel_rfl)
    (of_decide_eq_true (by kernel_rfl)) (by unfold Func.isWrapper; first | (rw [if_pos (by decide +kernel)]; kernel_rfl) | (rw [if_neg (by decide +kernel)]; exact ⟨rfl, rfl⟩))
    (fun os started H enc _ => lifted os started H enc)
theorem proved : Rows.XMultsSaid := over
#print axioms proved
end xMultsDone

end Go.Proofs.Ytmoggjbnlimepaa
