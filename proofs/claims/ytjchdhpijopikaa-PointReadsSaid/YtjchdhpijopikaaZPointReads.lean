/- Of chapter 8, PointReads: for every input the law returns true, and each argument reads behind the call as it read before. No condition. -/
import Derived.Test.YtjchdhpijopikaaZPBF
import Derived.ProofKit
import Derived.ShutString
import Derived.ChangeOld
namespace Go.Proofs.Ytjchdhpijopikaa
open Go Go.ChangeShapes Go.WideShapes Go.ChangeAt Go.RowKit
open Go.ChangeMaps (open_string shut_string)

set_option maxRecDepth 100000 in
set_option maxHeartbeats 8000000 in
theorem pointReads_few {a : Option Addr} {na capa : Nat} {la : List UInt8} (w : World) (ha : RdB w a na capa la) (t0 : ¬ (100 : Int) < (na : Int)) :
    Calls Try.prog 3 #[.slice a na capa] w fun e w' => e = .returned (.bool true) ∧ Below w.heap.size w w' := by
  have d0 : decide ((100 : Int) < (na : Int)) = false := decide_eq_false t0
  clear t0
  go_enter Try.func3, Try.ntmps3
  have hbel : Below w.heap.size w w := Below.refl _ _
  have hbel0 := hbel
  go_upto_region 0 with fail
  refine wp_region_turn (fun u => #[.slice a na capa, undef, u 0, undef, undef, undef, undef, undef, undef, undef, undef, undef, undef, undef, undef, undef, undef, undef, undef, undef, undef, undef, undef, undef, undef, undef, undef, undef, undef, undef, undef, undef, undef, undef, undef, undef, undef, undef, undef, undef, undef, undef, undef, undef, undef, undef, undef, undef, undef, undef]) (Holds [.oth (fun v => v = .bool false)] w) (Keep [.oth (fun v => v = .bool false)] w) (fun _ => undef) ?_ (by rfl) Keep.start (holds_soft (by kernel_rfl)) ?_ ?_
  · intro u i v h
    rcases i with _ | i
    all_goals first | (simp [Act.put, putV]; done) | (exfalso; simp at h; omega)
  · intro hs
    refine ⟨?_, trivial⟩
    · exact step_pureO hs (wants_none rfl) rfl fun L u W hG hdep => ⟨_, run_assign rfl, rfl⟩
  intro L0 u0 W0 hall hJ hG
  have hb := hJ.all rfl
  have hbel := Below.call hbel hb
  have HC2 := Lib.hid (show u0 0 = .bool false from hG 0 (by simp))
  have hbel0 := hbel
  clear hJ hG hall hb
  go_upto_region 1 with fail
  refine wp_region_turn (fun u => #[.slice a na capa, undef, u0 0, undef, undef, undef, undef, u 0, u 1, u 2, undef, undef, undef, undef, undef, undef, undef, undef, undef, undef, undef, undef, undef, undef, undef, undef, undef, undef, undef, undef, undef, undef, undef, undef, undef, undef, undef, undef, undef, undef, undef, undef, undef, undef, undef, undef, undef, undef, undef, undef]) (Holds [.oth (fun v => v = .slice a na capa), .oth (fun v => v = .int .i64 (na : Nat)), .oth (fun v => v = .bool false)] W0) (Keep [.oth (fun v => v = .slice a na capa), .oth (fun v => v = .int .i64 (na : Nat)), .oth (fun v => v = .bool false)] W0) (fun _ => undef) ?_ (by rfl) Keep.start (holds_soft (by kernel_rfl)) ?_ ?_
  · intro u i v h
    rcases i with _ | _ | _ | i
    all_goals first | (simp [Act.put, putV]; done) | (exfalso; simp at h; omega)
  · intro hs
    refine ⟨?_, ?_, ?_, trivial⟩
    · exact step_pureO hs (wants_none rfl) rfl fun L u W hG hdep => ⟨_, run_move rfl, rfl⟩
    · refine step_pureO hs (wants_none rfl) rfl fun L u W hG hdep => ⟨_, ?_, rfl⟩
      have e0 := (show u 0 = .slice a na capa from hG 0 (hdep 0 (by kernel_rfl)))
      go_simp
    · refine step_pureO hs (wants_none rfl) rfl fun L u W hG hdep => ⟨_, ?_, rfl⟩
      have e0 := (show u 1 = .int .i64 (na : Nat) from hG 1 (hdep 1 (by kernel_rfl)))
      go_simp
      try simp [bne]
  intro L1 u1 W1 hall hJ hG
  have hb := hJ.all rfl
  have hbel := Below.call hbel hb
  have HC9 := Lib.hid (show u1 2 = .bool false from hG 2 (by simp))
  have hbel0 := hbel
  clear hJ hG hall hb
  have hx : u1 2 = .bool false := HC9.out
  go_wp2_with fail
  rw [hx]
  clear hx
  clear d0
  by_cases hc : decC la = 0
  · have HCC : Hid (decC la = 0) := Lib.hid (hc)
    have HE := Lib.hid (dec_back hc)
    obtain ⟨D, hD⟩ : ∃ D, decV la = D := ⟨_, rfl⟩
    obtain ⟨q, hq⟩ : ∃ q, decide (Cp.mul 8 D = Cp.zero) = q := ⟨_, rfl⟩
    rw [hD] at HE
    have HD := Lib.hid hD; have HQ := Lib.hid hq; clear hD hq hc
    go_upto_region 3 with fail
    refine wp_region_turn (fun u => #[.slice a na capa, undef, u0 0, u 5, u 7, undef, undef, u1 0, u1 1, .bool false, undef, u 2, u 0, u 1, u 3, u 4, undef, undef, undef, undef, undef, undef, undef, undef, undef, undef, undef, undef, undef, undef, undef, undef, undef, undef, undef, undef, undef, undef, undef, undef, undef, undef, undef, undef, undef, undef, undef, undef, undef, undef]) (Holds [.oth (fun v => v = .slice a na capa), .oth (fun v => IsTV rP v [D] (.int .i64 0)), .oth (fun v => IsTV rP v [D] (.int .i64 0)), .val rP [D], .oth (fun v => v = .int .i64 0), .new 20, .st 5 rP [D], .oth (fun v => v = .int .i64 0)] W1) (Keep [.oth (fun v => v = .slice a na capa), .oth (fun v => IsTV rP v [D] (.int .i64 0)), .oth (fun v => IsTV rP v [D] (.int .i64 0)), .val rP [D], .oth (fun v => v = .int .i64 0), .new 20, .st 5 rP [D], .oth (fun v => v = .int .i64 0)] W1) (fun _ => undef) ?_ (by rfl) Keep.start (holds_soft (by kernel_rfl)) ?_ ?_
    · intro u i v h
      rcases i with _ | _ | _ | _ | _ | _ | _ | _ | i
      all_goals first | (simp [Act.put, putV]; done) | (exfalso; simp at h; omega)
    · intro hs
      refine ⟨?_, ?_, ?_, ?_, ?_, ?_, ?_, ?_, trivial⟩
      · exact step_pureO hs (wants_none rfl) rfl fun L u W hG hdep => ⟨_, run_move rfl, rfl⟩
      · refine step_callO hs (wants_none rfl) rfl fun L u W hJ hG hL hdep K hK => ?_
        have x0 := (show u 0 = .slice a na capa from hG 0 (hdep 0 (by kernel_rfl)))
        have hRB0 := (ha.below hbel).below (hJ.all rfl)
        go_simp
        go_at_call 10
        (with_reducible refine (cDecode HD.out HCC.out hRB0).mono ?_); rintro e w1 ⟨r, rfl, hr, hb⟩
        have hk := hK.out _ _ ⟨r, rfl, hr⟩ hb
        simp only [x0] at hk
        exact hk
      · exact step_pureO hs (wants_none rfl) rfl fun L u W hG hdep => ⟨_, run_move rfl, (show IsTV rP (u 1) [D] (.int .i64 0) from hG 1 (hdep 1 (by kernel_rfl)))⟩
      · exact step_pure hs (wants_none rfl) rfl fun L u W hG hdep => run_extractV0 rfl (show IsTV rP (u 2) [D] (.int .i64 0) from hG 2 (hdep 2 (by kernel_rfl)))
      · exact step_pureO hs (wants_none rfl) rfl fun L u W hG hdep => run_extractV1 rfl (show IsTV rP (u 2) [D] (.int .i64 0) from hG 2 (hdep 2 (by kernel_rfl)))
      · exact step_alloc hs (wants_none rfl) rfl rfl (by omega) rfl allocP
      · exact step_store 5 hs (by kernel_rfl) (wants_none rfl) rfl rfl rfl (by kernel_rfl) (by kernel_rfl) (by kernel_rfl) (by kernel_rfl) (fun _ => rfl) (gives_op 3 rfl (by kernel_rfl) (fun _ => rfl)) tyP rfl
      · exact step_pureO hs (wants_none rfl) rfl fun L u W hG hdep => ⟨_, run_assign rfl, (show u 4 = .int .i64 0 from hG 4 (hdep 4 (by kernel_rfl)))⟩
    intro L3 u3a W3a hall hJ hG
    obtain ⟨q3, e3, hq3, _, ht3⟩ := (show ∃ g, u3a 5 = .pointer (some ⟨g, 0, none⟩) ∧ W1.heap.size ≤ g ∧ 0 < 20 ∧ W3a.there g 0 20 from hG 5 (by simp))
    have hm3 : HasFs rP W3a q3 0 [D] := by
      obtain ⟨g, e, _, h⟩ := (show ∃ g, u3a 5 = .pointer (some ⟨g, 0, none⟩) ∧ W1.heap.size ≤ g ∧ HasFs rP W3a g 0 [D] from hG 6 (by simp))
      rw [e3] at e; cases e; exact h
    have hq3 : w.heap.size ≤ q3 := by have := hbel0.size; omega
    have E3 := Lib.hid e3; clear e3
    have hb := hJ.all rfl
    have hbel := Below.call hbel hb
    have HC4 := Lib.hid (show u3a 7 = .int .i64 0 from hG 7 (by simp))
    have hbel0 := hbel
    clear hJ hG hall hb
    go_upto_region 4 with fail
    refine wp_region_turn (fun u => #[.slice a na capa, undef, u0 0, u3a 5, u3a 7, u 5, u 7, u1 0, u1 1, .bool false, undef, u3a 2, u3a 0, u3a 1, u3a 3, u3a 4, u 2, u 0, u 1, u 3, u 4, undef, undef, undef, undef, undef, undef, undef, undef, undef, undef, undef, undef, undef, undef, undef, undef, undef, undef, undef, undef, undef, undef, undef, undef, undef, undef, undef, undef, undef]) (Holds [.oth (fun v => v = .slice a na capa), .oth (fun v => IsTV rQ v [D] (.int .i64 0)), .oth (fun v => IsTV rQ v [D] (.int .i64 0)), .val rQ [D], .oth (fun v => v = .int .i64 0), .new 48, .st 5 rQ [D], .oth (fun v => v = .int .i64 0)] W3a) (Keep [.oth (fun v => v = .slice a na capa), .oth (fun v => IsTV rQ v [D] (.int .i64 0)), .oth (fun v => IsTV rQ v [D] (.int .i64 0)), .val rQ [D], .oth (fun v => v = .int .i64 0), .new 48, .st 5 rQ [D], .oth (fun v => v = .int .i64 0)] W3a) (fun _ => undef) ?_ (by rfl) Keep.start (holds_soft (by kernel_rfl)) ?_ ?_
    · intro u i v h
      rcases i with _ | _ | _ | _ | _ | _ | _ | _ | i
      all_goals first | (simp [Act.put, putV]; done) | (exfalso; simp at h; omega)
    · intro hs
      refine ⟨?_, ?_, ?_, ?_, ?_, ?_, ?_, ?_, trivial⟩
      · exact step_pureO hs (wants_none rfl) rfl fun L u W hG hdep => ⟨_, run_move rfl, rfl⟩
      · refine step_callO hs (wants_none rfl) rfl fun L u W hJ hG hL hdep K hK => ?_
        have x0 := (show u 0 = .slice a na capa from hG 0 (hdep 0 (by kernel_rfl)))
        have hRB0 := (ha.below hbel).below (hJ.all rfl)
        go_simp
        go_at_call 11
        (with_reducible refine (kDecode HD.out HCC.out hRB0).mono ?_); rintro e w1 ⟨r, rfl, hr, hb⟩
        have hk := hK.out _ _ ⟨r, rfl, hr⟩ hb
        simp only [x0] at hk
        exact hk
      · exact step_pureO hs (wants_none rfl) rfl fun L u W hG hdep => ⟨_, run_move rfl, (show IsTV rQ (u 1) [D] (.int .i64 0) from hG 1 (hdep 1 (by kernel_rfl)))⟩
      · exact step_pure hs (wants_none rfl) rfl fun L u W hG hdep => run_extractV0 rfl (show IsTV rQ (u 2) [D] (.int .i64 0) from hG 2 (hdep 2 (by kernel_rfl)))
      · exact step_pureO hs (wants_none rfl) rfl fun L u W hG hdep => run_extractV1 rfl (show IsTV rQ (u 2) [D] (.int .i64 0) from hG 2 (hdep 2 (by kernel_rfl)))
      · exact step_alloc hs (wants_none rfl) rfl rfl (by omega) rfl allocPt
      · exact step_store 5 hs (by kernel_rfl) (wants_none rfl) rfl rfl rfl (by kernel_rfl) (by kernel_rfl) (by kernel_rfl) (by kernel_rfl) (fun _ => rfl) (gives_op 3 rfl (by kernel_rfl) (fun _ => rfl)) tyPt rfl
      · exact step_pureO hs (wants_none rfl) rfl fun L u W hG hdep => ⟨_, run_assign rfl, (show u 4 = .int .i64 0 from hG 4 (hdep 4 (by kernel_rfl)))⟩
    intro L4 u4a W4a hall hJ hG
    obtain ⟨q5, e5, hq5, _, ht5⟩ := (show ∃ g, u4a 5 = .pointer (some ⟨g, 0, none⟩) ∧ W3a.heap.size ≤ g ∧ 0 < 48 ∧ W4a.there g 0 48 from hG 5 (by simp))
    have hm5 : HasFs rQ W4a q5 0 [D] := by
      obtain ⟨g, e, _, h⟩ := (show ∃ g, u4a 5 = .pointer (some ⟨g, 0, none⟩) ∧ W3a.heap.size ≤ g ∧ HasFs rQ W4a g 0 [D] from hG 6 (by simp))
      rw [e5] at e; cases e; exact h
    have HD5_q3 := Lib.hid (show q3 ≠ q5 by have := there_lt ht3 (by omega); omega)
    have hq5 : w.heap.size ≤ q5 := by have := hbel0.size; omega
    have E5 := Lib.hid e5; clear e5
    have hb := hJ.all rfl
    have hbel := Below.call hbel hb
    have hm3 := hm3.later hb
    have ht3 := there_later ht3 hb
    have HC6 := Lib.hid (show u4a 7 = .int .i64 0 from hG 7 (by simp))
    have hbel0 := hbel
    clear hJ hG hall hb
    go_upto_region 5 with fail
    refine wp_region_turn (fun u => #[.slice a na capa, undef, u0 0, u3a 5, u3a 7, u4a 5, u4a 7, u1 0, u1 1, .bool false, undef, u3a 2, u3a 0, u3a 1, u3a 3, u3a 4, u4a 2, u4a 0, u4a 1, u4a 3, u4a 4, u 0, u 1, u 2, u 3, u 4, u 5, u 6, u 7, u 8, undef, undef, undef, undef, undef, undef, undef, undef, undef, undef, undef, undef, undef, undef, undef, undef, undef, undef, undef, undef]) (Holds [.oth (fun v => v = .int .i64 0), .oth (fun v => v = .int .i64 0), .oth (fun v => v = .bool false), .oth (fun v => v = .bool false), .val rP [D], .val rQ [D], .oth (fun v => v = .bool true), .oth (fun v => v = .bool false), .oth (fun v => v = .bool false)] W4a) (Keep [.oth (fun v => v = .int .i64 0), .oth (fun v => v = .int .i64 0), .oth (fun v => v = .bool false), .oth (fun v => v = .bool false), .val rP [D], .val rQ [D], .oth (fun v => v = .bool true), .oth (fun v => v = .bool false), .oth (fun v => v = .bool false)] W4a) (fun _ => undef) ?_ (by rfl) Keep.start (holds_soft (by kernel_rfl)) ?_ ?_
    · intro u i v h
      rcases i with _ | _ | _ | _ | _ | _ | _ | _ | _ | i
      all_goals first | (simp [Act.put, putV]; done) | (exfalso; simp at h; omega)
    · intro hs
      refine ⟨?_, ?_, ?_, ?_, ?_, ?_, ?_, ?_, ?_, trivial⟩
      · exact step_pureO hs (wants_none rfl) rfl fun L u W hG hdep => ⟨_, run_move rfl, HC4.out⟩
      · exact step_pureO hs (wants_none rfl) rfl fun L u W hG hdep => ⟨_, run_move rfl, HC6.out⟩
      · refine step_pureO hs (wants_none rfl) rfl fun L u W hG hdep => ⟨_, ?_, rfl⟩
        have e0 := (show u 0 = .int .i64 0 from hG 0 (hdep 0 (by kernel_rfl)))
        have e1 := (show u 1 = .int .i64 0 from hG 1 (hdep 1 (by kernel_rfl)))
        go_simp
        try simp [bne]
      · exact step_pureO hs (wants_none rfl) rfl fun L u W hG hdep => ⟨_, run_move rfl, (show u 2 = .bool false from hG 2 (hdep 2 (by kernel_rfl)))⟩
      · exact step_load q3 0 hs (wants_on 3 rfl rfl (by kernel_rfl) (fun _ => rfl)) rfl rfl tyP (fun _ => E3.out) hm3.lt hm3 (noSto_apart (by kernel_rfl))
      · exact step_load q5 0 hs (wants_on 3 rfl rfl (by kernel_rfl) (fun _ => rfl)) rfl rfl tyPt (fun _ => E5.out) hm5.lt hm5 (noSto_apart (by kernel_rfl))
      · refine step_callO hs (wants_on 3 rfl rfl (by kernel_rfl) (fun _ => rfl)) rfl fun L u W hJ hG hL hdep K hK => ?_
        have a0 := (show IsFs rP (u 4) [D] from hG 4 (hdep 4 (by kernel_rfl)))
        have a1 := (show IsFs rQ (u 5) [D] from hG 5 (hdep 5 (by kernel_rfl)))
        go_simp
        go_at_call 12
        (with_reducible refine (cIsP a0 a1 _).mono ?_); rintro e w1 ⟨rfl, hb⟩
        have hk := hK.out _ _ rfl hb
        exact hk
      · refine step_pureO hs (wants_on 3 rfl rfl (by kernel_rfl) (fun _ => rfl)) rfl fun L u W hG hdep => ⟨_, ?_, rfl⟩
        have e0 := (show u 6 = .bool true from hG 6 (hdep 6 (by kernel_rfl)))
        go_simp
      · exact step_pick false hs (wants_none rfl) rfl rfl (fun L u W hG hdep => (show u 3 = .bool false from hG 3 (hdep 3 (by kernel_rfl)))) (fun L u W hG hdep => (show u 7 = .bool false from hG 7 (hdep 7 (by kernel_rfl))))
    intro L5 u5a W5a hall hJ hG
    have hb := hJ.all rfl
    have hbel := Below.call hbel hb
    have hm3 := hm3.later hb
    have hm5 := hm5.later hb
    have ht3 := there_later ht3 hb
    have ht5 := there_later ht5 hb
    have HC23 := Lib.hid (show u5a 2 = .bool false from hG 2 (by simp))
    have HC24 := Lib.hid (show u5a 3 = .bool false from hG 3 (by simp))
    have HC27 := Lib.hid (show u5a 6 = .bool true from hG 6 (by simp))
    have HC28 := Lib.hid (show u5a 7 = .bool false from hG 7 (by simp))
    have HC29 := Lib.hid (show u5a 8 = .bool false from hG 8 (by simp))
    have hbel0 := hbel
    clear hJ hG hall hb
    have hx : u5a 8 = .bool false := HC29.out
    go_wp2_with fail
    rw [hx]
    clear hx
    go_upto_region 7 with fail
    refine wp_region_mid (fun u => #[.slice a na capa, undef, u 20, u3a 5, u3a 7, u4a 5, u4a 7, u1 0, u1 1, .bool false, undef, u3a 2, u3a 0, u3a 1, u3a 3, u3a 4, u4a 2, u4a 0, u4a 1, u4a 3, u4a 4, u5a 0, u5a 1, u5a 2, u5a 3, u5a 4, u5a 5, u5a 6, u5a 7, .bool false, u 0, u 1, u 2, u 3, u 4, u 5, u 6, u 7, u 8, u 9, u 10, u 11, u 12, u 13, u 14, u 15, u 16, u 17, u 18, u 19]) (Holds [.oth (fun v => v = .int .i64 0), .oth (fun v => v = .bool false), .oth (fun v => v = .bool false), .val rP [D], .rd (encP D), .oth (fun v => v = (.string (bs (encP D)))), .oth (fun v => v = .slice a na capa), .oth (fun v => v = (.string (bs la))), .oth (fun v => v = .bool true), .oth (fun v => v = .bool true), .oth (fun v => v = .bool true), .val rP [D], .oth (fun v => v = .bool q), .val rQ [D], .oth (fun v => v = .bool q), .oth (fun v => v = .bool true), .oth (fun v => v = .bool true), .oth (fun v => v = .bool true), .oth (fun v => v = .bool true), .oth (fun v => v = .bool true), .oth (fun v => v = .bool true)] W5a) (Keep [.oth (fun v => v = .int .i64 0), .oth (fun v => v = .bool false), .oth (fun v => v = .bool false), .val rP [D], .rd (encP D), .oth (fun v => v = (.string (bs (encP D)))), .oth (fun v => v = .slice a na capa), .oth (fun v => v = (.string (bs la))), .oth (fun v => v = .bool true), .oth (fun v => v = .bool true), .oth (fun v => v = .bool true), .val rP [D], .oth (fun v => v = .bool q), .val rQ [D], .oth (fun v => v = .bool q), .oth (fun v => v = .bool true), .oth (fun v => v = .bool true), .oth (fun v => v = .bool true), .oth (fun v => v = .bool true), .oth (fun v => v = .bool true), .oth (fun v => v = .bool true)] W5a) (fun k => ((undef :: undef :: undef :: undef :: undef :: undef :: undef :: undef :: undef :: undef :: undef :: undef :: undef :: undef :: undef :: undef :: undef :: undef :: undef :: undef :: u0 0 :: []) : List Value).getD k undef) (by kernel_rfl) (by kernel_rfl) ?_ (by rfl) Keep.drew (holds_soft (by kernel_rfl)) ?_ ?_
    · intro u i v h
      rcases i with _ | _ | _ | _ | _ | _ | _ | _ | _ | _ | _ | _ | _ | _ | _ | _ | _ | _ | _ | _ | _ | i
      all_goals first | (simp [Act.put, putV]; done) | (exfalso; simp at h; omega)
    · intro hs
      refine ⟨?_, ?_, ?_, ?_, ?_, ?_, ?_, ?_, ?_, ?_, ?_, ?_, ?_, ?_, ?_, ?_, ?_, ?_, ?_, ?_, ?_, trivial⟩
      · exact step_pureO hs (wants_none rfl) rfl fun L u W hG hdep => ⟨_, run_move rfl, HC4.out⟩
      · refine step_pureO hs (wants_none rfl) rfl fun L u W hG hdep => ⟨_, ?_, rfl⟩
        have e0 := (show u 0 = .int .i64 0 from hG 0 (hdep 0 (by kernel_rfl)))
        go_simp
        try simp [bne]
      · exact step_pureO hs (wants_none rfl) rfl fun L u W hG hdep => ⟨_, run_move rfl, (show u 1 = .bool false from hG 1 (hdep 1 (by kernel_rfl)))⟩
      · exact step_load q3 0 hs (wants_on 2 rfl rfl (by kernel_rfl) (fun _ => rfl)) rfl rfl tyP (fun _ => E3.out) hm3.lt hm3 (noSto_apart (by kernel_rfl))
      · refine step_callB hs (wants_on 2 rfl rfl (by kernel_rfl) (fun _ => rfl)) rfl fun L u W hJ hG hL hdep K hK => ?_
        have a0 := (show IsFs rP (u 3) [D] from hG 3 (hdep 3 (by kernel_rfl)))
        go_simp
        go_at_call 13
        (with_reducible refine (cEncode a0 _).mono ?_); rintro e w1 ⟨g, n, cap, r, rfl, h1, h2, h3, h4, h5, hb⟩
        have hk := hK.out _ _ _ _ _ h1 h2 h3 h4 h5 hb
        exact hk
      · exact step_conv 4 hs (wants_on 2 rfl rfl (by kernel_rfl) (fun _ => rfl)) rfl rfl rfl (by kernel_rfl) (fun _ => rfl)
      · exact step_pureO hs (wants_on 2 rfl rfl (by kernel_rfl) (fun _ => rfl)) rfl fun L u W hG hdep => ⟨_, run_move rfl, rfl⟩
      · exact step_convC hs (wants_on 2 rfl rfl (by kernel_rfl) (fun _ => rfl)) rfl rfl (ha.below hbel) (by kernel_rfl) (fun L u W hG hdep => (show u 6 = .slice a na capa from hG 6 (hdep 6 (by kernel_rfl))))
      · exact step_pureO hs (wants_on 2 rfl rfl (by kernel_rfl) (fun _ => rfl)) rfl fun L u W hG hdep => ⟨_, run_eqlS rfl (show u 5 = (.string (bs (encP D))) from hG 5 (hdep 5 (by kernel_rfl))) (show u 7 = (.string (bs la)) from hG 7 (hdep 7 (by kernel_rfl))), by rw [decide_eq_true (show (encP D) = la from HE.out)]⟩
      · exact step_pick false hs (wants_none rfl) rfl rfl (fun L u W hG hdep => (show u 2 = .bool false from hG 2 (hdep 2 (by kernel_rfl)))) (fun L u W hG hdep => (show u 8 = .bool true from hG 8 (hdep 8 (by kernel_rfl))))
      · exact step_pureO hs (wants_none rfl) rfl fun L u W hG hdep => ⟨_, run_move rfl, (show u 9 = .bool true from hG 9 (hdep 9 (by kernel_rfl)))⟩
      · exact step_load q3 0 hs (wants_on 10 rfl rfl (by kernel_rfl) (fun _ => rfl)) rfl rfl tyP (fun _ => E3.out) hm3.lt hm3 (noSto_apart (by kernel_rfl))
      · refine step_callO hs (wants_on 10 rfl rfl (by kernel_rfl) (fun _ => rfl)) rfl fun L u W hJ hG hL hdep K hK => ?_
        have a0 := (show IsFs rP (u 11) [D] from hG 11 (hdep 11 (by kernel_rfl)))
        go_simp
        go_at_call 14
        (with_reducible refine (cPSmall (b := q) (HQ.out) a0 _).mono ?_); rintro e w1 ⟨rfl, hb⟩
        have hk := hK.out _ _ rfl hb
        exact hk
      · exact step_load q5 0 hs (wants_on 10 rfl rfl (by kernel_rfl) (fun _ => rfl)) rfl rfl tyPt (fun _ => E5.out) hm5.lt hm5 (noSto_apart (by kernel_rfl))
      · refine step_callO hs (wants_on 10 rfl rfl (by kernel_rfl) (fun _ => rfl)) rfl fun L u W hJ hG hL hdep K hK => ?_
        have a0 := (show IsFs rQ (u 13) [D] from hG 13 (hdep 13 (by kernel_rfl)))
        go_simp
        go_at_call 15
        (with_reducible refine (kPSmall (b := q) (HQ.out) a0 _).mono ?_); rintro e w1 ⟨rfl, hb⟩
        have hk := hK.out _ _ rfl hb
        exact hk
      · refine step_pureO hs (wants_on 10 rfl rfl (by kernel_rfl) (fun _ => rfl)) rfl fun L u W hG hdep => ⟨_, ?_, rfl⟩
        have e0 := (show u 12 = .bool q from hG 12 (hdep 12 (by kernel_rfl)))
        have e1 := (show u 14 = .bool q from hG 14 (hdep 14 (by kernel_rfl)))
        go_simp
        try simp
      · exact step_pick true hs (wants_none rfl) rfl rfl (fun L u W hG hdep => (show u 10 = .bool true from hG 10 (hdep 10 (by kernel_rfl)))) (fun L u W hG hdep => (show u 15 = .bool true from hG 15 (hdep 15 (by kernel_rfl))))
      · exact step_pureO hs (wants_none rfl) rfl fun L u W hG hdep => ⟨_, run_move rfl, (show u 16 = .bool true from hG 16 (hdep 16 (by kernel_rfl)))⟩
      · refine step_callO hs (wants_on 17 rfl rfl (by kernel_rfl) (fun _ => rfl)) rfl fun L u W hJ hG hL hdep K hK => ?_
        go_simp
        go_at_call 9
        (with_reducible refine (law8awake_any _).mono ?_); rintro e w1 ⟨rfl, hb⟩
        have hk := hK.out _ _ rfl hb
        exact hk
      · exact step_pick true hs (wants_none rfl) rfl rfl (fun L u W hG hdep => (show u 17 = .bool true from hG 17 (hdep 17 (by kernel_rfl)))) (fun L u W hG hdep => (show u 18 = .bool true from hG 18 (hdep 18 (by kernel_rfl))))
      · exact step_pureO hs (wants_none rfl) rfl fun L u W hG hdep => ⟨_, run_assign rfl, (show u 19 = .bool true from hG 19 (hdep 19 (by kernel_rfl)))⟩
    intro L7 u7a W7a hall hJ hG
    have hb := hJ.all rfl
    have hbel := Below.call hbel hb
    have hm3 := hm3.later hb
    have hm5 := hm5.later hb
    have ht3 := there_later ht3 hb
    have ht5 := there_later ht5 hb
    have HC31 := Lib.hid (show u7a 1 = .bool false from hG 1 (by simp))
    have HC32 := Lib.hid (show u7a 2 = .bool false from hG 2 (by simp))
    have HC38 := Lib.hid (show u7a 8 = .bool true from hG 8 (by simp))
    have HC39 := Lib.hid (show u7a 9 = .bool true from hG 9 (by simp))
    have HC40 := Lib.hid (show u7a 10 = .bool true from hG 10 (by simp))
    have HC42 := Lib.hid (show u7a 12 = .bool q from hG 12 (by simp))
    have HC44 := Lib.hid (show u7a 14 = .bool q from hG 14 (by simp))
    have HC45 := Lib.hid (show u7a 15 = .bool true from hG 15 (by simp))
    have HC46 := Lib.hid (show u7a 16 = .bool true from hG 16 (by simp))
    have HC47 := Lib.hid (show u7a 17 = .bool true from hG 17 (by simp))
    have HC48 := Lib.hid (show u7a 18 = .bool true from hG 18 (by simp))
    have HC49 := Lib.hid (show u7a 19 = .bool true from hG 19 (by simp))
    have HC2 := Lib.hid (show u7a 20 = .bool true from hG 20 (by simp))
    have hbel0 := hbel
    clear hJ hG hall hb
    rw [HC2.out]
    go_wp2
    go_ret
    exact ⟨rfl, hbel⟩
  · have HCC : Hid (decC la = 12) := Lib.hid (dec_no hc)
    obtain ⟨D, hD⟩ : ∃ D, decV la = D := ⟨_, rfl⟩
    obtain ⟨q, hq⟩ : ∃ q, decide (Cp.mul 8 D = Cp.zero) = q := ⟨_, rfl⟩
    have HD := Lib.hid hD; have HQ := Lib.hid hq; clear hD hq hc
    go_upto_region 3 with fail
    refine wp_region_turn (fun u => #[.slice a na capa, undef, u0 0, u 5, u 7, undef, undef, u1 0, u1 1, .bool false, undef, u 2, u 0, u 1, u 3, u 4, undef, undef, undef, undef, undef, undef, undef, undef, undef, undef, undef, undef, undef, undef, undef, undef, undef, undef, undef, undef, undef, undef, undef, undef, undef, undef, undef, undef, undef, undef, undef, undef, undef, undef]) (Holds [.oth (fun v => v = .slice a na capa), .oth (fun v => IsTV rP v [D] (.int .i64 12)), .oth (fun v => IsTV rP v [D] (.int .i64 12)), .val rP [D], .oth (fun v => v = .int .i64 12), .new 20, .st 5 rP [D], .oth (fun v => v = .int .i64 12)] W1) (Keep [.oth (fun v => v = .slice a na capa), .oth (fun v => IsTV rP v [D] (.int .i64 12)), .oth (fun v => IsTV rP v [D] (.int .i64 12)), .val rP [D], .oth (fun v => v = .int .i64 12), .new 20, .st 5 rP [D], .oth (fun v => v = .int .i64 12)] W1) (fun _ => undef) ?_ (by rfl) Keep.start (holds_soft (by kernel_rfl)) ?_ ?_
    · intro u i v h
      rcases i with _ | _ | _ | _ | _ | _ | _ | _ | i
      all_goals first | (simp [Act.put, putV]; done) | (exfalso; simp at h; omega)
    · intro hs
      refine ⟨?_, ?_, ?_, ?_, ?_, ?_, ?_, ?_, trivial⟩
      · exact step_pureO hs (wants_none rfl) rfl fun L u W hG hdep => ⟨_, run_move rfl, rfl⟩
      · refine step_callO hs (wants_none rfl) rfl fun L u W hJ hG hL hdep K hK => ?_
        have x0 := (show u 0 = .slice a na capa from hG 0 (hdep 0 (by kernel_rfl)))
        have hRB0 := (ha.below hbel).below (hJ.all rfl)
        go_simp
        go_at_call 10
        (with_reducible refine (cDecode HD.out HCC.out hRB0).mono ?_); rintro e w1 ⟨r, rfl, hr, hb⟩
        have hk := hK.out _ _ ⟨r, rfl, hr⟩ hb
        simp only [x0] at hk
        exact hk
      · exact step_pureO hs (wants_none rfl) rfl fun L u W hG hdep => ⟨_, run_move rfl, (show IsTV rP (u 1) [D] (.int .i64 12) from hG 1 (hdep 1 (by kernel_rfl)))⟩
      · exact step_pure hs (wants_none rfl) rfl fun L u W hG hdep => run_extractV0 rfl (show IsTV rP (u 2) [D] (.int .i64 12) from hG 2 (hdep 2 (by kernel_rfl)))
      · exact step_pureO hs (wants_none rfl) rfl fun L u W hG hdep => run_extractV1 rfl (show IsTV rP (u 2) [D] (.int .i64 12) from hG 2 (hdep 2 (by kernel_rfl)))
      · exact step_alloc hs (wants_none rfl) rfl rfl (by omega) rfl allocP
      · exact step_store 5 hs (by kernel_rfl) (wants_none rfl) rfl rfl rfl (by kernel_rfl) (by kernel_rfl) (by kernel_rfl) (by kernel_rfl) (fun _ => rfl) (gives_op 3 rfl (by kernel_rfl) (fun _ => rfl)) tyP rfl
      · exact step_pureO hs (wants_none rfl) rfl fun L u W hG hdep => ⟨_, run_assign rfl, (show u 4 = .int .i64 12 from hG 4 (hdep 4 (by kernel_rfl)))⟩
    intro L3 u3b W3b hall hJ hG
    obtain ⟨q3, e3, hq3, _, ht3⟩ := (show ∃ g, u3b 5 = .pointer (some ⟨g, 0, none⟩) ∧ W1.heap.size ≤ g ∧ 0 < 20 ∧ W3b.there g 0 20 from hG 5 (by simp))
    have hm3 : HasFs rP W3b q3 0 [D] := by
      obtain ⟨g, e, _, h⟩ := (show ∃ g, u3b 5 = .pointer (some ⟨g, 0, none⟩) ∧ W1.heap.size ≤ g ∧ HasFs rP W3b g 0 [D] from hG 6 (by simp))
      rw [e3] at e; cases e; exact h
    have hq3 : w.heap.size ≤ q3 := by have := hbel0.size; omega
    have E3 := Lib.hid e3; clear e3
    have hb := hJ.all rfl
    have hbel := Below.call hbel hb
    have HC4 := Lib.hid (show u3b 7 = .int .i64 12 from hG 7 (by simp))
    have hbel0 := hbel
    clear hJ hG hall hb
    go_upto_region 4 with fail
    refine wp_region_turn (fun u => #[.slice a na capa, undef, u0 0, u3b 5, u3b 7, u 5, u 7, u1 0, u1 1, .bool false, undef, u3b 2, u3b 0, u3b 1, u3b 3, u3b 4, u 2, u 0, u 1, u 3, u 4, undef, undef, undef, undef, undef, undef, undef, undef, undef, undef, undef, undef, undef, undef, undef, undef, undef, undef, undef, undef, undef, undef, undef, undef, undef, undef, undef, undef, undef]) (Holds [.oth (fun v => v = .slice a na capa), .oth (fun v => IsTV rQ v [D] (.int .i64 12)), .oth (fun v => IsTV rQ v [D] (.int .i64 12)), .val rQ [D], .oth (fun v => v = .int .i64 12), .new 48, .st 5 rQ [D], .oth (fun v => v = .int .i64 12)] W3b) (Keep [.oth (fun v => v = .slice a na capa), .oth (fun v => IsTV rQ v [D] (.int .i64 12)), .oth (fun v => IsTV rQ v [D] (.int .i64 12)), .val rQ [D], .oth (fun v => v = .int .i64 12), .new 48, .st 5 rQ [D], .oth (fun v => v = .int .i64 12)] W3b) (fun _ => undef) ?_ (by rfl) Keep.start (holds_soft (by kernel_rfl)) ?_ ?_
    · intro u i v h
      rcases i with _ | _ | _ | _ | _ | _ | _ | _ | i
      all_goals first | (simp [Act.put, putV]; done) | (exfalso; simp at h; omega)
    · intro hs
      refine ⟨?_, ?_, ?_, ?_, ?_, ?_, ?_, ?_, trivial⟩
      · exact step_pureO hs (wants_none rfl) rfl fun L u W hG hdep => ⟨_, run_move rfl, rfl⟩
      · refine step_callO hs (wants_none rfl) rfl fun L u W hJ hG hL hdep K hK => ?_
        have x0 := (show u 0 = .slice a na capa from hG 0 (hdep 0 (by kernel_rfl)))
        have hRB0 := (ha.below hbel).below (hJ.all rfl)
        go_simp
        go_at_call 11
        (with_reducible refine (kDecode HD.out HCC.out hRB0).mono ?_); rintro e w1 ⟨r, rfl, hr, hb⟩
        have hk := hK.out _ _ ⟨r, rfl, hr⟩ hb
        simp only [x0] at hk
        exact hk
      · exact step_pureO hs (wants_none rfl) rfl fun L u W hG hdep => ⟨_, run_move rfl, (show IsTV rQ (u 1) [D] (.int .i64 12) from hG 1 (hdep 1 (by kernel_rfl)))⟩
      · exact step_pure hs (wants_none rfl) rfl fun L u W hG hdep => run_extractV0 rfl (show IsTV rQ (u 2) [D] (.int .i64 12) from hG 2 (hdep 2 (by kernel_rfl)))
      · exact step_pureO hs (wants_none rfl) rfl fun L u W hG hdep => run_extractV1 rfl (show IsTV rQ (u 2) [D] (.int .i64 12) from hG 2 (hdep 2 (by kernel_rfl)))
      · exact step_alloc hs (wants_none rfl) rfl rfl (by omega) rfl allocPt
      · exact step_store 5 hs (by kernel_rfl) (wants_none rfl) rfl rfl rfl (by kernel_rfl) (by kernel_rfl) (by kernel_rfl) (by kernel_rfl) (fun _ => rfl) (gives_op 3 rfl (by kernel_rfl) (fun _ => rfl)) tyPt rfl
      · exact step_pureO hs (wants_none rfl) rfl fun L u W hG hdep => ⟨_, run_assign rfl, (show u 4 = .int .i64 12 from hG 4 (hdep 4 (by kernel_rfl)))⟩
    intro L4 u4b W4b hall hJ hG
    obtain ⟨q5, e5, hq5, _, ht5⟩ := (show ∃ g, u4b 5 = .pointer (some ⟨g, 0, none⟩) ∧ W3b.heap.size ≤ g ∧ 0 < 48 ∧ W4b.there g 0 48 from hG 5 (by simp))
    have hm5 : HasFs rQ W4b q5 0 [D] := by
      obtain ⟨g, e, _, h⟩ := (show ∃ g, u4b 5 = .pointer (some ⟨g, 0, none⟩) ∧ W3b.heap.size ≤ g ∧ HasFs rQ W4b g 0 [D] from hG 6 (by simp))
      rw [e5] at e; cases e; exact h
    have HD5_q3 := Lib.hid (show q3 ≠ q5 by have := there_lt ht3 (by omega); omega)
    have hq5 : w.heap.size ≤ q5 := by have := hbel0.size; omega
    have E5 := Lib.hid e5; clear e5
    have hb := hJ.all rfl
    have hbel := Below.call hbel hb
    have hm3 := hm3.later hb
    have ht3 := there_later ht3 hb
    have HC6 := Lib.hid (show u4b 7 = .int .i64 12 from hG 7 (by simp))
    have hbel0 := hbel
    clear hJ hG hall hb
    go_upto_region 5 with fail
    refine wp_region_turn (fun u => #[.slice a na capa, undef, u0 0, u3b 5, u3b 7, u4b 5, u4b 7, u1 0, u1 1, .bool false, undef, u3b 2, u3b 0, u3b 1, u3b 3, u3b 4, u4b 2, u4b 0, u4b 1, u4b 3, u4b 4, u 0, u 1, u 2, u 3, u 4, u 5, u 6, u 7, u 8, undef, undef, undef, undef, undef, undef, undef, undef, undef, undef, undef, undef, undef, undef, undef, undef, undef, undef, undef, undef]) (Holds [.oth (fun v => v = .int .i64 12), .oth (fun v => v = .int .i64 12), .oth (fun v => v = .bool false), .oth (fun v => v = .bool false), .val rP [D], .val rQ [D], .oth (fun v => v = .bool true), .oth (fun v => v = .bool false), .oth (fun v => v = .bool false)] W4b) (Keep [.oth (fun v => v = .int .i64 12), .oth (fun v => v = .int .i64 12), .oth (fun v => v = .bool false), .oth (fun v => v = .bool false), .val rP [D], .val rQ [D], .oth (fun v => v = .bool true), .oth (fun v => v = .bool false), .oth (fun v => v = .bool false)] W4b) (fun _ => undef) ?_ (by rfl) Keep.start (holds_soft (by kernel_rfl)) ?_ ?_
    · intro u i v h
      rcases i with _ | _ | _ | _ | _ | _ | _ | _ | _ | i
      all_goals first | (simp [Act.put, putV]; done) | (exfalso; simp at h; omega)
    · intro hs
      refine ⟨?_, ?_, ?_, ?_, ?_, ?_, ?_, ?_, ?_, trivial⟩
      · exact step_pureO hs (wants_none rfl) rfl fun L u W hG hdep => ⟨_, run_move rfl, HC4.out⟩
      · exact step_pureO hs (wants_none rfl) rfl fun L u W hG hdep => ⟨_, run_move rfl, HC6.out⟩
      · refine step_pureO hs (wants_none rfl) rfl fun L u W hG hdep => ⟨_, ?_, rfl⟩
        have e0 := (show u 0 = .int .i64 12 from hG 0 (hdep 0 (by kernel_rfl)))
        have e1 := (show u 1 = .int .i64 12 from hG 1 (hdep 1 (by kernel_rfl)))
        go_simp
        try simp [bne]
      · exact step_pureO hs (wants_none rfl) rfl fun L u W hG hdep => ⟨_, run_move rfl, (show u 2 = .bool false from hG 2 (hdep 2 (by kernel_rfl)))⟩
      · exact step_load q3 0 hs (wants_on 3 rfl rfl (by kernel_rfl) (fun _ => rfl)) rfl rfl tyP (fun _ => E3.out) hm3.lt hm3 (noSto_apart (by kernel_rfl))
      · exact step_load q5 0 hs (wants_on 3 rfl rfl (by kernel_rfl) (fun _ => rfl)) rfl rfl tyPt (fun _ => E5.out) hm5.lt hm5 (noSto_apart (by kernel_rfl))
      · refine step_callO hs (wants_on 3 rfl rfl (by kernel_rfl) (fun _ => rfl)) rfl fun L u W hJ hG hL hdep K hK => ?_
        have a0 := (show IsFs rP (u 4) [D] from hG 4 (hdep 4 (by kernel_rfl)))
        have a1 := (show IsFs rQ (u 5) [D] from hG 5 (hdep 5 (by kernel_rfl)))
        go_simp
        go_at_call 12
        (with_reducible refine (cIsP a0 a1 _).mono ?_); rintro e w1 ⟨rfl, hb⟩
        have hk := hK.out _ _ rfl hb
        exact hk
      · refine step_pureO hs (wants_on 3 rfl rfl (by kernel_rfl) (fun _ => rfl)) rfl fun L u W hG hdep => ⟨_, ?_, rfl⟩
        have e0 := (show u 6 = .bool true from hG 6 (hdep 6 (by kernel_rfl)))
        go_simp
      · exact step_pick false hs (wants_none rfl) rfl rfl (fun L u W hG hdep => (show u 3 = .bool false from hG 3 (hdep 3 (by kernel_rfl)))) (fun L u W hG hdep => (show u 7 = .bool false from hG 7 (hdep 7 (by kernel_rfl))))
    intro L5 u5b W5b hall hJ hG
    have hb := hJ.all rfl
    have hbel := Below.call hbel hb
    have hm3 := hm3.later hb
    have hm5 := hm5.later hb
    have ht3 := there_later ht3 hb
    have ht5 := there_later ht5 hb
    have HC23 := Lib.hid (show u5b 2 = .bool false from hG 2 (by simp))
    have HC24 := Lib.hid (show u5b 3 = .bool false from hG 3 (by simp))
    have HC27 := Lib.hid (show u5b 6 = .bool true from hG 6 (by simp))
    have HC28 := Lib.hid (show u5b 7 = .bool false from hG 7 (by simp))
    have HC29 := Lib.hid (show u5b 8 = .bool false from hG 8 (by simp))
    have hbel0 := hbel
    clear hJ hG hall hb
    have hx : u5b 8 = .bool false := HC29.out
    go_wp2_with fail
    rw [hx]
    clear hx
    go_upto_region 7 with fail
    refine wp_region_mid (fun u => #[.slice a na capa, undef, u 20, u3b 5, u3b 7, u4b 5, u4b 7, u1 0, u1 1, .bool false, undef, u3b 2, u3b 0, u3b 1, u3b 3, u3b 4, u4b 2, u4b 0, u4b 1, u4b 3, u4b 4, u5b 0, u5b 1, u5b 2, u5b 3, u5b 4, u5b 5, u5b 6, u5b 7, .bool false, u 0, u 1, u 2, u 3, u 4, u 5, u 6, u 7, u 8, u 9, u 10, u 11, u 12, u 13, u 14, u 15, u 16, u 17, u 18, u 19]) (Holds [.oth (fun v => v = .int .i64 12), .oth (fun v => v = .bool true), .oth (fun v => v = .bool true), .oth (fun v => v = undef), .oth (fun v => v = undef), .oth (fun v => v = undef), .oth (fun v => v = undef), .oth (fun v => v = undef), .oth (fun v => v = undef), .oth (fun v => v = .bool true), .oth (fun v => v = .bool true), .val rP [D], .oth (fun v => v = .bool q), .val rQ [D], .oth (fun v => v = .bool q), .oth (fun v => v = .bool true), .oth (fun v => v = .bool true), .oth (fun v => v = .bool true), .oth (fun v => v = .bool true), .oth (fun v => v = .bool true), .oth (fun v => v = .bool true)] W5b) (Keep [.oth (fun v => v = .int .i64 12), .oth (fun v => v = .bool true), .oth (fun v => v = .bool true), .oth (fun v => v = undef), .oth (fun v => v = undef), .oth (fun v => v = undef), .oth (fun v => v = undef), .oth (fun v => v = undef), .oth (fun v => v = undef), .oth (fun v => v = .bool true), .oth (fun v => v = .bool true), .val rP [D], .oth (fun v => v = .bool q), .val rQ [D], .oth (fun v => v = .bool q), .oth (fun v => v = .bool true), .oth (fun v => v = .bool true), .oth (fun v => v = .bool true), .oth (fun v => v = .bool true), .oth (fun v => v = .bool true), .oth (fun v => v = .bool true)] W5b) (fun k => ((undef :: undef :: undef :: undef :: undef :: undef :: undef :: undef :: undef :: undef :: undef :: undef :: undef :: undef :: undef :: undef :: undef :: undef :: undef :: undef :: u0 0 :: []) : List Value).getD k undef) (by kernel_rfl) (by kernel_rfl) ?_ (by rfl) Keep.drew (holds_soft (by kernel_rfl)) ?_ ?_
    · intro u i v h
      rcases i with _ | _ | _ | _ | _ | _ | _ | _ | _ | _ | _ | _ | _ | _ | _ | _ | _ | _ | _ | _ | _ | i
      all_goals first | (simp [Act.put, putV]; done) | (exfalso; simp at h; omega)
    · intro hs
      refine ⟨?_, ?_, ?_, ?_, ?_, ?_, ?_, ?_, ?_, ?_, ?_, ?_, ?_, ?_, ?_, ?_, ?_, ?_, ?_, ?_, ?_, trivial⟩
      · exact step_pureO hs (wants_none rfl) rfl fun L u W hG hdep => ⟨_, run_move rfl, HC4.out⟩
      · refine step_pureO hs (wants_none rfl) rfl fun L u W hG hdep => ⟨_, ?_, rfl⟩
        have e0 := (show u 0 = .int .i64 12 from hG 0 (hdep 0 (by kernel_rfl)))
        go_simp
        try simp [bne]
      · exact step_pureO hs (wants_none rfl) rfl fun L u W hG hdep => ⟨_, run_move rfl, (show u 1 = .bool true from hG 1 (hdep 1 (by kernel_rfl)))⟩
      · exact step_outU hs (wants_off 2 rfl rfl rfl (by kernel_rfl) (fun _ => rfl)) rfl
      · exact step_outU hs (wants_off 2 rfl rfl rfl (by kernel_rfl) (fun _ => rfl)) rfl
      · exact step_outU hs (wants_off 2 rfl rfl rfl (by kernel_rfl) (fun _ => rfl)) rfl
      · exact step_outU hs (wants_off 2 rfl rfl rfl (by kernel_rfl) (fun _ => rfl)) rfl
      · exact step_outU hs (wants_off 2 rfl rfl rfl (by kernel_rfl) (fun _ => rfl)) rfl
      · exact step_outU hs (wants_off 2 rfl rfl rfl (by kernel_rfl) (fun _ => rfl)) rfl
      · exact step_pick true hs (wants_none rfl) rfl rfl (fun L u W hG hdep => (show u 2 = .bool true from hG 2 (hdep 2 (by kernel_rfl)))) (fun L u W hG hdep => rfl)
      · exact step_pureO hs (wants_none rfl) rfl fun L u W hG hdep => ⟨_, run_move rfl, (show u 9 = .bool true from hG 9 (hdep 9 (by kernel_rfl)))⟩
      · exact step_load q3 0 hs (wants_on 10 rfl rfl (by kernel_rfl) (fun _ => rfl)) rfl rfl tyP (fun _ => E3.out) hm3.lt hm3 (noSto_apart (by kernel_rfl))
      · refine step_callO hs (wants_on 10 rfl rfl (by kernel_rfl) (fun _ => rfl)) rfl fun L u W hJ hG hL hdep K hK => ?_
        have a0 := (show IsFs rP (u 11) [D] from hG 11 (hdep 11 (by kernel_rfl)))
        go_simp
        go_at_call 14
        (with_reducible refine (cPSmall (b := q) (HQ.out) a0 _).mono ?_); rintro e w1 ⟨rfl, hb⟩
        have hk := hK.out _ _ rfl hb
        exact hk
      · exact step_load q5 0 hs (wants_on 10 rfl rfl (by kernel_rfl) (fun _ => rfl)) rfl rfl tyPt (fun _ => E5.out) hm5.lt hm5 (noSto_apart (by kernel_rfl))
      · refine step_callO hs (wants_on 10 rfl rfl (by kernel_rfl) (fun _ => rfl)) rfl fun L u W hJ hG hL hdep K hK => ?_
        have a0 := (show IsFs rQ (u 13) [D] from hG 13 (hdep 13 (by kernel_rfl)))
        go_simp
        go_at_call 15
        (with_reducible refine (kPSmall (b := q) (HQ.out) a0 _).mono ?_); rintro e w1 ⟨rfl, hb⟩
        have hk := hK.out _ _ rfl hb
        exact hk
      · refine step_pureO hs (wants_on 10 rfl rfl (by kernel_rfl) (fun _ => rfl)) rfl fun L u W hG hdep => ⟨_, ?_, rfl⟩
        have e0 := (show u 12 = .bool q from hG 12 (hdep 12 (by kernel_rfl)))
        have e1 := (show u 14 = .bool q from hG 14 (hdep 14 (by kernel_rfl)))
        go_simp
        try simp
      · exact step_pick true hs (wants_none rfl) rfl rfl (fun L u W hG hdep => (show u 10 = .bool true from hG 10 (hdep 10 (by kernel_rfl)))) (fun L u W hG hdep => (show u 15 = .bool true from hG 15 (hdep 15 (by kernel_rfl))))
      · exact step_pureO hs (wants_none rfl) rfl fun L u W hG hdep => ⟨_, run_move rfl, (show u 16 = .bool true from hG 16 (hdep 16 (by kernel_rfl)))⟩
      · refine step_callO hs (wants_on 17 rfl rfl (by kernel_rfl) (fun _ => rfl)) rfl fun L u W hJ hG hL hdep K hK => ?_
        go_simp
        go_at_call 9
        (with_reducible refine (law8awake_any _).mono ?_); rintro e w1 ⟨rfl, hb⟩
        have hk := hK.out _ _ rfl hb
        exact hk
      · exact step_pick true hs (wants_none rfl) rfl rfl (fun L u W hG hdep => (show u 17 = .bool true from hG 17 (hdep 17 (by kernel_rfl)))) (fun L u W hG hdep => (show u 18 = .bool true from hG 18 (hdep 18 (by kernel_rfl))))
      · exact step_pureO hs (wants_none rfl) rfl fun L u W hG hdep => ⟨_, run_assign rfl, (show u 19 = .bool true from hG 19 (hdep 19 (by kernel_rfl)))⟩
    intro L7 u7b W7b hall hJ hG
    have hb := hJ.all rfl
    have hbel := Below.call hbel hb
    have hm3 := hm3.later hb
    have hm5 := hm5.later hb
    have ht3 := there_later ht3 hb
    have ht5 := there_later ht5 hb
    have HC31 := Lib.hid (show u7b 1 = .bool true from hG 1 (by simp))
    have HC32 := Lib.hid (show u7b 2 = .bool true from hG 2 (by simp))
    have HC39 := Lib.hid (show u7b 9 = .bool true from hG 9 (by simp))
    have HC40 := Lib.hid (show u7b 10 = .bool true from hG 10 (by simp))
    have HC42 := Lib.hid (show u7b 12 = .bool q from hG 12 (by simp))
    have HC44 := Lib.hid (show u7b 14 = .bool q from hG 14 (by simp))
    have HC45 := Lib.hid (show u7b 15 = .bool true from hG 15 (by simp))
    have HC46 := Lib.hid (show u7b 16 = .bool true from hG 16 (by simp))
    have HC47 := Lib.hid (show u7b 17 = .bool true from hG 17 (by simp))
    have HC48 := Lib.hid (show u7b 18 = .bool true from hG 18 (by simp))
    have HC49 := Lib.hid (show u7b 19 = .bool true from hG 19 (by simp))
    have HC2 := Lib.hid (show u7b 20 = .bool true from hG 20 (by simp))
    have hbel0 := hbel
    clear hJ hG hall hb
    rw [HC2.out]
    go_wp2
    go_ret
    exact ⟨rfl, hbel⟩
set_option maxRecDepth 100000 in
theorem pointReads_any {a : Option Addr} {na capa : Nat} {la : List UInt8} (w : World) (ha : RdB w a na capa la) :
    Calls Try.prog 3 #[.slice a na capa] w fun e w' => e = .returned (.bool true) ∧ Below w.heap.size w w' := by
  by_cases t0 : (100 : Int) < (na : Int)
  · have e0 : decide ((100 : Int) < (na : Int)) = true := decide_eq_true t0
    clear t0
    go_enter Try.func3, Try.ntmps3
    go_wp2_with (go_at_call 9; (with_reducible refine (law8awake_any _).mono ?_); rintro e w2 ⟨rfl, h2⟩)
    go_ret
    exact ⟨rfl, h2⟩
  exact pointReads_few w ha t0
namespace pointReadsDone
theorem own : ownKnob Try.prog.godebug = none := by kernel_rfl
theorem laidOut : laidOutB Try.prog = true := by kernel_rfl
set_option maxRecDepth 100000 in
theorem lifted (os : Os) (started : os.Started) (H : Type) (enc : TypeId × Value → H) :
    ReturnsInHanded {} Try.checked os 3 .any (Rows.pointReadsSpec.pre6 enc Try.prog Try.f3 Rows.pointReadsRow.domain false) (Rows.pointReadsSpec.post enc Try.prog Try.f3 false true false false) := by
  refine returnsInHanded_of_change (C := Try.checked) own started (by kernel_rfl) Try.func3
    (ChangeSpec.witness6 (enc := enc) (C := Try.checked) false ⟨#[], #[.slice none 0 0], []⟩ 8 (by kernel_rfl) (by kernel_rfl) (by kernel_rfl) (by kernel_rfl)) ?_
  intro W base args ds gs before hval0 hW hcnd _
  have hval : ∀ (j : Nat) t v, Try.f3.params[j]? = some t → args[j]? = some v → Value.okWide Try.prog W .any base t v := hval0
  have hW' := hW
  obtain ⟨p, q, hA0, hV, rfl, hfz, hnd⟩ := hW
  have hA : DataW.TrodAll enc Try.prog W 0 (fun _ => true) true Try.f3.params.toList args.toList ds p := hA0
  rw [Try.params3] at hA hval
  obtain ⟨v0, vs0, d0, ds0, p0, q0, hargs, rfl, rfl, h0, r0⟩ := trodAll_cons hA
  obtain ⟨rfl, rfl, rfl⟩ := trodAll_nil r0
  obtain rfl : args = #[v0] := by cases args; simp_all
  obtain ⟨rfl, rfl⟩ := trodVars_none hV
  obtain ⟨a0, len0, cap0, rfl⟩ := okWide_slice Try.underlying22 (hval 0 22 v0 rfl rfl)
  have k0 := h0
  have lt0 : ∀ x ∈ p0, x.block < W.heap.size := by obtain ⟨m, hm⟩ := k0; exact DataW.trod_lt m _ _ _ hm
  obtain ⟨l0, w0⟩ : ∃ l, RdB W a0 len0 cap0 l := by
    obtain ⟨fuel, hf⟩ := h0
    rcases open_ints Try.underlying22 Try.underlying5 (by kernel_rfl) hf with ⟨hcs, _⟩ | ⟨x, l, c, zs, hcs, _, hl, hm, hz, _, hcell, hwz⟩
    · simp [Value.cells] at hcs
      obtain ⟨rfl, rfl, rfl⟩ := hcs
      exact ⟨[], RdB.nil _⟩
    · simp [Value.cells] at hcs
      obtain ⟨rfl, rfl, rfl⟩ := hcs
      exact RdB.of_ints (.inr ⟨_, rfl, hl, hm, by simpa using hz, hcell, hwz⟩)
  clear hA0 hval0
  refine (pointReads_any W w0).mono fun e W' ⟨he, bel⟩ => ?_
  subst he
  exact ⟨_, rfl, _, _, _, [], _, [], hW', trodAll_mk1 (shut_bool Try.underlying4 _), (trodAll_cons_mk (Below.trod laidOut (by kernel_rfl) (of_decide_eq_true (by kernel_rfl)) k0 bel lt0) trodAll_mk0), rfl, bel.frame _, fun h => by cases h⟩
theorem over : Rows.pointReadsRow.holds Try.pinned (OpenSpec.ofChange Rows.pointReadsSpec) :=
  OpenClaim.holds_of_wide 3 Try.f3 rfl rfl rfl rfl rfl rfl rfl ⟨rfl, rfl, rfl, rfl, rfl⟩ rfl rfl rfl rfl rfl (by kernel_rfl) Try.func3 (by kernel_rfl)
    (of_decide_eq_true (by kernel_rfl)) (by unfold Func.isWrapper; first | (rw [if_pos (by decide +kernel)]; kernel_rfl) | (rw [if_neg (by decide +kernel)]; exact ⟨rfl, rfl⟩))
    (fun os started H enc _ => lifted os started H enc)
theorem proved : Rows.PointReadsSaid := over
#print axioms proved
end pointReadsDone

end Go.Proofs.Ytjchdhpijopikaa
